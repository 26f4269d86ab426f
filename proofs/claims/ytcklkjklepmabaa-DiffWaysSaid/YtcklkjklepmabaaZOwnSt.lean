/-
  Images with snapshots: contract of the program's own.
-/
import Derived.Test.YtcklkjklepmabaaZSt
namespace Go.Proofs.Ytcklkjklepmabaa
open Go.RowKit
set_option linter.unusedVariables false
set_option linter.unusedSimpArgs false
set_option linter.unnecessarySimpa false
set_option maxRecDepth 100000

/-- elements that lead into blocks from B on alone -/
def fromR {α : Type} (R : α → List Value → World → Prop) (B : Nat) (x : α) (cs : List Value) (w : World) : Prop := R x cs w ∧ ∀ k, Pts cs k → B ≤ k
theorem from_rep {α : Type} {size : Nat} {R : α → List Value → World → Prop} (hR : Rep size R) (B : Nat) : Rep size (fromR R B) where
  len := fun x cs w h => hR.len x cs w h.1
  one := fun x cs w h => hR.one x cs w h.1
  keep := fun x cs w w' h hk => ⟨hR.keep x cs w w' h.1 hk, h.2⟩
  lt := fun x cs w h => hR.lt x cs w h.1
theorem All2.weak {α : Type} {R R' : α → List Value → World → Prop} {w : World} (hk : ∀ x cs, R x cs w → R' x cs w) : ∀ {xs : List α} {css : List (List Value)}, All2 R w xs css → All2 R' w xs css
  | _, _, .nil => .nil
  | _, _, .cons h t => .cons (hk _ _ h) (t.weak hk)
theorem Lst.weak {α : Type} {size : Nat} {R R' : α → List Value → World → Prop} {w : World} {A : Option Addr} {n c : Nat} {xs : List α} (h : Lst size R w A n c xs) (hk : ∀ x cs, R x cs w → R' x cs w) : Lst size R' w A n c xs := by
  obtain ⟨css, h1, h2⟩ := h.rd
  exact ⟨h.len, h.cap, h.max, css, h1.weak hk, h2⟩
theorem wpList_append_lst4 {P : Program} {α : Type} {size : Nat} {R : α → List Value → World → Prop} (hR : Rep size R)
    {ops : Array Oper} {rest : List Oper} {o : Oper} {a : Act} {Q : Exit → Act → World → Prop} {w : World} {B : Nat} (hgd : o.guard = none) (s y : Operand) (t tx : TypeId)
    (ho : o.op = .call { callee := .builtin .append, args := #[s, y], argTypes := #[t, tx] })
    (e : TypeId) (i : TypeInfo) (z : Value) (bytes : Nat) (ht : P.underlying t = some (.slice e)) (hi : P.info? e = some i) (hz : i.zero = some z)
    (hsize : i.size = size) (hby : i.bytes = bytes) (hzs : z.cells.size = size)
    (A : Option Addr) (n c : Nat) (xs : List α) (hsv : a.eval s = .slice A n c) (hown : OwnL e size R w B A n c xs) (Y : Value) (m : Nat) (ys : List α) (hy : a.eval y = Y) (hl : Feed P size R w tx A c Y m ys)
    (N : Nat) (hN : n + m = N) (zs : List α) (hzs' : xs ++ ys = zs) (h63 : N ≤ maxLen) (hbytes : N * bytes ≤ 140737488355328) (hB : B ≤ w.heap.size)
    (h : ∀ A' c' w', OwnL e size R w' B A' N c' zs → w.grownBy w' (rowOf A c) → (rowOf A' c' = rowOf A c ∨ rowOf A' c' = some w.heap.size) → wpList P ops Q rest (a.put o.dst (.slice A' N c')) w') : wpList P ops Q (o :: rest) a w := by
  subst hN hzs'
  obtain ⟨css, ha, ho1, hp⟩ := hown.own
  obtain ⟨hlen, dss, hb, hsrc, hk⟩ := hl
  refine wpList_append_mine _ hgd s y t tx ho B e i z size bytes ht hi hz hsize hby hzs A n c _ hsv ho1 _ hy m _ hsrc h63 hbytes hB ?_
  intro A3 c3 w3 hown3 hg3 hr3
  exact h A3 c3 w3 (OwnL.more hR hown.len hlen ha hp hb hk hown3 hg3 hr3) hg3 hr3
theorem cell_grown {w w' : World} {row : Option Nat} (hg : w.grownBy w' row) {p : Addr} {u : Value} (hc : w.cell? p = some u) (hne : row ≠ some p.block) : w'.cell? p = some u := by
  have hb := World.block_lt_of_cell? w p hc
  rw [← hc]
  exact World.cell?_of_block (hg.block p.block hb hne.symm)
theorem OwnL.setCell {α : Type} {size : Nat} {R : α → List Value → World → Prop} {e : TypeId} {w : World} {B : Nat} {A : Option Addr} {n c : Nat} {xs : List α} (hR : Rep size R) (h : OwnL e size R w B A n c xs) {p : Addr} (u : Value) (hne : rowOf A c ≠ some p.block) (hp : ∀ x cs, R x cs w → ∀ k, Pts cs k → k ≠ p.block) : OwnL e size R (w.setCell p u) B A n c xs := by
  obtain ⟨css, h1, h2, h3⟩ := h.own
  exact ⟨h.len, css, h1.mono fun x cs _ hr => hR.keep _ _ _ _ hr fun k hk => Below.heap_setCell _ _ _ _ (hp x cs hr k hk), h2.far (fun g hg e => hne (by rw [hg, e])) u, h3⟩
theorem Feed.from {P : Program} {α : Type} {size : Nat} {R R' : α → List Value → World → Prop} {e tx e' : TypeId} {w : World} {B B0 Bo : Nat} {A : Option Addr} {n c : Nat} {xs : List α} (hR : Rep size R) (ho : OwnL e size R' w Bo A n c xs) (hrow : ∀ g, rowOf A c = some g → g < B) (hB : B0 ≤ B)
    {A2 : Option Addr} {m c2 : Nat} {ys : List α} (h : Lst size (fromR R B) w A2 m c2 ys) (hk : P.underlying tx = some (.slice e')) : Feed P size (fromR R B0) w tx A c (.slice A2 m c2) m ys := by
  refine ⟨h.len, ?_⟩
  obtain ⟨dss, h1, h2⟩ := h.rd
  have hp : ∀ {zs : List α} {ess : List (List Value)}, All2 (fromR R B) w zs ess → ∀ cs ∈ ess, ∀ k, Pts cs k → B ≤ k := by
    intro zs ess hz
    induction hz with
    | nil => intro cs hc; simp at hc
    | cons h t ih =>
      intro cs hc k hk
      rcases List.mem_cons.1 hc with rfl | hc
      · exact h.2 k hk
      · exact ih cs hc k hk
  refine ⟨dss, h1.weak fun x cs q => ⟨q.1, fun k hk => Nat.le_trans hB (q.2 k hk)⟩, h2.src c2 hk (h1.one (from_rep hR B)), fun cs hcs k hk e => ?_⟩
  have q1 := hp h1 cs hcs k hk
  have q2 := hrow k e
  omega
theorem ol_lit {w : World} {B : Nat} {nm : ByteArray} {A : Option Addr} {n c : Nat} {d : List UInt8} (h : Fsl w B A n c d) (hs : nm.size ≤ maxLen) : Lst 2 (fromR olR B) (w.alloc (.cells #[.string nm, .slice A n c] TOl)) (some ⟨w.heap.size, 0, none⟩) 1 1 [⟨nm, d⟩] := by
  refine ⟨rfl, Nat.le_refl _, by simp [maxLen], [[.string nm, .slice A n c]], .cons ⟨⟨A, n, c, rfl, h.sl.ext (Ext.alloc _ _), hs⟩, fun k hk => ?_⟩ .nil, ?_⟩
  · obtain ⟨ad, e, hn, rfl⟩ := pts_ol hk
    exact h.fr ad e hn
  · exact (Own.made w w.heap.size TOl 2 #[.string nm, .slice A n c] 1 1 (Nat.le_refl _) (Nat.le_refl _) (by simp [maxLen]) rfl).rd
def OCl (B : Nat) (n : Nat) (d : List UInt8) : Ty := fun v w => ∃ A c, v = .slice A n c ∧ Fsl w B A n c d
theorem OCl.keeps (B n : Nat) (d : List UInt8) : Keeps Ext (OCl B n d) := fun _ _ _ hx ⟨A, c, e, h⟩ => ⟨A, c, e, h.ext hx⟩
def OBl (B : Nat) (nm : ByteArray) (n : Nat) (d : List UInt8) : Ty := fun v w => ∃ A c, v = .agg #[.string nm, .slice A n c] ∧ Fsl w B A n c d
theorem OBl.keeps (B : Nat) (nm : ByteArray) (n : Nat) (d : List UInt8) : Keeps Ext (OBl B nm n d) := fun _ _ _ hx ⟨A, c, e, h⟩ => ⟨A, c, e, h.ext hx⟩
def OLi (B : Nat) (x : Ol) : Ty := fun v w => ∃ A, v = .slice A 1 1 ∧ Lst 2 (fromR olR B) w A 1 1 [x]
theorem OLi.keeps (B : Nat) (x : Ol) : Keeps Ext (OLi B x) := fun _ _ _ hx ⟨A, e, h⟩ => ⟨A, e, h.ext (from_rep ol_rep B) hx⟩
/-- the local image as it stands between the append and the store -/
def OAp (go m : Nat) (v0 v1 : Value) (xs : List Ol) : Ty := fun v w => ∃ A c, v = .slice A m c ∧ OwnL TOl 2 (fromR olR (go + 1)) w (go + 1) A m c xs ∧ rowOf A c ≠ some go ∧ w.cell? ⟨go, 0, none⟩ = some v0 ∧ w.cell? ⟨go, 1, none⟩ = some v1 ∧ (∀ q, w.frozen? ⟨go, q, none⟩ = false) ∧ go < w.heap.size
def OEn (go m : Nat) (v0 : Value) (xs : List Ol) : Ty := fun _ w => ∃ A c, OwnL TOl 2 (fromR olR (go + 1)) w (go + 1) A m c xs ∧ w.cell? ⟨go, 0, none⟩ = some v0 ∧ w.cell? ⟨go, 1, none⟩ = some (.slice A m c) ∧ (∀ q, w.frozen? ⟨go, q, none⟩ = false) ∧ go < w.heap.size
theorem frozen_ext {a b : World} (h : Ext a b) {p : Addr} (hp : p.block < a.heap.size) (hf : a.frozen? p = false) : b.frozen? p = false := by
  have e : b.frozen? p = a.frozen? p := Below.frozen h hp
  rw [e]; exact hf
theorem OAp.keeps (go m : Nat) (v0 v1 : Value) (xs : List Ol) : Keeps Ext (OAp go m v0 v1 xs) := fun _ _ _ hx ⟨A, c, e, h, hr, h0, h1, hf, hs⟩ => ⟨A, c, e, h.ext (from_rep ol_rep _) hx, hr, hx.cell h0, hx.cell h1, fun q => frozen_ext hx hs (hf q), Nat.lt_of_lt_of_le hs hx.size⟩
theorem OEn.keeps (go m : Nat) (v0 : Value) (xs : List Ol) : Keeps Ext (OEn go m v0 xs) := fun _ _ _ hx ⟨A, c, h, h0, h1, hf, hs⟩ => ⟨A, c, h.ext (from_rep ol_rep _) hx, hx.cell h0, hx.cell h1, fun q => frozen_ext hx hs (hf q), Nat.lt_of_lt_of_le hs hx.size⟩
theorem take_stepO {α : Type} {xs : List α} {k : Nat} {x : α} (hx : xs[k]? = some x) : xs.take k ++ [x] = xs.take (k + 1) := by rw [List.take_add_one, hx]; rfl
set_option maxHeartbeats 4000000 in
theorem model_own {A : Option Addr} {n c : Nat} {A2 : Option Addr} {n2 c2 : Nat} {s : St} {w : World} (h : StR w A n c A2 n2 c2 s) (hn : n ≤ 1000) (hn2 : n2 ≤ 1000) (hd : ∀ x ∈ s.sn, x.d.length ≤ 1000) :
    Calls Try.prog 72 #[stV A n c A2 n2 c2] w fun e w' => ∃ A' c' A3 c3 B, e = .returned (stV A' n c' A3 n2 c3) ∧ Byt U8 w' w.heap.size A' n c' s.d ∧ OwnL TOl 2 (fromR olR B) w' B A3 n2 c3 s.sn ∧ (∀ g, rowOf A' c' = some g → g < B) ∧ w.heap.size ≤ B ∧ B ≤ w'.heap.size ∧ Ext w w' := by
  obtain ⟨h1, l1⟩ := h
  have h63 := h1.n63
  have h632 := l1.n63
  obtain ⟨i0, hi0, hz0, hz1, hz2⟩ := info_parts info_ol
  go_enter Try.func72, Try.ntmps72
  go_wp2_with fail
  have gx := (Ext.alloc w (.cells #[.slice A n c, .slice A2 n2 c2] 35)).trans (Ext.alloc _ (.cells #[.slice none 0 0, .slice none 0 0] 35))
  have p1 : ((w.alloc (.cells #[.slice A n c, .slice A2 n2 c2] 35)).alloc (.cells #[.slice none 0 0, .slice none 0 0] 35)).cell? ⟨w.heap.size, 1, none⟩ = some (.slice A2 n2 c2) := (Ext.alloc _ (.cells #[.slice none 0 0, .slice none 0 0] 35)).cell (cell_new w #[.slice A n c, .slice A2 n2 c2] 35 1)
  refine (slices_Clone A n c s.d _ (h1.ext gx) (by omega)).mono ?_
  rintro e w2 ⟨A', c', rfl, hb, hx2⟩
  have hxw := gx.trans hx2
  replace p1 := hx2.cell p1
  have p2 := (Ext.alloc w2 (.cells #[.slice A' n c', .slice none 0 0] 35)).cell p1
  go_wp2_with fail
  obtain ⟨w3, hw3⟩ : ∃ w3, w2.alloc (.cells #[.slice A' n c', .slice none 0 0] 35) = w3 := ⟨_, rfl⟩
  obtain ⟨go, hgo⟩ : ∃ go, w2.heap.size = go := ⟨_, rfl⟩
  have hx3 : Ext w2 w3 := by rw [← hw3]; exact Ext.alloc _ _
  have q0 : w3.cell? ⟨go, 0, none⟩ = some (.slice A' n c') := by rw [← hw3, ← hgo]; exact cell_new w2 _ _ 0
  have q1 : w3.cell? ⟨go, 1, none⟩ = some (.slice none 0 0) := by rw [← hw3, ← hgo]; exact cell_new w2 _ _ 1
  have qf : ∀ q, w3.frozen? ⟨go, q, none⟩ = false := fun q => by
    rw [← hw3, ← hgo]
    unfold World.frozen?
    rw [heap_alloc_new]
    simp
  have qs : w3.heap.size = go + 1 := by rw [← hw3, ← hgo]; simp
  have hs2 := hx2.size
  have hsx := hxw.size
  rw [hw3, hgo]
  clear hw3 p2
  go_loopw [13] (fun i wr => ∃ (k : Nat) (A3 : Option Addr) (c3 : Nat), k ≤ n2 ∧ i = .int .i64 k ∧ wr.cell? ⟨go, 0, none⟩ = some (.slice A' n c') ∧ wr.cell? ⟨go, 1, none⟩ = some (.slice A3 k c3) ∧ (∀ q, wr.frozen? ⟨go, q, none⟩ = false) ∧ OwnL TOl 2 (fromR olR (go + 1)) wr (go + 1) A3 k c3 (s.sn.take k) ∧ go < wr.heap.size ∧ Ext w2 wr) (fun i _ => n2 - (intOf i).toNat)
  case atStart => exact ⟨0, none, 0, by omega, rfl, q0, q1, qf, OwnL.nil _ _ _ _, by omega, hx3⟩
  case round =>
    obtain ⟨k, A3, c3, hk, rfl, r0, r1, rf, hown, hsz, hxr⟩ := hrel
    clear q0 q1 qf qs
    by_cases hlt : k < n2
    · obtain ⟨ga, oa, x, cs, rfl, hx, ⟨Aa, na, ca, rfl, sa0, hs1⟩, ha⟩ := l1.at2 ol_rep (by omega) hlt
      have g1 := hxw.trans hxr
      have a0 : wr.cell? ⟨ga, oa + k * 2, none⟩ = _ := g1.cell (ha 0 _ rfl)
      have a1 := g1.cell (ha 1 _ rfl)
      have sa := sa0.ext g1
      have hna : na ≤ 1000 := by have := hd x (List.mem_of_getElem? hx); rw [sa0.len] at this; exact this
      have HT := Lib.hid (take_stepO hx)
      obtain ⟨xn, xd⟩ := x
      simp only at a0 a1 sa hs1
      clear hx ha sa0
      obtain ⟨w5, hw5⟩ : ∃ w5, wr.alloc (.cells #[.string xn, .slice Aa na ca] 42) = w5 := ⟨_, rfl⟩
      have hx5 : Ext wr w5 := by rw [← hw5]; exact Ext.alloc _ _
      have t0 : w5.cell? ⟨wr.heap.size, 0, none⟩ = some (.string xn) := by rw [← hw5]; exact cell_new wr _ _ 0
      have t1 : w5.cell? ⟨wr.heap.size, 1, none⟩ = some (.slice Aa na ca) := by rw [← hw5]; exact cell_new wr _ _ 1
      have hs5 := hx5.size
      replace r0 := hx5.cell r0
      replace r1 := hx5.cell r1
      have rf5 : ∀ q, w5.frozen? ⟨go, q, none⟩ = false := fun q => frozen_ext hx5 hsz (rf q)
      have hown5 := hown.ext (from_rep ol_rep _) hx5
      have sa5 := sa.ext hx5
      have hg5 : go < w5.heap.size := by omega
      have hrow := hown5.row_lt
      go_wp2_with fail
      clear hw5 a0 a1 rf hown sa
      refine wp_region_typed2 (R := But go (fun _ => False)) Ext.steady (But.steady _ _) (fun _ _ => But.of_ext) rfl 30 rfl [0, 1, 0, 4, 0, 16, 48, 124, 252, 511, 1023, 2047] 2560 (by kernel_rfl) ?_
      -- 0: Op.fieldAddr 35 t3 1
      apply Stage2.step (Is _) true [] true false (Is.keeps _) (fun _ => Is.keeps _) (by kernel_rfl)
      · intro w1 h1
        have h1 : Ext _ w1 := h1
        simp only [List.nil_append, List.cons_append, List.map_cons, List.map_nil, Given]
        go_wp2_with fail
        exact Post.isv (Ext.refl _) rfl rfl rfl
      -- 1: Op.load 33 t17
      apply Stage2.step (Is _) true [true] true false (Is.keeps _) (fun _ => Is.keeps _) (by kernel_rfl)
      · intro w1 h1
        have h1 : Ext _ w1 := h1
        simp only [List.nil_append, List.cons_append, List.map_cons, List.map_nil, Sp.pr, Given]
        rintro _ rfl
        have hq := h1.cell r1
        go_wp2_with fail
        exact Post.isv (Ext.refl _) rfl rfl rfl
      -- 2: Op.fieldAddr 42 t5 0
      apply Stage2.step (Is _) true [] true false (Is.keeps _) (fun _ => Is.keeps _) (by kernel_rfl)
      · intro w1 h1
        have h1 : Ext _ w1 := h1
        simp only [List.nil_append, List.cons_append, List.map_cons, List.map_nil, Given]
        go_wp2_with fail
        exact Post.isv (Ext.refl _) rfl rfl rfl
      -- 3: Op.load 9 t19
      apply Stage2.step (Is _) true [false, false, true] true false (Is.keeps _) (fun _ => Is.keeps _) (by kernel_rfl)
      · intro w1 h1
        have h1 : Ext _ w1 := h1
        simp only [List.nil_append, List.cons_append, List.map_cons, List.map_nil, Sp.pr, Given]
        rintro _ rfl
        have hq := h1.cell t0
        go_wp2_with fail
        exact Post.isv (Ext.refl _) rfl rfl rfl
      -- 4: Op.fieldAddr 42 t5 1
      apply Stage2.step (Is _) true [] true false (Is.keeps _) (fun _ => Is.keeps _) (by kernel_rfl)
      · intro w1 h1
        have h1 : Ext _ w1 := h1
        simp only [List.nil_append, List.cons_append, List.map_cons, List.map_nil, Given]
        go_wp2_with fail
        exact Post.isv (Ext.refl _) rfl rfl rfl
      -- 5: Op.load 22 t21
      apply Stage2.step (Is _) true [false, false, false, false, true] true false (Is.keeps _) (fun _ => Is.keeps _) (by kernel_rfl)
      · intro w1 h1
        have h1 : Ext _ w1 := h1
        simp only [List.nil_append, List.cons_append, List.map_cons, List.map_nil, Sp.pr, Given]
        rintro _ rfl
        have hq := h1.cell t1
        go_wp2_with fail
        exact Post.isv (Ext.refl _) rfl rfl rfl
      -- 6: Op.call { value (Operand.func 75), args := #[t22], argTypes := #[22] }
      apply Stage2.step (OCl w5.heap.size na xd) false [false, false, false, false, false, true] true false (OCl.keeps _ _ _) (no_keeps) (by kernel_rfl)
      · intro w1 h1
        have h1 : Ext _ w1 := h1
        simp only [List.nil_append, List.cons_append, List.map_cons, List.map_nil, Sp.pr, Given]
        rintro _ rfl
        go_wp2_with fail
        refine (slices_Clone Aa na ca xd _ (sa5.ext h1) (by omega)).mono ?_
        rintro e w7 ⟨A7, c7, rfl, h7, hx7⟩
        go_wp2_with fail
        exact ⟨rfl, rfl, hx7, _, _, rfl, h7.fsl.low h1.size⟩
      -- 7: Op.build 42 #[(0, t20), (1, t23)]
      apply Stage2.step (OBl w5.heap.size xn na xd) false [false, false, false, true, false, false, true] true false (OBl.keeps _ _ _ _) (no_keeps) (by kernel_rfl)
      · intro w1 h1
        have h1 : Ext _ w1 := h1
        simp only [List.nil_append, List.cons_append, List.map_cons, List.map_nil, Sp.pr, Given]
        rintro _ rfl
        rintro _ ⟨A6, c6, rfl, h6⟩
        go_wp2_with fail
        exact ⟨rfl, rfl, Ext.refl _, _, _, rfl, h6⟩
      -- 8: Op.buildSlice 33 1 #[(0, t24)]
      apply Stage2.step (OLi w5.heap.size ⟨xn, xd⟩) false [false, false, false, false, false, false, false, true] true false (OLi.keeps _ _) (no_keeps) (by kernel_rfl)
      · intro w1 h1
        have h1 : Ext _ w1 := h1
        simp only [List.nil_append, List.cons_append, List.map_cons, List.map_nil, Sp.pr, Given]
        rintro _ ⟨A7, c7, rfl, h7⟩
        go_wp2_with fail
        exact ⟨rfl, rfl, Ext.alloc _ _, _, rfl, ol_lit h7 hs1⟩
      -- 9: Op.call { builtin append, args := #[t18, t25], argTypes := #[33, 33] }
      apply Stage2.step (OAp go (k + 1) (.slice A' n c') (.slice A3 k c3) (s.sn.take (k + 1))) false [false, true, false, false, false, false, false, false, true] true true (OAp.keeps _ _ _ _ _) (no_keeps) (by kernel_rfl)
      · intro w1 h1
        have h1 : Ext _ w1 := h1
        simp only [List.nil_append, List.cons_append, List.map_cons, List.map_nil, Sp.pr, Given]
        rintro _ rfl
        rintro _ ⟨A8, rfl, h8⟩
        have hfd := Feed.from (P := Try.prog) (tx := 33) (B0 := go + 1) ol_rep (hown5.ext (from_rep ol_rep _) h1) (fun g hg => (hrow g hg).2) (by omega) h8 under_ols
        have z0 := h1.cell r0
        have z1 := h1.cell r1
        have zf : ∀ q, w1.frozen? ⟨go, q, none⟩ = false := fun q => frozen_ext h1 hg5 (rf5 q)
        have zs : go < w1.heap.size := Nat.lt_of_lt_of_le hg5 h1.size
        have zr : rowOf A3 c3 ≠ some go := fun e => by have := (hrow go e).1; omega
        go_wp2_with (
          at_builtin
          refine wpList_append_lst4 (B := go + 1) (from_rep ol_rep _) rfl _ _ _ _ rfl TOl i0 _ 40 under_ols hi0 hz0 hz1 hz2 rfl A3 k c3 _ rfl (hown5.ext (from_rep ol_rep _) h1) _ 1 [⟨xn, xd⟩] rfl hfd (k + 1) rfl _ HT.out (by simp only [maxLen]; omega) (by omega) (by omega) ?_
          intro A9 c9 w9 hb9 hg9 hr9)
        exact ⟨rfl, rfl, But.grown (But.refl _ _ _) hg9 (fun g hg => .inr (by have := (hrow g hg).1; omega)), _, _, rfl, hb9, (by rcases hr9 with e | e <;> rw [e]; exact zr; intro e2; injection e2 with e2; omega), cell_grown hg9 z0 zr, cell_grown hg9 z1 zr, (fun q => by
          have hbk : w9.heap[go]? = w1.heap[go]? := hg9.block go zs (fun e => zr e.symm)
          have := zf q
          unfold World.frozen? at this ⊢
          rw [hbk]
          exact this), Nat.lt_of_lt_of_le zs hg9.size⟩
      -- 10: Op.fieldAddr 35 t3 1
      apply Stage2.step (Is _) true [] false false (Is.keeps _) (fun _ => Is.keeps _) (by kernel_rfl)
      · intro w1 h1
        have h1 : (But go (fun _ => False)) _ w1 := h1
        simp only [List.nil_append, List.cons_append, List.map_cons, List.map_nil, Given]
        go_wp2_with fail
        exact Post.isv (Ext.refl _) rfl rfl rfl
      -- 11: Op.store 33 t27 t26
      apply Stage2.step (OEn go (k + 1) (.slice A' n c') (s.sn.take (k + 1))) false [false, false, false, false, false, false, false, false, false, true, true] false true (OEn.keeps _ _ _ _) (no_keeps) (by kernel_rfl)
      · intro w1 h1
        have h1 : (But go (fun _ => False)) _ w1 := h1
        simp only [List.nil_append, List.cons_append, List.map_cons, List.map_nil, Sp.pr, Given]
        rintro _ ⟨A9, c9, rfl, h9, hr9, y0, y1, yf, ys⟩
        rintro _ rfl
        have f1 := yf 1
        go_wp2_with fail
        refine ⟨rfl, rfl, (show But go (fun _ => False) w1 _ from But.setCell (p := ⟨go, 1, none⟩) (But.refl go _ w1) (.inr (Nat.le_refl go)) (.slice A9 (k + 1) c9)), A9, c9, h9.setCell (from_rep ol_rep _) _ hr9 (fun x cs hr k hk e => by have := hr.2 k hk; simp only at e; omega), ?_, ?_, ?_, ?_⟩
        · rw [World.cell?_setCell_other _ _ _ _ (fun e => by injection e with e1 e2; omega)]; exact y0
        · exact World.cell?_setCell_same _ _ _ y1
        · intro q; rw [World.frozen?_setCell]; exact yf q
        · simp [World.setCell]; exact ys
      apply Stage2.nil [true, true, true, true, true, true, false, false, false, false, true, true] (by kernel_rfl)
      intro w1 h1
      have h1 : (But go (fun _ => False)) _ w1 := h1
      simp only [List.nil_append, List.cons_append, List.map_cons, List.map_nil, Sp.pr]
      refine Fin2.is_ ?_
      refine Fin2.is_ ?_
      refine Fin2.is_ ?_
      refine Fin2.is_ ?_
      refine Fin2.is_ ?_
      refine Fin2.is_ ?_
      refine Fin2.dead_ ?_
      intro dead6
      refine Fin2.dead_ ?_
      intro dead7
      refine Fin2.dead_ ?_
      intro dead8
      refine Fin2.dead_ ?_
      intro dead9
      refine Fin2.is_ ?_
      refine Fin2.step_ ?_
      rintro _ ⟨A12, c12, h12, x0, x1, xf, xs⟩
      refine Fin2.nil_ ?_
      go_simp
      go_wp2_with fail
      go_roundw
      case rel => exact ⟨k + 1, A12, c12, by omega, by go_num, x0, x1, xf, h12, xs, (hxr.trans hx5).but h1 (by omega) (fun _ h => h.elim)⟩
      case measure => simp [intOf]; omega
    · obtain rfl : n2 = k := by omega
      rw [List.take_of_length_le (by rw [l1.len]; exact Nat.le_refl _)] at hown
      have z0 : wr.cell? ⟨w.heap.size + 1, 0, none⟩ = some (.slice none 0 0) := (hx2.trans hxr).cell (by have := cell_new (w.alloc (.cells #[.slice A n c, .slice A2 n2 c2] 35)) #[.slice none 0 0, .slice none 0 0] 35 0; simpa using this)
      have z1 : wr.cell? ⟨w.heap.size + 1, 1, none⟩ = some (.slice none 0 0) := (hx2.trans hxr).cell (by have := cell_new (w.alloc (.cells #[.slice A n c, .slice A2 n2 c2] 35)) #[.slice none 0 0, .slice none 0 0] 35 1; simpa using this)
      have zf : ∀ q, wr.frozen? ⟨w.heap.size + 1, q, none⟩ = false := fun q => frozen_ext (hx2.trans hxr) (by simp) (by
        have e : (w.alloc (.cells #[.slice A n c, .slice A2 n2 c2] 35)).heap.size = w.heap.size + 1 := by simp
        rw [← e]
        unfold World.frozen?
        rw [heap_alloc_new]
        simp)
      have f0 := zf 0
      have f1 := zf 1
      have hbr := hb.own.row_ge
      have hb2 := hb.ext hxr
      have hs2' : w.heap.size + 2 ≤ go := by simp at hs2; omega
      have gxr := hxw.trans hxr
      clear zf rf
      go_wp2_with fail
      refine bodyPost_ret (v := stV A' n c' A3 n2 c3) ?hres rfl ⟨A', c', A3, c3, go + 1, rfl, ?hbb, ?hoo, ?hrr, ?hBB, ?hB2, ?hxx⟩
      case hres => simp [results, Try.results72, go_sem, z0, z1]
      case hbb =>
        have hfar : ∀ g, rowOf A' c' = some g → g ≠ w.heap.size + 1 := fun g hg => by have := (hbr g hg).1; simp at this; omega
        exact ((hb2.far hfar _).far hfar _).low (by simp; omega)
      case hoo =>
        refine ((hown.setCell (from_rep ol_rep _) _ (fun e => by have := (hown.row_lt _ e).1; simp only at this; omega) ?_).setCell (from_rep ol_rep _) _ (fun e => by have := (hown.row_lt _ e).1; simp only at this; omega) ?_)
        · intro x cs hr k hk e
          have := hr.2 k hk
          simp only at e
          omega
        · intro x cs hr k hk e
          have := hr.2 k hk
          simp only at e
          omega
      case hrr => exact fun g hg => by have := (hbr g hg).2; omega
      case hBB => omega
      case hB2 => simp [World.setCell]; omega
      case hxx => exact (gxr.sets (by simp) _).sets (by simp) _
end Go.Proofs.Ytcklkjklepmabaa
