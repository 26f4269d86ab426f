/-
  Chapter 9: the statements' own Make of messages with entries.
-/
import Derived.Test.YtoeknbogaclfdaaZFromMake9bToReg4
namespace Go.Proofs.Ytoeknbogaclfdaa
open Go.RowKit
set_option linter.unusedVariables false
set_option linter.unusedSimpArgs false
set_option linter.unnecessarySimpa false
set_option maxRecDepth 100000
def enRL (H : Nat) (x : En) (cs : List Value) (w : World) : Prop := enR x cs w ∧ ∀ k, Pts cs k → k < H
theorem enRL_rep (H : Nat) : Rep 3 (enRL H) where
  len := fun x cs w h => en_rep.len x cs w h.1
  one := fun x cs w h => en_rep.one x cs w h.1
  keep := fun x cs w w' h hk => ⟨en_rep.keep x cs w w' h.1 hk, h.2⟩
  lt := fun x cs w h => en_rep.lt x cs w h.1
theorem OwnL.setE {H B : Nat} {w : World} {A : Option Addr} {n c : Nat} {xs : List En} (h : OwnL TEn 3 (enRL H) w B A n c xs) {p : Addr} (h1 : H ≤ p.block) (h2 : p.block < B) (v : Value) : OwnL TEn 3 (enRL H) (w.setCell p v) B A n c xs := by
  obtain ⟨css, q1, q2, q3⟩ := h.own
  refine ⟨h.len, css, q1.mono (fun x cs _ hr => (enRL_rep H).keep _ _ _ _ hr fun k hk => Below.heap_setCell _ _ _ _ (by have := hr.2 k hk; omega)), q2.far (fun g hg e => by have := (q2.row_ge g hg).1; omega) v, q3⟩
theorem OwnL.setE6 {g j B : Nat} {w : World} {A : Option Addr} {n c : Nat} {xs : List En} (h : OwnL TEn 3 (enRL g) w B A n c xs) (h2 : g < B) (v : Value) : OwnL TEn 3 (enRL g) (w.setCell ⟨g, j, none⟩ v) B A n c xs := h.setE (p := ⟨g, j, none⟩) (Nat.le_refl _) h2 v
theorem OwnL.enL {H B : Nat} {w : World} {A : Option Addr} {n c : Nat} {xs : List En} (h : OwnL TEn 3 (enRL H) w B A n c xs) : Lst 3 enR w A n c xs := by
  obtain ⟨css, h1, h2, h3⟩ := h.own
  have h4 : ∀ {zs : List En} {ess : List (List Value)}, All2 (enRL H) w zs ess → All2 enR w zs ess := by
    intro zs ess hz
    induction hz with
    | nil => exact .nil
    | cons hx t ih => exact .cons hx.1 ih
  exact ⟨h.len, h2.caps.1, h2.caps.2, css, h4 h1, h2.rd⟩
theorem entsM_next (p : List UInt8) (t q : Int) (k : Nat) : entsM p t q (k + 1) = entsM p t q k ++ [entM p t q k] := by
  unfold entsM
  rw [List.range_succ, List.map_append]
  rfl
def EnO (H B n : Nat) (xs : List En) (row : Option Nat) : Ty := fun v u => ∃ A c, v = .slice A n c ∧ OwnL TEn 3 (enRL H) u B A n c xs
theorem wpList_append_lstM {P : Program} {α : Type} {size : Nat} {R : α → List Value → World → Prop} (hR : Rep size R)
    {ops : Array Oper} {rest : List Oper} {o : Oper} {a : Act} {Q : Exit → Act → World → Prop} {w : World} {B : Nat} (hgd : o.guard = none) (s y : Operand) (t tx : TypeId)
    (ho : o.op = .call { callee := .builtin .append, args := #[s, y], argTypes := #[t, tx] })
    (e : TypeId) (i : TypeInfo) (z : Value) (bytes : Nat) (ht : P.underlying t = some (.slice e)) (hi : P.info? e = some i) (hz : i.zero = some z)
    (hsize : i.size = size) (hby : i.bytes = bytes) (hzs : z.cells.size = size)
    (A : Option Addr) (n c : Nat) (xs : List α) (hsv : a.eval s = .slice A n c) (hown : OwnL e size R w B A n c xs) (Y : Value) (m : Nat) (ys : List α) (hy : a.eval y = Y) (hl : Feed P size R w tx A c Y m ys)
    (N : Nat) (hN : n + m = N) (zs : List α) (hzs' : xs ++ ys = zs) (h63 : N ≤ maxLen) (hbytes : N * bytes ≤ 140737488355328) (hB : B ≤ w.heap.size)
    (h : ∀ A' c' w', OwnL e size R w' B A' N c' zs → w.grownBy w' (rowOf A c) → wpList P ops Q rest (a.put o.dst (.slice A' N c')) w') : wpList P ops Q (o :: rest) a w := by
  subst hN hzs'
  obtain ⟨css, ha, ho1, hp⟩ := hown.own
  obtain ⟨hlen, dss, hb, hsrc, hk⟩ := hl
  refine wpList_append_mine _ hgd s y t tx ho B e i z size bytes ht hi hz hsize hby hzs A n c _ hsv ho1 _ hy m _ hsrc h63 hbytes hB ?_
  intro A3 c3 w3 hown3 hg3 hr3
  exact h A3 c3 w3 (OwnL.more hR hown.len hlen ha hp hb hk hown3 hg3 hr3) hg3
theorem en_litL {H : Nat} (w : World) (t s : Int) {A : Option Addr} {n c : Nat} {d : List UInt8} (hs : Sl w A n c d) (hp : ∀ ad, A = some ad → 0 < n → ad.block < H) (hH : H ≤ w.heap.size) : Lst 3 (enRL H) (w.alloc (.cells #[.int .i64 t, .int .i64 s, .slice A n c] TEn)) (some ⟨w.heap.size, 0, none⟩) 1 1 [⟨t, s, d⟩] := by
  have hP : ∀ k, Pts [.int .i64 t, .int .i64 s, .slice A n c] k → k < H := fun k hk => by
    obtain ⟨ad, e1, e2, e3⟩ := pts_en hk
    rw [← e3]
    exact hp ad e1 e2
  have h : OwnL TEn 3 (enRL H) (w.alloc (.cells #[.int .i64 t, .int .i64 s, .slice A n c] TEn)) w.heap.size (some ⟨w.heap.size, 0, none⟩) 1 1 [⟨t, s, d⟩] :=
    ⟨rfl, [[.int .i64 t, .int .i64 s, .slice A n c]], .cons ⟨⟨A, n, c, rfl, hs.ext (Ext.alloc _ _)⟩, hP⟩ .nil, Own.made w w.heap.size TEn 3 #[.int .i64 t, .int .i64 s, .slice A n c] 1 1 (Nat.le_refl _) (Nat.le_refl _) (by simp [maxLen]) rfl, fun cs hcs k hk e => by
      simp at hcs
      subst hcs
      have h1 := hP k hk
      simp [rowOf] at e
      omega⟩
  exact h.lst
def EnLL (H : Nat) (x : En) : Ty := fun v u => ∃ A c, v = .slice A 1 c ∧ Lst 3 (enRL H) u A 1 c [x]
theorem EnLL.keeps (H : Nat) (x : En) : Keeps Ext (EnLL H x) := fun _ _ _ hx ⟨A, c, e, h⟩ => ⟨A, c, e, h.ext (enRL_rep H) hx⟩
theorem EnLL.feed {H B : Nat} {x : En} {u : World} {A : Option Addr} {c : Nat} (h : Lst 3 (enRL H) u A 1 c [x]) {Ao : Option Addr} {k co : Nat} {out : List En} (ho : OwnL TEn 3 (enRL H) u B Ao k co out) (hB : H ≤ B) : Feed Try.prog 3 (enRL H) u 26 Ao co (.slice A 1 c) 1 [x] := by
  obtain ⟨css, h1, h2⟩ := h.src (P := Try.prog) (enRL_rep H) under_ens
  refine ⟨rfl, css, h1, h2, fun cs hcs q hq e => ?_⟩
  obtain ⟨y, hr⟩ := h1.mem cs hcs
  have e1 := hr.2 q hq
  have e2 := (ho.row_lt q e).1
  omega
theorem EnO.keeps (H B n : Nat) (xs : List En) (row : Option Nat) : Keeps Ext (EnO H B n xs row) := fun _ _ _ hx ⟨A, c, e, h⟩ => ⟨A, c, e, h.ext (enRL_rep H) hx⟩
set_option maxHeartbeats 8000000 in
theorem law9_Make_2 {kind : Int} {A : Option Addr} {n c : Nat} {l : List Int} {A' : Option Addr} {n' c' : Nat} {p : List UInt8} {w : World} (hl : Lst 1 intR w A n c l) (hn : n ≤ 1000) (hp : Sl w A' n' c' p) (hn6 : n' ≤ 1000000) {s0 s1 s2 s3 s4 : Int} (HS : Hid (svI l 0 = s0 ∧ svI l 1 = s1 ∧ svI l 2 = s2 ∧ svI l 3 = s3 ∧ svI l 4 = s4)) {n0 : Nat} (hn0 : bits BinOp.and IntKind.i64 s0 1048575 = (n0 : Int)) (hn0b : n0 ≤ 1048575) {u0 : Nat} (hu0 : bits BinOp.and IntKind.i64 kind 255 = (u0 : Int)) (hub : u0 ≤ 255) (hK : (u0 : Int) % 9 = 1) {lt : List Tg} {E : Int} (HG : Hid (growL l = (lt, E))) {p1 p2 t0 t3 : Nat} (hp1 : bits BinOp.and IntKind.i64 s1 65535 = (p1 : Int)) (hp1b : p1 ≤ 65535) (hp2 : bits BinOp.and IntKind.i64 s2 65535 = (p2 : Int)) (hp2b : p2 ≤ 65535) (ht0 : bits BinOp.and IntKind.i64 s4 63 = (t0 : Int)) (ht0b : t0 ≤ 63) (ht3 : bits BinOp.and IntKind.i64 s3 3 = (t3 : Int)) (ht3b : t3 ≤ 3) {N : Nat} (hN : min t3 n' = N) :
    Calls Try.prog 12 #[.int .i64 kind, .slice A n c, .slice A' n' c'] w fun e w' => ∃ B1 Bn1 Bc1 B2 Bn2 Bc2 B3 Bn3 Bc3 B4 Bn4 Bc4, e = .returned (msV ⟨2, 1 + (n0 : Int), (p1 : Int), (p2 : Int), 0, 0, lt, entsM p (1 + (t0 : Int)) (p1 : Int) N, [], []⟩ B1 Bn1 Bc1 B2 Bn2 Bc2 B3 Bn3 Bc3 B4 Bn4 Bc4) ∧ MsR w' ⟨2, 1 + (n0 : Int), (p1 : Int), (p2 : Int), 0, 0, lt, entsM p (1 + (t0 : Int)) (p1 : Int) N, [], []⟩ B1 Bn1 Bc1 B2 Bn2 Bc2 B3 Bn3 Bc3 B4 Bn4 Bc4 ∧ Ext w w' := by
  have HN := Lib.hid hN
  have h63 := hp.n63
  have hcap := hp.cap
  obtain ⟨ie, hie, he0, he1, he2⟩ := info_parts info_en
  clear hN
  go_enter Try.func12, Try.ntmps12
  go_wp2_with fail
  refine (law9_seven (hl.ext int_rep (Ext.alloc _ _))).mono ?_
  rintro e w2 ⟨rfl, hx2⟩
  rw [HS.out.1, HS.out.2.1, HS.out.2.2.1, HS.out.2.2.2.1, HS.out.2.2.2.2]
  obtain ⟨s5, hs5⟩ : ∃ z, svI l 5 = z := ⟨_, rfl⟩
  obtain ⟨s6, hs6⟩ : ∃ z, svI l 6 = z := ⟨_, rfl⟩
  rw [hs5, hs6]
  clear hs5 hs6
  have gx2 : Ext w w2 := (Ext.alloc _ _).trans hx2
  have hlt2 : w.heap.size < w2.heap.size := World.block_lt_of_cell? _ _ (hx2.cell (cell_new w zeroM' TMs 0))
  obtain ⟨W, hW⟩ : ∃ W, W = (w2.alloc (.cells #[.int .i64 s0, .int .i64 s1, .int .i64 s2, .int .i64 s3, .int .i64 s4, .int .i64 s5, .int .i64 s6] T7)).alloc (.cells (nilC 2 (1 + (n0 : Int)) 0 0 0 0) TMs) := ⟨_, rfl⟩
  have bk6 : W.heap[w.heap.size]? = some (.cells zeroM' TMs (0, 0)) := by
    rw [hW]
    exact blk_ext (blk_ext (blk_ext (heap_alloc_new w _) hx2) (Ext.alloc _ _)) (Ext.alloc _ _)
  have bk7 : W.heap[w2.heap.size]? = some (.cells #[.int .i64 s0, .int .i64 s1, .int .i64 s2, .int .i64 s3, .int .i64 s4, .int .i64 s5, .int .i64 s6] T7 (0, 0)) := by
    rw [hW]
    exact blk_ext (heap_alloc_new w2 _) (Ext.alloc _ _)
  have bk8 : W.heap[w2.heap.size + 1]? = some (.cells (nilC 2 (1 + (n0 : Int)) 0 0 0 0) TMs (0, 0)) := by
    rw [hW]
    have e : (w2.alloc (.cells #[.int .i64 s0, .int .i64 s1, .int .i64 s2, .int .i64 s3, .int .i64 s4, .int .i64 s5, .int .i64 s6] T7)).heap.size = w2.heap.size + 1 := by simp
    have := heap_alloc_new (w2.alloc (.cells #[.int .i64 s0, .int .i64 s1, .int .i64 s2, .int .i64 s3, .int .i64 s4, .int .i64 s5, .int .i64 s6] T7)) (.cells (nilC 2 (1 + (n0 : Int)) 0 0 0 0) TMs)
    rw [e] at this
    exact this
  have gxW : Ext w W := by rw [hW]; exact (gx2.allocs _).allocs _
  have hszW : W.heap.size = w2.heap.size + 2 := by rw [hW]; simp
  have HSZ := Lib.hid hszW
  have hq8 : w.heap.size ≤ w2.heap.size + 1 := by omega
  clear hszW hx2
  have x0 := blk_cell bk7 0
  have x1 := blk_cell bk7 1
  have x2 := blk_cell bk7 2
  have x3 := blk_cell bk7 3
  have x4 := blk_cell bk7 4
  have x5 := blk_cell bk7 5
  have x6 := blk_cell bk7 6
  have y0 := blk_cell bk8 0
  have z0 := blk_frozen bk8 0
  have k0 := blk_cell bk6 0
  have l0 := blk_frozen bk6 0
  have y1 := blk_cell bk8 1
  have z1 := blk_frozen bk8 1
  have k1 := blk_cell bk6 1
  have l1 := blk_frozen bk6 1
  have y2 := blk_cell bk8 2
  have z2 := blk_frozen bk8 2
  have k2 := blk_cell bk6 2
  have l2 := blk_frozen bk6 2
  have y3 := blk_cell bk8 3
  have z3 := blk_frozen bk8 3
  have k3 := blk_cell bk6 3
  have l3 := blk_frozen bk6 3
  have y4 := blk_cell bk8 4
  have z4 := blk_frozen bk8 4
  have k4 := blk_cell bk6 4
  have l4 := blk_frozen bk6 4
  have y5 := blk_cell bk8 5
  have z5 := blk_frozen bk8 5
  have k5 := blk_cell bk6 5
  have l5 := blk_frozen bk6 5
  have y6 := blk_cell bk8 6
  have z6 := blk_frozen bk8 6
  have k6 := blk_cell bk6 6
  have l6 := blk_frozen bk6 6
  have y7 := blk_cell bk8 7
  have z7 := blk_frozen bk8 7
  have k7 := blk_cell bk6 7
  have l7 := blk_frozen bk6 7
  have y8 := blk_cell bk8 8
  have z8 := blk_frozen bk8 8
  have k8 := blk_cell bk6 8
  have l8 := blk_frozen bk6 8
  have y9 := blk_cell bk8 9
  have z9 := blk_frozen bk8 9
  have k9 := blk_cell bk6 9
  have l9 := blk_frozen bk6 9
  go_upto_region 3 with fail
  rw [← hW]
  clear hW
  go_upto_region 7 with fail
  go_cut [] (fun wx => wx.heap[w2.heap.size + 1]? = some (.cells (nilC 2 (1 + (n0 : Int)) (p1 : Int) (p2 : Int) 0 0) TMs (0, 0)) ∧ wx.heap[w2.heap.size]? = some (.cells #[.int .i64 s0, .int .i64 s1, .int .i64 s2, .int .i64 s3, .int .i64 s4, .int .i64 s5, .int .i64 s6] T7 (0, 0)) ∧ wx.heap[w.heap.size]? = some (.cells zeroM' TMs (0, 0)) ∧ Ext w wx ∧ wx.heap.size = w2.heap.size + 2)
  case first =>
    go_region
    all_goals
      go_wp2_with fail
      go_meet
      have e8 := blk_set (blk_set bk8 2 (.int .i64 (p1 : Int))) 3 (.int .i64 (p2 : Int))
      have e7 := blk_far (blk_far bk7 (p := ⟨w2.heap.size + 1, 2, none⟩) (by simp) (.int .i64 (p1 : Int))) (p := ⟨w2.heap.size + 1, 3, none⟩) (by simp) (.int .i64 (p2 : Int))
      have e6 := blk_far (blk_far bk6 (p := ⟨w2.heap.size + 1, 2, none⟩) (by simp; omega) (.int .i64 (p1 : Int))) (p := ⟨w2.heap.size + 1, 3, none⟩) (by simp; omega) (.int .i64 (p2 : Int))
      have eX := (gxW.sets (p := ⟨w2.heap.size + 1, 2, none⟩) hq8 (.int .i64 (p1 : Int))).sets (p := ⟨w2.heap.size + 1, 3, none⟩) hq8 (.int .i64 (p2 : Int))
      have eS : ((W.setCell ⟨w2.heap.size + 1, 2, none⟩ (.int .i64 (p1 : Int))).setCell ⟨w2.heap.size + 1, 3, none⟩ (.int .i64 (p2 : Int))).heap.size = w2.heap.size + 2 := by simp; exact HSZ.out
      refine ⟨?_, ?_, ?_, ?_, ?_⟩
      · exact e8
      · exact e7
      · exact e6
      · first | exact eX | exact eX.draws | exact Ext.draws eX
      · exact eS
  case rest =>
  obtain ⟨ba8, ba7, ba6, gx1, hsz1⟩ := hcut
  have HSZ1 := Lib.hid hsz1
  clear hsz1 bk6 bk7 bk8 gxW k0 k1 k2 k3 k4 k5 k6 k7 k8 k9 l0 l1 l2 l3 l4 l5 l6 l7 l8 l9 x0 x1 x2 x3 x4 x5 x6 y0 y1 y2 y3 y4 y5 y6 y7 y8 y9 z0 z1 z2 z3 z4 z5 z6 z7 z8 z9
  go_wp2_with fail
  refine (law6_Grow (hl.ext int_rep gx1) hn HG).mono ?_
  rintro e w3 ⟨A1, n1, c1, rfl, h3, hx3⟩
  have bb8 := blk_ext ba8 hx3
  have bb7 := blk_ext ba7 hx3
  have bb6 := blk_ext ba6 hx3
  have gx3 := gx1.trans hx3
  have hsz3 : w2.heap.size + 2 ≤ w3.heap.size := by rw [← HSZ1.out]; exact hx3.size
  have HC : Hid (Hi (w2.heap.size + 2) (fun u => Lst 4 tgR u A1 n1 c1 lt) w3) := (h3.hiFlat tg_rep (fun x cs w h => tg_nopM h)).low (by rw [HSZ1.out]; exact Nat.le_refl _)
  clear h3 hx3 gx1 ba8 ba7 ba6
  have x0 := blk_cell bb7 0
  have x1 := blk_cell bb7 1
  have x2 := blk_cell bb7 2
  have x3 := blk_cell bb7 3
  have x4 := blk_cell bb7 4
  have x5 := blk_cell bb7 5
  have x6 := blk_cell bb7 6
  have y0 := blk_cell bb8 0
  have z0 := blk_frozen bb8 0
  have y1 := blk_cell bb8 1
  have z1 := blk_frozen bb8 1
  have y2 := blk_cell bb8 2
  have z2 := blk_frozen bb8 2
  have y3 := blk_cell bb8 3
  have z3 := blk_frozen bb8 3
  have y4 := blk_cell bb8 4
  have z4 := blk_frozen bb8 4
  have y5 := blk_cell bb8 5
  have z5 := blk_frozen bb8 5
  have y6 := blk_cell bb8 6
  have z6 := blk_frozen bb8 6
  have y7 := blk_cell bb8 7
  have z7 := blk_frozen bb8 7
  have y8 := blk_cell bb8 8
  have z8 := blk_frozen bb8 8
  have y9 := blk_cell bb8 9
  have z9 := blk_frozen bb8 9
  obtain ⟨w4, hw4⟩ : ∃ q, q = w3.setCell ⟨w2.heap.size + 1, 6, none⟩ (.slice A1 n1 c1) := ⟨_, rfl⟩
  have bc8 : w4.heap[w2.heap.size + 1]? = some (.cells #[.int .i64 2, .int .i64 (1 + (n0 : Int)), .int .i64 (p1 : Int), .int .i64 (p2 : Int), .int .i64 0, .int .i64 0, .slice A1 n1 c1, .slice none 0 0, .slice none 0 0, .slice none 0 0] TMs (0, 0)) := by
    rw [hw4]
    have := blk_set bb8 6 (.slice A1 n1 c1)
    simpa using this
  have bc7 := blk_far bb7 (p := ⟨w2.heap.size + 1, 6, none⟩) (by simp) (.slice A1 n1 c1)
  have bc6 := blk_far bb6 (p := ⟨w2.heap.size + 1, 6, none⟩) (by simp; omega) (.slice A1 n1 c1)
  rw [← hw4] at bc7 bc6
  have gx4 : Ext w w4 := by rw [hw4]; exact gx3.sets hq8 _
  have q8 : w2.heap.size + 1 < w2.heap.size + 2 := by omega
  have HC4 : Hid (Hi (w2.heap.size + 2) (fun u => Lst 4 tgR u A1 n1 c1 lt) w4) := by rw [hw4]; exact HC.out.set q8 _
  have hsz4 : w2.heap.size + 2 ≤ w4.heap.size := by rw [hw4]; simp; exact hsz3
  have HB8 := Lib.hid bc8
  have HB7 := Lib.hid bc7
  have HB6 := Lib.hid bc6
  clear bb8 bb7 bb6 gx3 HC hsz3
  go_wp2_with fail
  rw [← hw4]
  clear hw4 x0 x1 x2 x3 x4 x5 x6 y0 y1 y2 y3 y4 y5 y6 y7 y8 y9 z0 z1 z2 z3 z4 z5 z6 z7 z8 z9 bc8 bc7 bc6
  go_loopw [9] (fun i wr => ∃ (k : Nat) (Ao : Option Addr) (co : Nat), k ≤ N ∧ i = .int .i64 k ∧ Hid (wr.heap[w2.heap.size + 1]? = some (.cells #[.int .i64 2, .int .i64 (1 + (n0 : Int)), .int .i64 (p1 : Int), .int .i64 (p2 : Int), .int .i64 0, .int .i64 0, .slice A1 n1 c1, .slice Ao k co, .slice none 0 0, .slice none 0 0] TMs (0, 0))) ∧ Hid (wr.heap[w2.heap.size]? = some (.cells #[.int .i64 s0, .int .i64 s1, .int .i64 s2, .int .i64 s3, .int .i64 s4, .int .i64 s5, .int .i64 s6] T7 (0, 0))) ∧ Hid (wr.heap[w.heap.size]? = some (.cells zeroM' TMs (0, 0))) ∧ OwnL TEn 3 (enRL w.heap.size) wr w4.heap.size Ao k co (entsM p (1 + (t0 : Int)) (p1 : Int) k) ∧ Hid (∀ g, w2.heap.size + 2 ≤ g → g < w4.heap.size → wr.heap[g]? = w4.heap[g]?) ∧ Ext w wr ∧ w4.heap.size ≤ wr.heap.size) (fun i _ => N - (intOf i).toNat)
  case atStart => exact ⟨0, none, 0, by omega, rfl, HB8, HB7, HB6, OwnL.nil _ _ _ _, fun g _ _ => rfl, gx4, Nat.le_refl _⟩
  case round =>
    clear HB8 HB7 HB6 gx4
    obtain ⟨k, Ao, co, hkN, rfl, HB8, HB7, HB6, hown, HA, gxr, hszr⟩ := hrel
    have x3 := blk_cell HB7.out 3
    have x4 := blk_cell HB7.out 4
    by_cases hlt : k < N
    · have hk3 : k < t3 := by have := HN.out; omega
      have hkn : k < n' := by have := HN.out; omega
      have d1 : decide ((k : Int) < (t3 : Int)) = true := by simp; omega
      have d2 : decide ((k : Int) < (n' : Int)) = true := by simp; omega
      have d1n : decide (k < t3) = true := by simp; omega
      have d2n : decide (k < n') = true := by simp; omega
      have hgo : ∀ hi : Nat, k ≤ hi → hi ≤ n' → (p.drop k).take (hi - k) = (p.drop k).take 40 → ∃ BB : Option Addr, Sl w BB (hi - k) (c' - k) ((p.drop k).take 40) ∧ (∀ ad, BB = some ad → 0 < hi - k → ad.block < w.heap.size) ∧ ∀ u : World, (Instr.slice 23 (.slice A' n' c') (some (.int .i64 (k : Int))) (some (.int .i64 (hi : Int))) none).run Try.prog u = .ok (.slice BB (hi - k) (c' - k)) u := by
        intro hi h1 h2 he
        obtain ⟨BB, hBB⟩ : ∃ B, (if c' = k then A' else A'.map (·.add (k * 1))) = B := ⟨_, rfl⟩
        have hcut := hp.cut (lo := k) (hi := hi) h1 h2
        rw [hBB, he] at hcut
        refine ⟨BB, hcut, hcut.blk, fun u => ?_⟩
        rw [← hBB]
        exact run_cut u A' n' c' k hi h1 (by omega)
      have hpl := hp.len
      have hx : entM p (1 + (t0 : Int)) (p1 : Int) k = ⟨1 + (t0 : Int), (p1 : Int) + 1 + (k : Int), (p.drop k).take 40⟩ := rfl
      have hnx := entsM_next p (1 + (t0 : Int)) (p1 : Int) k
      rw [hx] at hnx
      have HNX := Lib.hid hnx
      have HAr := HA
      by_cases hc40 : (k : Int) + 40 < (n' : Int)
      · obtain ⟨BB, hcut, hbk, hsl⟩ := hgo (k + 40) (by omega) (by omega) (by rw [Nat.add_sub_cancel_left])
        rw [Nat.add_sub_cancel_left] at hcut hbk
        have hsl2 : ∀ u : World, (Instr.slice 23 (.slice A' n' c') (some (.int .i64 (k : Int))) (some (.int .i64 ((k : Int) + 40))) none).run Try.prog u = .ok (.slice BB 40 (c' - k)) u := by
          intro u
          have := hsl u
          rw [Nat.add_sub_cancel_left] at this
          exact this
        have dm : decide ((k : Int) + 40 < (n' : Int)) = true := by simp; omega
        obtain ⟨D, hD⟩ : ∃ D, (p.drop k).take 40 = D := ⟨_, rfl⟩
        rw [hD] at hcut HNX
        clear hgo hsl hx hnx hD hpl
        have y2 := blk_cell HB8.out 2
        have y7 := blk_cell HB8.out 7
        have hro := hown.row_lt
        have hHw : w.heap.size ≤ w4.heap.size := by omega
        have hHr : w.heap.size ≤ wr.heap.size := by omega
        go_wp2_with fail
        refine wp_region_typed4' (R := Bet (fun g => rowOf Ao co = some g)) 22 Ext.steady (Bet.steady _) (fun _ _ => Bet.of_ext) rfl 137 rfl [0, 1, 0, 4, 12, 28, 0, 64, 192, 0, 960, 0, 0, 0, 8192, 0, 32768, 122880, 260096, 524284, 1048572, 2097151, 4194303, 8388607] 2097152 (by kernel_rfl) ?_
        simp only [List.take_succ_cons, List.take_zero, List.drop_succ_cons, List.drop_zero]
        apply Stage2.step (Is _) true [] true false (Is.keeps _) (fun _ => Is.keeps _) (by kernel_rfl)
        · intro w1 h1
          have h1 : Ext _ w1 := h1
          simp only [List.nil_append, List.cons_append, List.map_cons, List.map_nil, Given]
          go_wp2_with fail
          exact Post.isv (Ext.refl _) rfl rfl rfl
        apply Stage2.step (Is (.slice Ao k co)) true [true] true false (Is.keeps _) (fun _ => Is.keeps _) (by kernel_rfl)
        · intro w1 h1
          have h1 : Ext _ w1 := h1
          simp only [List.nil_append, List.cons_append, List.map_cons, List.map_nil, Sp.pr, Given]
          rintro _ rfl
          have q0 := h1.cell y7
          go_wp2_with fail
          exact Post.isv (Ext.refl _) rfl rfl rfl
        apply Stage2.step (Is _) true [] true false (Is.keeps _) (fun _ => Is.keeps _) (by kernel_rfl)
        · intro w1 h1
          have h1 : Ext _ w1 := h1
          simp only [List.nil_append, List.cons_append, List.map_cons, List.map_nil, Given]
          go_wp2_with fail
          exact Post.isv (Ext.refl _) rfl rfl rfl
        apply Stage2.step (Is (.int .i64 s4)) true [false, false, true] true false (Is.keeps _) (fun _ => Is.keeps _) (by kernel_rfl)
        · intro w1 h1
          have h1 : Ext _ w1 := h1
          simp only [List.nil_append, List.cons_append, List.map_cons, List.map_nil, Sp.pr, Given]
          rintro _ rfl
          have q0 := h1.cell x4
          go_wp2_with fail
          exact Post.isv (Ext.refl _) rfl rfl rfl
        apply Stage2.step (Is (.int .i64 (t0 : Int))) true [false, false, false, true] true false (Is.keeps _) (fun _ => Is.keeps _) (by kernel_rfl)
        · intro w1 h1
          have h1 : Ext _ w1 := h1
          simp only [List.nil_append, List.cons_append, List.map_cons, List.map_nil, Sp.pr, Given]
          rintro _ rfl
          go_wp2_with fail
          exact Post.isv (Ext.refl _) rfl rfl rfl
        apply Stage2.step (Is (.int .i64 (1 + (t0 : Int)))) true [false, false, false, false, true] true false (Is.keeps _) (fun _ => Is.keeps _) (by kernel_rfl)
        · intro w1 h1
          have h1 : Ext _ w1 := h1
          simp only [List.nil_append, List.cons_append, List.map_cons, List.map_nil, Sp.pr, Given]
          rintro _ rfl
          go_wp2_with fail
          exact Post.isv (Ext.refl _) rfl rfl rfl
        apply Stage2.step (Is _) true [] true false (Is.keeps _) (fun _ => Is.keeps _) (by kernel_rfl)
        · intro w1 h1
          have h1 : Ext _ w1 := h1
          simp only [List.nil_append, List.cons_append, List.map_cons, List.map_nil, Given]
          go_wp2_with fail
          exact Post.isv (Ext.refl _) rfl rfl rfl
        apply Stage2.step (Is (.int .i64 (p1 : Int))) true [false, false, false, false, false, false, true] true false (Is.keeps _) (fun _ => Is.keeps _) (by kernel_rfl)
        · intro w1 h1
          have h1 : Ext _ w1 := h1
          simp only [List.nil_append, List.cons_append, List.map_cons, List.map_nil, Sp.pr, Given]
          rintro _ rfl
          have q0 := h1.cell y2
          go_wp2_with fail
          exact Post.isv (Ext.refl _) rfl rfl rfl
        apply Stage2.step (Is _) true [false, false, false, false, false, false, false, true] true false (Is.keeps _) (fun _ => Is.keeps _) (by kernel_rfl)
        · intro w1 h1
          have h1 : Ext _ w1 := h1
          simp only [List.nil_append, List.cons_append, List.map_cons, List.map_nil, Sp.pr, Given]
          rintro _ rfl
          go_wp2_with fail
          exact Post.isv (Ext.refl _) rfl rfl rfl
        apply Stage2.step (Is _) true [] true false (Is.keeps _) (fun _ => Is.keeps _) (by kernel_rfl)
        · intro w1 h1
          have h1 : Ext _ w1 := h1
          simp only [List.nil_append, List.cons_append, List.map_cons, List.map_nil, Given]
          go_wp2_with fail
          exact Post.isv (Ext.refl _) rfl rfl rfl
        apply Stage2.step (Is _) true [false, false, false, false, false, false, false, false, true, true] true false (Is.keeps _) (fun _ => Is.keeps _) (by kernel_rfl)
        · intro w1 h1
          have h1 : Ext _ w1 := h1
          simp only [List.nil_append, List.cons_append, List.map_cons, List.map_nil, Sp.pr, Given]
          rintro _ rfl
          rintro _ rfl
          go_wp2_with fail
          exact Post.isv (Ext.refl _) rfl rfl rfl
        apply Stage2.step (Is _) true [] true false (Is.keeps _) (fun _ => Is.keeps _) (by kernel_rfl)
        · intro w1 h1
          have h1 : Ext _ w1 := h1
          simp only [List.nil_append, List.cons_append, List.map_cons, List.map_nil, Given]
          go_wp2_with fail
          exact Post.isv (Ext.refl _) rfl rfl rfl
        apply Stage2.step (Is _) true [] true false (Is.keeps _) (fun _ => Is.keeps _) (by kernel_rfl)
        · intro w1 h1
          have h1 : Ext _ w1 := h1
          simp only [List.nil_append, List.cons_append, List.map_cons, List.map_nil, Given]
          go_wp2_with fail
          exact Post.isv (Ext.refl _) rfl rfl rfl
        apply Stage2.step (Is _) true [] true false (Is.keeps _) (fun _ => Is.keeps _) (by kernel_rfl)
        · intro w1 h1
          have h1 : Ext _ w1 := h1
          simp only [List.nil_append, List.cons_append, List.map_cons, List.map_nil, Given]
          go_wp2_with fail
          exact Post.isv (Ext.refl _) rfl rfl rfl
        apply Stage2.step (Is _) true [false, false, false, false, false, false, false, false, false, false, false, false, false, true] true false (Is.keeps _) (fun _ => Is.keeps _) (by kernel_rfl)
        · intro w1 h1
          have h1 : Ext _ w1 := h1
          simp only [List.nil_append, List.cons_append, List.map_cons, List.map_nil, Sp.pr, Given]
          rintro _ rfl
          go_wp2_with fail
          exact Post.isv (Ext.refl _) rfl rfl rfl
        apply Stage2.step (Is _) true [] true false (Is.keeps _) (fun _ => Is.keeps _) (by kernel_rfl)
        · intro w1 h1
          have h1 : Ext _ w1 := h1
          simp only [List.nil_append, List.cons_append, List.map_cons, List.map_nil, Given]
          go_wp2_with fail
          exact Post.isv (Ext.refl _) rfl rfl rfl
        apply Stage2.step (Is _) true [false, false, false, false, false, false, false, false, false, false, false, false, false, false, false, true] true false (Is.keeps _) (fun _ => Is.keeps _) (by kernel_rfl)
        · intro w1 h1
          have h1 : Ext _ w1 := h1
          simp only [List.nil_append, List.cons_append, List.map_cons, List.map_nil, Sp.pr, Given]
          rintro _ rfl
          go_wp2_with fail
          exact Post.isv (Ext.refl _) rfl rfl rfl
        apply Stage2.step (Is _) true [false, false, false, false, false, false, false, false, false, false, false, false, false, false, true, false, true] true false (Is.keeps _) (fun _ => Is.keeps _) (by kernel_rfl)
        · intro w1 h1
          have h1 : Ext _ w1 := h1
          simp only [List.nil_append, List.cons_append, List.map_cons, List.map_nil, Sp.pr, Given]
          rintro _ rfl
          rintro _ rfl
          go_wp2_with fail
          exact Post.isv (Ext.refl _) rfl rfl rfl
        apply Stage2.step (Is (.slice BB 40 (c' - k))) true [false, false, false, false, false, false, false, false, false, false, false, true, true, false, false, false, false, true] true false (Is.keeps _) (fun _ => Is.keeps _) (by kernel_rfl)
        · intro w1 h1
          have h1 : Ext _ w1 := h1
          simp only [List.nil_append, List.cons_append, List.map_cons, List.map_nil, Sp.pr, Given]
          rintro _ rfl
          rintro _ rfl
          rintro _ rfl
          go_wp2_with fail
          exact Post.isv (Ext.refl _) rfl rfl rfl
        apply Stage2.step (Is (enV (1 + (t0 : Int)) ((p1 : Int) + 1 + (k : Int)) BB 40 (c' - k))) true [false, false, false, false, false, true, false, false, false, false, true, false, false, false, false, false, false, false, true] true false (Is.keeps _) (fun _ => Is.keeps _) (by kernel_rfl)
        · intro w1 h1
          have h1 : Ext _ w1 := h1
          simp only [List.nil_append, List.cons_append, List.map_cons, List.map_nil, Sp.pr, Given]
          rintro _ rfl
          rintro _ rfl
          rintro _ rfl
          go_wp2_with fail
          exact Post.isv (Ext.refl _) rfl rfl rfl
        apply Stage2.step (EnLL w.heap.size ⟨1 + (t0 : Int), (p1 : Int) + 1 + (k : Int), D⟩) false [false, false, false, false, false, false, false, false, false, false, false, false, false, false, false, false, false, false, false, true] true false (EnLL.keeps _ _) (no_keeps) (by kernel_rfl)
        · intro w1 h1
          have h1 : Ext _ w1 := h1
          simp only [List.nil_append, List.cons_append, List.map_cons, List.map_nil, Sp.pr, Given]
          rintro _ rfl
          have hs1 := h1.size
          go_wp2_with fail
          exact ⟨rfl, rfl, Ext.alloc _ _, _, _, rfl, en_litL w1 _ _ (hcut.ext (gxr.trans h1)) hbk (by omega)⟩
        apply Stage2.step (EnO w.heap.size w4.heap.size (k + 1) (entsM p (1 + (t0 : Int)) (p1 : Int) (k + 1)) none) false [false, true, false, false, false, false, false, false, false, false, false, false, false, false, false, false, false, false, false, false, true] true true (EnO.keeps _ _ _ _ _) (no_keeps) (by kernel_rfl)
        · intro w1 h1
          have h1 : Ext _ w1 := h1
          simp only [List.nil_append, List.cons_append, List.map_cons, List.map_nil, Sp.pr, Given]
          rintro _ rfl
          rintro _ ⟨A5, c5, rfl, h5⟩
          have hs1 := h1.size
          have hown1 := hown.ext (enRL_rep _) h1
          have hfd := EnLL.feed h5 hown1 hHw
          go_wp2_with (
            at_builtin
            refine wpList_append_lstM (B := w4.heap.size) (enRL_rep w.heap.size) rfl _ _ _ _ rfl TEn ie _ 40 under_ens hie he0 he1 he2 rfl Ao k co _ rfl hown1 _ 1 _ rfl hfd (k + 1) rfl _ HNX.out.symm (by simp only [maxLen]; omega) (by omega) (by omega) ?_
            intro A8 c8 w8 ho8 hg8)
          exact ⟨rfl, rfl, Bet.grown hg8 (fun k hk => hk), _, _, rfl, ho8⟩
        apply Stage2.nil [true, true, true, true, true, true, true, true, true, true, true, true, true, true, true, true, true, true, true, true, false, true] (by kernel_rfl)
        intro w1 h1
        have h1 : (Bet (fun g => rowOf Ao co = some g)) _ w1 := h1
        simp only [List.nil_append, List.cons_append, List.map_cons, List.map_nil, Sp.pr]
        refine Fin2.is_ ?_
        refine Fin2.is_ ?_
        refine Fin2.is_ ?_
        refine Fin2.is_ ?_
        refine Fin2.is_ ?_
        refine Fin2.is_ ?_
        refine Fin2.is_ ?_
        refine Fin2.is_ ?_
        refine Fin2.is_ ?_
        refine Fin2.is_ ?_
        refine Fin2.is_ ?_
        refine Fin2.is_ ?_
        refine Fin2.is_ ?_
        refine Fin2.is_ ?_
        refine Fin2.is_ ?_
        refine Fin2.is_ ?_
        refine Fin2.is_ ?_
        refine Fin2.is_ ?_
        refine Fin2.is_ ?_
        refine Fin2.is_ ?_
        refine Fin2.dead_ ?_
        intro dead20
        refine Fin2.step_ ?_
        rintro _ ⟨A6, c6, rfl, h6⟩
        refine Fin2.nil_ ?_
        go_simp
        have gb : Bet (fun g => rowOf Ao co = some g) wr w1 := h1
        have hs8 : ¬ (rowOf Ao co = some (w2.heap.size + 1)) := fun e => by have := (hro _ e).1; omega
        have hs7 : ¬ (rowOf Ao co = some w2.heap.size) := fun e => by have := (hro _ e).1; omega
        have hs6 : ¬ (rowOf Ao co = some w.heap.size) := fun e => by have := (hro _ e).1; omega
        have bd8 := (gb.block hs8 (by omega)).trans HB8.out
        have bd7 := (gb.block hs7 (by omega)).trans HB7.out
        have bd6 := (gb.block hs6 (by omega)).trans HB6.out
        have gx5 : Ext w w1 := gxr.but (gb w.heap.size) (Nat.le_refl _) (fun g hg => by have := (hro g hg).1; omega)
        have hsz5 := (gb 0).size
        have HA5 : Hid (∀ g, w2.heap.size + 2 ≤ g → g < w4.heap.size → w1.heap[g]? = w4.heap[g]?) := fun g q1 q2 => (gb.block (fun e => by have := (hro g e).1; omega) (by omega)).trans (HA.out g q1 q2)
        have hD8 : Hid ((w1.setCell ⟨w2.heap.size + 1, 7, none⟩ (.slice A6 (k + 1) c6)).heap[w2.heap.size + 1]? = some (.cells #[.int .i64 2, .int .i64 (1 + (n0 : Int)), .int .i64 (p1 : Int), .int .i64 (p2 : Int), .int .i64 0, .int .i64 0, .slice A1 n1 c1, .slice A6 (k + 1) c6, .slice none 0 0, .slice none 0 0] TMs (0, 0))) := by
          have := blk_set bd8 7 (.slice A6 (k + 1) c6)
          unfold Hid
          simpa using this
        have hD7 : Hid ((w1.setCell ⟨w2.heap.size + 1, 7, none⟩ (.slice A6 (k + 1) c6)).heap[w2.heap.size]? = some (.cells #[.int .i64 s0, .int .i64 s1, .int .i64 s2, .int .i64 s3, .int .i64 s4, .int .i64 s5, .int .i64 s6] T7 (0, 0))) := blk_far bd7 (by simp) _
        have hD6 : Hid ((w1.setCell ⟨w2.heap.size + 1, 7, none⟩ (.slice A6 (k + 1) c6)).heap[w.heap.size]? = some (.cells zeroM' TMs (0, 0))) := blk_far bd6 (by simp; omega) _
        have hDo : OwnL TEn 3 (enRL w.heap.size) (w1.setCell ⟨w2.heap.size + 1, 7, none⟩ (.slice A6 (k + 1) c6)) w4.heap.size A6 (k + 1) c6 (entsM p (1 + (t0 : Int)) (p1 : Int) (k + 1)) := h6.setE (p := ⟨w2.heap.size + 1, 7, none⟩) hq8 (by simp; omega) _
        have hDA : Hid (∀ g, w2.heap.size + 2 ≤ g → g < w4.heap.size → (w1.setCell ⟨w2.heap.size + 1, 7, none⟩ (.slice A6 (k + 1) c6)).heap[g]? = w4.heap[g]?) := fun g q1 q2 => (Below.heap_setCell _ _ _ _ (by simp; omega)).trans (HA5.out g q1 q2)
        have hDx : Ext w (w1.setCell ⟨w2.heap.size + 1, 7, none⟩ (.slice A6 (k + 1) c6)) := gx5.sets hq8 _
        have hDs : w4.heap.size ≤ (w1.setCell ⟨w2.heap.size + 1, 7, none⟩ (.slice A6 (k + 1) c6)).heap.size := by simp; omega
        obtain ⟨wb, rfl⟩ : ∃ q, q = w1 := ⟨_, rfl⟩
        have yb7 := blk_cell bd8 7
        have zb7 := blk_frozen bd8 7
        clear h1 gb h6 hcut hbk HB8 HB7 HB6 HNX HA HA5 gxr hown bd8 bd7 bd6 y2 y7
        go_wp2_with fail
        go_roundw
        case rel => exact ⟨k + 1, A6, c6, by omega, by go_num, hD8, hD7, hD6, hDo, hDA, hDx, hDs⟩
        case measure => simp [intOf]; omega
      · obtain ⟨BB, hcut, hbk, hsl⟩ := hgo n' (by omega) (Nat.le_refl _) (by rw [List.take_of_length_le (by rw [List.length_drop]; omega), List.take_of_length_le (by rw [List.length_drop]; omega)])
        have dm : decide ((k : Int) + 40 < (n' : Int)) = false := by simp; omega
        obtain ⟨D, hD⟩ : ∃ D, (p.drop k).take 40 = D := ⟨_, rfl⟩
        rw [hD] at hcut HNX
        clear hgo hx hnx hD hpl
        have y2 := blk_cell HB8.out 2
        have y7 := blk_cell HB8.out 7
        have hro := hown.row_lt
        have hHw : w.heap.size ≤ w4.heap.size := by omega
        have hHr : w.heap.size ≤ wr.heap.size := by omega
        go_wp2_with fail
        refine wp_region_typed4' (R := Bet (fun g => rowOf Ao co = some g)) 22 Ext.steady (Bet.steady _) (fun _ _ => Bet.of_ext) rfl 137 rfl [0, 1, 0, 4, 12, 28, 0, 64, 192, 0, 960, 0, 0, 0, 8192, 0, 32768, 122880, 260096, 524284, 1048572, 2097151, 4194303, 8388607] 2097152 (by kernel_rfl) ?_
        simp only [List.take_succ_cons, List.take_zero, List.drop_succ_cons, List.drop_zero]
        apply Stage2.step (Is _) true [] true false (Is.keeps _) (fun _ => Is.keeps _) (by kernel_rfl)
        · intro w1 h1
          have h1 : Ext _ w1 := h1
          simp only [List.nil_append, List.cons_append, List.map_cons, List.map_nil, Given]
          go_wp2_with fail
          exact Post.isv (Ext.refl _) rfl rfl rfl
        apply Stage2.step (Is (.slice Ao k co)) true [true] true false (Is.keeps _) (fun _ => Is.keeps _) (by kernel_rfl)
        · intro w1 h1
          have h1 : Ext _ w1 := h1
          simp only [List.nil_append, List.cons_append, List.map_cons, List.map_nil, Sp.pr, Given]
          rintro _ rfl
          have q0 := h1.cell y7
          go_wp2_with fail
          exact Post.isv (Ext.refl _) rfl rfl rfl
        apply Stage2.step (Is _) true [] true false (Is.keeps _) (fun _ => Is.keeps _) (by kernel_rfl)
        · intro w1 h1
          have h1 : Ext _ w1 := h1
          simp only [List.nil_append, List.cons_append, List.map_cons, List.map_nil, Given]
          go_wp2_with fail
          exact Post.isv (Ext.refl _) rfl rfl rfl
        apply Stage2.step (Is (.int .i64 s4)) true [false, false, true] true false (Is.keeps _) (fun _ => Is.keeps _) (by kernel_rfl)
        · intro w1 h1
          have h1 : Ext _ w1 := h1
          simp only [List.nil_append, List.cons_append, List.map_cons, List.map_nil, Sp.pr, Given]
          rintro _ rfl
          have q0 := h1.cell x4
          go_wp2_with fail
          exact Post.isv (Ext.refl _) rfl rfl rfl
        apply Stage2.step (Is (.int .i64 (t0 : Int))) true [false, false, false, true] true false (Is.keeps _) (fun _ => Is.keeps _) (by kernel_rfl)
        · intro w1 h1
          have h1 : Ext _ w1 := h1
          simp only [List.nil_append, List.cons_append, List.map_cons, List.map_nil, Sp.pr, Given]
          rintro _ rfl
          go_wp2_with fail
          exact Post.isv (Ext.refl _) rfl rfl rfl
        apply Stage2.step (Is (.int .i64 (1 + (t0 : Int)))) true [false, false, false, false, true] true false (Is.keeps _) (fun _ => Is.keeps _) (by kernel_rfl)
        · intro w1 h1
          have h1 : Ext _ w1 := h1
          simp only [List.nil_append, List.cons_append, List.map_cons, List.map_nil, Sp.pr, Given]
          rintro _ rfl
          go_wp2_with fail
          exact Post.isv (Ext.refl _) rfl rfl rfl
        apply Stage2.step (Is _) true [] true false (Is.keeps _) (fun _ => Is.keeps _) (by kernel_rfl)
        · intro w1 h1
          have h1 : Ext _ w1 := h1
          simp only [List.nil_append, List.cons_append, List.map_cons, List.map_nil, Given]
          go_wp2_with fail
          exact Post.isv (Ext.refl _) rfl rfl rfl
        apply Stage2.step (Is (.int .i64 (p1 : Int))) true [false, false, false, false, false, false, true] true false (Is.keeps _) (fun _ => Is.keeps _) (by kernel_rfl)
        · intro w1 h1
          have h1 : Ext _ w1 := h1
          simp only [List.nil_append, List.cons_append, List.map_cons, List.map_nil, Sp.pr, Given]
          rintro _ rfl
          have q0 := h1.cell y2
          go_wp2_with fail
          exact Post.isv (Ext.refl _) rfl rfl rfl
        apply Stage2.step (Is _) true [false, false, false, false, false, false, false, true] true false (Is.keeps _) (fun _ => Is.keeps _) (by kernel_rfl)
        · intro w1 h1
          have h1 : Ext _ w1 := h1
          simp only [List.nil_append, List.cons_append, List.map_cons, List.map_nil, Sp.pr, Given]
          rintro _ rfl
          go_wp2_with fail
          exact Post.isv (Ext.refl _) rfl rfl rfl
        apply Stage2.step (Is _) true [] true false (Is.keeps _) (fun _ => Is.keeps _) (by kernel_rfl)
        · intro w1 h1
          have h1 : Ext _ w1 := h1
          simp only [List.nil_append, List.cons_append, List.map_cons, List.map_nil, Given]
          go_wp2_with fail
          exact Post.isv (Ext.refl _) rfl rfl rfl
        apply Stage2.step (Is _) true [false, false, false, false, false, false, false, false, true, true] true false (Is.keeps _) (fun _ => Is.keeps _) (by kernel_rfl)
        · intro w1 h1
          have h1 : Ext _ w1 := h1
          simp only [List.nil_append, List.cons_append, List.map_cons, List.map_nil, Sp.pr, Given]
          rintro _ rfl
          rintro _ rfl
          go_wp2_with fail
          exact Post.isv (Ext.refl _) rfl rfl rfl
        apply Stage2.step (Is _) true [] true false (Is.keeps _) (fun _ => Is.keeps _) (by kernel_rfl)
        · intro w1 h1
          have h1 : Ext _ w1 := h1
          simp only [List.nil_append, List.cons_append, List.map_cons, List.map_nil, Given]
          go_wp2_with fail
          exact Post.isv (Ext.refl _) rfl rfl rfl
        apply Stage2.step (Is _) true [] true false (Is.keeps _) (fun _ => Is.keeps _) (by kernel_rfl)
        · intro w1 h1
          have h1 : Ext _ w1 := h1
          simp only [List.nil_append, List.cons_append, List.map_cons, List.map_nil, Given]
          go_wp2_with fail
          exact Post.isv (Ext.refl _) rfl rfl rfl
        apply Stage2.step (Is _) true [] true false (Is.keeps _) (fun _ => Is.keeps _) (by kernel_rfl)
        · intro w1 h1
          have h1 : Ext _ w1 := h1
          simp only [List.nil_append, List.cons_append, List.map_cons, List.map_nil, Given]
          go_wp2_with fail
          exact Post.isv (Ext.refl _) rfl rfl rfl
        apply Stage2.step (Is _) true [false, false, false, false, false, false, false, false, false, false, false, false, false, true] true false (Is.keeps _) (fun _ => Is.keeps _) (by kernel_rfl)
        · intro w1 h1
          have h1 : Ext _ w1 := h1
          simp only [List.nil_append, List.cons_append, List.map_cons, List.map_nil, Sp.pr, Given]
          rintro _ rfl
          go_wp2_with fail
          exact Post.isv (Ext.refl _) rfl rfl rfl
        apply Stage2.step (Is _) true [] true false (Is.keeps _) (fun _ => Is.keeps _) (by kernel_rfl)
        · intro w1 h1
          have h1 : Ext _ w1 := h1
          simp only [List.nil_append, List.cons_append, List.map_cons, List.map_nil, Given]
          go_wp2_with fail
          exact Post.isv (Ext.refl _) rfl rfl rfl
        apply Stage2.step (Is _) true [false, false, false, false, false, false, false, false, false, false, false, false, false, false, false, true] true false (Is.keeps _) (fun _ => Is.keeps _) (by kernel_rfl)
        · intro w1 h1
          have h1 : Ext _ w1 := h1
          simp only [List.nil_append, List.cons_append, List.map_cons, List.map_nil, Sp.pr, Given]
          rintro _ rfl
          go_wp2_with fail
          exact Post.isv (Ext.refl _) rfl rfl rfl
        apply Stage2.step (Is _) true [false, false, false, false, false, false, false, false, false, false, false, false, false, false, true, false, true] true false (Is.keeps _) (fun _ => Is.keeps _) (by kernel_rfl)
        · intro w1 h1
          have h1 : Ext _ w1 := h1
          simp only [List.nil_append, List.cons_append, List.map_cons, List.map_nil, Sp.pr, Given]
          rintro _ rfl
          rintro _ rfl
          go_wp2_with fail
          exact Post.isv (Ext.refl _) rfl rfl rfl
        apply Stage2.step (Is (.slice BB (n' - k) (c' - k))) true [false, false, false, false, false, false, false, false, false, false, false, true, true, false, false, false, false, true] true false (Is.keeps _) (fun _ => Is.keeps _) (by kernel_rfl)
        · intro w1 h1
          have h1 : Ext _ w1 := h1
          simp only [List.nil_append, List.cons_append, List.map_cons, List.map_nil, Sp.pr, Given]
          rintro _ rfl
          rintro _ rfl
          rintro _ rfl
          go_wp2_with fail
          exact Post.isv (Ext.refl _) rfl rfl rfl
        apply Stage2.step (Is (enV (1 + (t0 : Int)) ((p1 : Int) + 1 + (k : Int)) BB (n' - k) (c' - k))) true [false, false, false, false, false, true, false, false, false, false, true, false, false, false, false, false, false, false, true] true false (Is.keeps _) (fun _ => Is.keeps _) (by kernel_rfl)
        · intro w1 h1
          have h1 : Ext _ w1 := h1
          simp only [List.nil_append, List.cons_append, List.map_cons, List.map_nil, Sp.pr, Given]
          rintro _ rfl
          rintro _ rfl
          rintro _ rfl
          go_wp2_with fail
          exact Post.isv (Ext.refl _) rfl rfl rfl
        apply Stage2.step (EnLL w.heap.size ⟨1 + (t0 : Int), (p1 : Int) + 1 + (k : Int), D⟩) false [false, false, false, false, false, false, false, false, false, false, false, false, false, false, false, false, false, false, false, true] true false (EnLL.keeps _ _) (no_keeps) (by kernel_rfl)
        · intro w1 h1
          have h1 : Ext _ w1 := h1
          simp only [List.nil_append, List.cons_append, List.map_cons, List.map_nil, Sp.pr, Given]
          rintro _ rfl
          have hs1 := h1.size
          go_wp2_with fail
          exact ⟨rfl, rfl, Ext.alloc _ _, _, _, rfl, en_litL w1 _ _ (hcut.ext (gxr.trans h1)) hbk (by omega)⟩
        apply Stage2.step (EnO w.heap.size w4.heap.size (k + 1) (entsM p (1 + (t0 : Int)) (p1 : Int) (k + 1)) none) false [false, true, false, false, false, false, false, false, false, false, false, false, false, false, false, false, false, false, false, false, true] true true (EnO.keeps _ _ _ _ _) (no_keeps) (by kernel_rfl)
        · intro w1 h1
          have h1 : Ext _ w1 := h1
          simp only [List.nil_append, List.cons_append, List.map_cons, List.map_nil, Sp.pr, Given]
          rintro _ rfl
          rintro _ ⟨A5, c5, rfl, h5⟩
          have hs1 := h1.size
          have hown1 := hown.ext (enRL_rep _) h1
          have hfd := EnLL.feed h5 hown1 hHw
          go_wp2_with (
            at_builtin
            refine wpList_append_lstM (B := w4.heap.size) (enRL_rep w.heap.size) rfl _ _ _ _ rfl TEn ie _ 40 under_ens hie he0 he1 he2 rfl Ao k co _ rfl hown1 _ 1 _ rfl hfd (k + 1) rfl _ HNX.out.symm (by simp only [maxLen]; omega) (by omega) (by omega) ?_
            intro A8 c8 w8 ho8 hg8)
          exact ⟨rfl, rfl, Bet.grown hg8 (fun k hk => hk), _, _, rfl, ho8⟩
        apply Stage2.nil [true, true, true, true, true, true, true, true, true, true, true, true, true, true, true, true, true, true, true, true, false, true] (by kernel_rfl)
        intro w1 h1
        have h1 : (Bet (fun g => rowOf Ao co = some g)) _ w1 := h1
        simp only [List.nil_append, List.cons_append, List.map_cons, List.map_nil, Sp.pr]
        refine Fin2.is_ ?_
        refine Fin2.is_ ?_
        refine Fin2.is_ ?_
        refine Fin2.is_ ?_
        refine Fin2.is_ ?_
        refine Fin2.is_ ?_
        refine Fin2.is_ ?_
        refine Fin2.is_ ?_
        refine Fin2.is_ ?_
        refine Fin2.is_ ?_
        refine Fin2.is_ ?_
        refine Fin2.is_ ?_
        refine Fin2.is_ ?_
        refine Fin2.is_ ?_
        refine Fin2.is_ ?_
        refine Fin2.is_ ?_
        refine Fin2.is_ ?_
        refine Fin2.is_ ?_
        refine Fin2.is_ ?_
        refine Fin2.is_ ?_
        refine Fin2.dead_ ?_
        intro dead20
        refine Fin2.step_ ?_
        rintro _ ⟨A6, c6, rfl, h6⟩
        refine Fin2.nil_ ?_
        go_simp
        have gb : Bet (fun g => rowOf Ao co = some g) wr w1 := h1
        have hs8 : ¬ (rowOf Ao co = some (w2.heap.size + 1)) := fun e => by have := (hro _ e).1; omega
        have hs7 : ¬ (rowOf Ao co = some w2.heap.size) := fun e => by have := (hro _ e).1; omega
        have hs6 : ¬ (rowOf Ao co = some w.heap.size) := fun e => by have := (hro _ e).1; omega
        have bd8 := (gb.block hs8 (by omega)).trans HB8.out
        have bd7 := (gb.block hs7 (by omega)).trans HB7.out
        have bd6 := (gb.block hs6 (by omega)).trans HB6.out
        have gx5 : Ext w w1 := gxr.but (gb w.heap.size) (Nat.le_refl _) (fun g hg => by have := (hro g hg).1; omega)
        have hsz5 := (gb 0).size
        have HA5 : Hid (∀ g, w2.heap.size + 2 ≤ g → g < w4.heap.size → w1.heap[g]? = w4.heap[g]?) := fun g q1 q2 => (gb.block (fun e => by have := (hro g e).1; omega) (by omega)).trans (HA.out g q1 q2)
        have hD8 : Hid ((w1.setCell ⟨w2.heap.size + 1, 7, none⟩ (.slice A6 (k + 1) c6)).heap[w2.heap.size + 1]? = some (.cells #[.int .i64 2, .int .i64 (1 + (n0 : Int)), .int .i64 (p1 : Int), .int .i64 (p2 : Int), .int .i64 0, .int .i64 0, .slice A1 n1 c1, .slice A6 (k + 1) c6, .slice none 0 0, .slice none 0 0] TMs (0, 0))) := by
          have := blk_set bd8 7 (.slice A6 (k + 1) c6)
          unfold Hid
          simpa using this
        have hD7 : Hid ((w1.setCell ⟨w2.heap.size + 1, 7, none⟩ (.slice A6 (k + 1) c6)).heap[w2.heap.size]? = some (.cells #[.int .i64 s0, .int .i64 s1, .int .i64 s2, .int .i64 s3, .int .i64 s4, .int .i64 s5, .int .i64 s6] T7 (0, 0))) := blk_far bd7 (by simp) _
        have hD6 : Hid ((w1.setCell ⟨w2.heap.size + 1, 7, none⟩ (.slice A6 (k + 1) c6)).heap[w.heap.size]? = some (.cells zeroM' TMs (0, 0))) := blk_far bd6 (by simp; omega) _
        have hDo : OwnL TEn 3 (enRL w.heap.size) (w1.setCell ⟨w2.heap.size + 1, 7, none⟩ (.slice A6 (k + 1) c6)) w4.heap.size A6 (k + 1) c6 (entsM p (1 + (t0 : Int)) (p1 : Int) (k + 1)) := h6.setE (p := ⟨w2.heap.size + 1, 7, none⟩) hq8 (by simp; omega) _
        have hDA : Hid (∀ g, w2.heap.size + 2 ≤ g → g < w4.heap.size → (w1.setCell ⟨w2.heap.size + 1, 7, none⟩ (.slice A6 (k + 1) c6)).heap[g]? = w4.heap[g]?) := fun g q1 q2 => (Below.heap_setCell _ _ _ _ (by simp; omega)).trans (HA5.out g q1 q2)
        have hDx : Ext w (w1.setCell ⟨w2.heap.size + 1, 7, none⟩ (.slice A6 (k + 1) c6)) := gx5.sets hq8 _
        have hDs : w4.heap.size ≤ (w1.setCell ⟨w2.heap.size + 1, 7, none⟩ (.slice A6 (k + 1) c6)).heap.size := by simp; omega
        obtain ⟨wb, rfl⟩ : ∃ q, q = w1 := ⟨_, rfl⟩
        have yb7 := blk_cell bd8 7
        have zb7 := blk_frozen bd8 7
        clear h1 gb h6 hcut hbk HB8 HB7 HB6 HNX HA HA5 gxr hown bd8 bd7 bd6 y2 y7
        go_wp2_with fail
        go_roundw
        case rel => exact ⟨k + 1, A6, c6, by omega, by go_num, hD8, hD7, hD6, hDo, hDA, hDx, hDs⟩
        case measure => simp [intOf]; omega
    · obtain rfl : k = N := by omega
      have HCr : Hid (Hi (w2.heap.size + 2) (fun u => Lst 4 tgR u A1 n1 c1 lt) wr) := fun v hv hs => HC4.out v (fun g h1 h2 => (hv g h1 (Nat.lt_of_lt_of_le h2 hszr)).trans (HA.out g h1 h2)) (Nat.le_trans hszr hs)
      have q6 : w.heap.size < w2.heap.size + 2 := by omega
      have q64 : w.heap.size < w4.heap.size := by omega
      clear HC4 HA
      have y0 := blk_cell HB8.out 0
      have k0 := blk_cell HB6.out 0
      have l0 := blk_frozen HB6.out 0
      have y1 := blk_cell HB8.out 1
      have k1 := blk_cell HB6.out 1
      have l1 := blk_frozen HB6.out 1
      have y2 := blk_cell HB8.out 2
      have k2 := blk_cell HB6.out 2
      have l2 := blk_frozen HB6.out 2
      have y3 := blk_cell HB8.out 3
      have k3 := blk_cell HB6.out 3
      have l3 := blk_frozen HB6.out 3
      have y4 := blk_cell HB8.out 4
      have k4 := blk_cell HB6.out 4
      have l4 := blk_frozen HB6.out 4
      have y5 := blk_cell HB8.out 5
      have k5 := blk_cell HB6.out 5
      have l5 := blk_frozen HB6.out 5
      have y6 := blk_cell HB8.out 6
      have k6 := blk_cell HB6.out 6
      have l6 := blk_frozen HB6.out 6
      have y7 := blk_cell HB8.out 7
      have k7 := blk_cell HB6.out 7
      have l7 := blk_frozen HB6.out 7
      have y8 := blk_cell HB8.out 8
      have k8 := blk_cell HB6.out 8
      have l8 := blk_frozen HB6.out 8
      have y9 := blk_cell HB8.out 9
      have k9 := blk_cell HB6.out 9
      have l9 := blk_frozen HB6.out 9
      by_cases hk3 : k < t3
      · have d1 : decide ((k : Int) < (t3 : Int)) = true := by simp; omega
        have d1n : decide (k < t3) = true := by simp; omega
        have d2 : decide ((k : Int) < (n' : Int)) = false := by have := HN.out; simp; omega
        have d2n : decide (k < n') = false := by have := HN.out; simp; omega
        go_wp2_with fail
        refine bodyPost_ret (v := msV ⟨2, 1 + (n0 : Int), (p1 : Int), (p2 : Int), 0, 0, lt, entsM p (1 + (t0 : Int)) (p1 : Int) k, [], []⟩ A1 n1 c1 Ao k co none 0 0 none 0 0) ?hres rfl ⟨_, _, _, _, _, _, _, _, _, _, _, _, rfl, ?hm, ?hxx⟩
        case hres => simp [results, Try.results12, go_sem, k0, k1, k2, k3, k4, k5, k6, k7, k8, k9, y0, y1, y2, y3, y4, y5, y6, y7, y8, y9]
        case hxx => (repeat (first | (with_reducible exact Ext.refl _) | (with_reducible assumption) | (with_reducible refine Ext.draws ?_) | (with_reducible refine Ext.allocs ?_ _) | (with_reducible refine Ext.sets ?_ hq8 _) | (with_reducible refine Ext.sets ?_ (Nat.le_refl _) _)))
        case hm =>
          refine ⟨?hc, ?he, Lst.nil _, Sl.nil _⟩
          case hc =>
            refine Hi.out (B := w2.heap.size + 2) (P := fun u => Lst 4 tgR u A1 n1 c1 lt) ?_
            have HALL := HCr.out
            (repeat (first | (with_reducible exact HALL) | (with_reducible refine Hi.set ?_ q6 _)))
          case he =>
            refine OwnL.enL (H := w.heap.size) (B := w4.heap.size) ?_
            show OwnL TEn 3 (enRL w.heap.size) _ w4.heap.size Ao k co (entsM p (1 + (t0 : Int)) (p1 : Int) k)
            (repeat (first | (with_reducible exact hown) | (refine OwnL.setE6 ?_ q64 _)))
      · have d1 : decide ((k : Int) < (t3 : Int)) = false := by simp; omega
        have d1n : decide (k < t3) = false := by simp; omega
        go_wp2_with fail
        refine bodyPost_ret (v := msV ⟨2, 1 + (n0 : Int), (p1 : Int), (p2 : Int), 0, 0, lt, entsM p (1 + (t0 : Int)) (p1 : Int) k, [], []⟩ A1 n1 c1 Ao k co none 0 0 none 0 0) ?hres rfl ⟨_, _, _, _, _, _, _, _, _, _, _, _, rfl, ?hm, ?hxx⟩
        case hres => simp [results, Try.results12, go_sem, k0, k1, k2, k3, k4, k5, k6, k7, k8, k9, y0, y1, y2, y3, y4, y5, y6, y7, y8, y9]
        case hxx => (repeat (first | (with_reducible exact Ext.refl _) | (with_reducible assumption) | (with_reducible refine Ext.draws ?_) | (with_reducible refine Ext.allocs ?_ _) | (with_reducible refine Ext.sets ?_ hq8 _) | (with_reducible refine Ext.sets ?_ (Nat.le_refl _) _)))
        case hm =>
          refine ⟨?hc, ?he, Lst.nil _, Sl.nil _⟩
          case hc =>
            refine Hi.out (B := w2.heap.size + 2) (P := fun u => Lst 4 tgR u A1 n1 c1 lt) ?_
            have HALL := HCr.out
            (repeat (first | (with_reducible exact HALL) | (with_reducible refine Hi.set ?_ q6 _)))
          case he =>
            refine OwnL.enL (H := w.heap.size) (B := w4.heap.size) ?_
            show OwnL TEn 3 (enRL w.heap.size) _ w4.heap.size Ao k co (entsM p (1 + (t0 : Int)) (p1 : Int) k)
            (repeat (first | (with_reducible exact hown) | (refine OwnL.setE6 ?_ q64 _)))
end Go.Proofs.Ytoeknbogaclfdaa
