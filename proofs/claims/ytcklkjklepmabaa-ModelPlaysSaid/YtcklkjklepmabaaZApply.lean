/-
  Images with snapshots: contract of the program's Apply.
-/
import Derived.Test.YtcklkjklepmabaaZCheck
import Derived.Test.YtcklkjklepmabaaZDelete
import Derived.Test.YtcklkjklepmabaaZSized2
namespace Go.Proofs.Ytcklkjklepmabaa
open Go.RowKit
set_option linter.unusedVariables false
set_option linter.unusedSimpArgs false
set_option linter.unnecessarySimpa false
set_option maxRecDepth 100000

/-- elements that lead into blocks from B on, but not into one -/
def atR (B G : Nat) (x : Ol) (cs : List Value) (w : World) : Prop := olR x cs w ∧ ∀ k, Pts cs k → B ≤ k ∧ k ≠ G
theorem at_rep (B G : Nat) : Rep 2 (atR B G) where
  len := fun x cs w h => ol_rep.len x cs w h.1
  one := fun x cs w h => ol_rep.one x cs w h.1
  keep := fun x cs w w' h hk => ⟨ol_rep.keep x cs w w' h.1 hk, h.2⟩
  lt := fun x cs w h => ol_rep.lt x cs w h.1
theorem OwnL.weak {α : Type} {size : Nat} {R R' : α → List Value → World → Prop} {e : TypeId} {w : World} {B : Nat} {A : Option Addr} {n c : Nat} {xs : List α} (h : OwnL e size R w B A n c xs) (hk : ∀ x cs, R x cs w → R' x cs w) : OwnL e size R' w B A n c xs := by
  obtain ⟨css, h1, h2, h3⟩ := h.own
  exact ⟨h.len, css, h1.weak hk, h2, h3⟩
theorem own_at {w : World} {B G : Nat} {A : Option Addr} {n c : Nat} {xs : List Ol} (h : OwnL TOl 2 (fromR olR B) w B A n c xs) (hG : w.heap.size ≤ G) : OwnL TOl 2 (atR B G) w B A n c xs :=
  h.weak fun x cs hr => ⟨hr.1, fun k hk => ⟨hr.2 k hk, by have := ol_rep.lt x cs w hr.1 k hk; omega⟩⟩
theorem findF_in : ∀ (xs : List Ol) (s : ByteArray) (k : Nat), findF xs s k = -1 ∨ ((k : Int) ≤ findF xs s k ∧ findF xs s k < k + xs.length)
  | [], s, k => .inl rfl
  | x :: xs, s, k => by
    rw [findF]
    simp only [List.length_cons]
    split
    · exact .inr ⟨Int.le_refl _, by omega⟩
    · rcases findF_in xs s (k + 1) with h | h
      · exact .inl h
      · exact .inr (by omega)
theorem find_at {st : St} {s : ByteArray} (h : ¬ findI st.sn s < 0) : ∃ p : Nat, findI st.sn s = (p : Int) ∧ p < st.sn.length := by
  unfold findI at h ⊢
  rcases findF_in st.sn s 0 with h1 | h1
  · omega
  · exact ⟨(findF st.sn s 0).toNat, by omega, by omega⟩
theorem frozen_but {H : Nat} {S : Nat → Prop} {a b : World} (h : But H S a b) {p : Addr} (hp : p.block < a.heap.size) (hH : p.block < H) (hS : ¬ S p.block) (hf : a.frozen? p = false) : b.frozen? p = false := by
  have e := h.block p.block hH hS hp
  unfold World.frozen? at hf ⊢
  rw [e]
  exact hf
theorem OwnL.keepBut {α : Type} {size : Nat} {R : α → List Value → World → Prop} {e : TypeId} {w w' : World} {B : Nat} {A : Option Addr} {n c : Nat} {xs : List α} (hR : Rep size R) (h : OwnL e size R w B A n c xs) {H : Nat} {S : Nat → Prop} (hb : But H S w w') (hH : w.heap.size ≤ H) (hrow : ∀ g, rowOf A c = some g → ¬ S g) (hp : ∀ x cs, R x cs w → ∀ k, Pts cs k → ¬ S k) : OwnL e size R w' B A n c xs := by
  have hlt := h.row_lt
  obtain ⟨css, h1, h2, h3⟩ := h.own
  exact ⟨h.len, css, h1.mono fun x cs _ hr => hR.keep _ _ _ _ hr fun k hk => by have := hR.lt _ _ _ hr k hk; exact hb.block k (by omega) (hp x cs hr k hk) this, h2.but hb fun g hg => ⟨by have := (hlt g hg).2; omega, hrow g hg⟩, h3⟩
theorem but_of_ext {wb w6 w7 : World} {S : Nat → Prop} (h16 : Ext wb w6) (h17 : Ext wb w7) (hs : w7.heap.size = w6.heap.size) (hk : ∀ k, ¬ S k → w7.heap[k]? = w6.heap[k]?) : But w6.heap.size S w6 w7 :=
  ⟨(Below.os h17).trans (Below.os h16).symm, (Below.tape h17).trans (Below.tape h16).symm, (Below.output h17).trans (Below.output h16).symm, by omega, fun k _ hS _ => hk k hS⟩
def ByT1 (B : Nat) (A : Option Addr) (n c : Nat) (l : List UInt8) : Ty := fun _ w => Byt U8 w B A n c l
theorem ByT1.keeps (B : Nat) (A : Option Addr) (n c : Nat) (l : List UInt8) : Keeps Ext (ByT1 B A n c l) := fun _ _ _ hx h => Byt.ext h hx
theorem feed_at {P : Program} {tx e' : TypeId} {w : World} {B G Bn Bo : Nat} {R' : Ol → List Value → World → Prop} {A : Option Addr} {n c : Nat} {xs : List Ol} (ho : OwnL TOl 2 R' w Bo A n c xs) (hrow : ∀ g, rowOf A c = some g → g < Bn) (hB : B ≤ Bn) (hG : G < Bn)
    {A2 : Option Addr} {m c2 : Nat} {ys : List Ol} (h : Lst 2 (fromR olR Bn) w A2 m c2 ys) (hk : P.underlying tx = some (.slice e')) : Feed P 2 (atR B G) w tx A c (.slice A2 m c2) m ys := by
  obtain ⟨h0, dss, h1, h2, h3⟩ := Feed.from (P := P) (tx := tx) (B0 := Bn) ol_rep ho hrow (Nat.le_refl _) h hk
  exact ⟨h0, dss, h1.weak fun x cs q => ⟨q.1, fun k hk => by have := q.2 k hk; omega⟩, h2, h3⟩
def OAq (B G m : Nat) (v0 v1 : Value) (xs : List Ol) : Ty := fun v w => ∃ A c, v = .slice A m c ∧ OwnL TOl 2 (atR B G) w B A m c xs ∧ rowOf A c ≠ some G ∧ w.cell? ⟨G, 0, none⟩ = some v0 ∧ w.cell? ⟨G, 1, none⟩ = some v1 ∧ (∀ q, w.frozen? ⟨G, q, none⟩ = false) ∧ G < w.heap.size
def OEq (B G m : Nat) (v0 : Value) (xs : List Ol) : Ty := fun _ w => ∃ A c, OwnL TOl 2 (atR B G) w B A m c xs ∧ w.cell? ⟨G, 0, none⟩ = some v0 ∧ w.cell? ⟨G, 1, none⟩ = some (.slice A m c)
theorem OAq.keeps (B G m : Nat) (v0 v1 : Value) (xs : List Ol) : Keeps Ext (OAq B G m v0 v1 xs) := fun _ _ _ hx ⟨A, c, e, h, hr, h0, h1, hf, hs⟩ => ⟨A, c, e, h.ext (at_rep _ _) hx, hr, hx.cell h0, hx.cell h1, fun q => frozen_ext hx hs (hf q), Nat.lt_of_lt_of_le hs hx.size⟩
theorem OEq.keeps (B G m : Nat) (v0 : Value) (xs : List Ol) : Keeps Ext (OEq B G m v0 xs) := fun _ _ _ hx ⟨A, c, h, h0, h1⟩ => ⟨A, c, h.ext (at_rep _ _) hx, hx.cell h0, hx.cell h1⟩
/-- an image in memory of its own, from a block on -/
structure StF (w : World) (B : Nat) (A : Option Addr) (n c : Nat) (A2 : Option Addr) (n2 c2 : Nat) (s : St) : Prop where
  data : Fsl w B A n c s.d
  snaps : Lst 2 (fromR olR B) w A2 n2 c2 s.sn
  row : ∀ ad, A2 = some ad → 0 < n2 → B ≤ ad.block
theorem StF.st {w : World} {B : Nat} {A : Option Addr} {n c : Nat} {A2 : Option Addr} {n2 c2 : Nat} {s : St} (h : StF w B A n c A2 n2 c2 s) : StR w A n c A2 n2 c2 s := ⟨h.data.sl, h.snaps.weak fun x cs q => q.1⟩
theorem StF.nil (w : World) (B : Nat) : StF w B none 0 0 none 0 0 ⟨[], []⟩ := ⟨Fsl.nil _ _, Lst.nil _, fun _ e => by cases e⟩
theorem OwnL.blockF {α : Type} {size : Nat} {R : α → List Value → World → Prop} {e : TypeId} {w : World} {B : Nat} {A : Option Addr} {n c : Nat} {xs : List α} (h : OwnL e size R w B A n c xs) (hn : 0 < n) : ∀ ad, A = some ad → B ≤ ad.block := by
  obtain ⟨css, _, h2, _⟩ := h.own
  intro ad e
  rcases h2 with ⟨_, h0, _⟩ | ⟨g, cur, hA, hB, _⟩
  · omega
  · rw [hA] at e
    injection e with e
    rw [← e]
    exact hB
def findN (st : St) (s : ByteArray) : Nat := (findI st.sn s).toNat
def applyS (st : St) (k o m : Int) (l : List UInt8) (s : ByteArray) : St :=
  if k = 1 then ⟨over st.d o.toNat l, st.sn⟩
  else if k = 2 ∨ k = 3 then ⟨over st.d o.toNat (List.replicate m.toNat 0), st.sn⟩
  else if k = 4 then ⟨sizedL st.d m.toNat, st.sn⟩
  else if k = 5 then ⟨st.d, st.sn ++ [⟨s, st.d⟩]⟩
  else if k = 6 then ⟨st.d, st.sn.take (findN st s) ++ st.sn.drop (findN st s + 1)⟩
  else if k = 7 then ⟨(st.sn.getD (findN st s) ⟨s, []⟩).d, st.sn⟩
  else st
def appliedS (r : Nat) (st : St) (k o m : Int) (l : List UInt8) (s : ByteArray) : St := if r = 0 then applyS st k o m l s else ⟨[], []⟩
theorem check_right {st : St} {k o m : Int} {n : Nat} {s : ByteArray} (h : checkN st k o m n s = 0) : rightE k o m n s = true := by
  cases hr : rightE k o m n s with
  | true => rfl
  | false => rw [check_wrong hr] at h; cases h
set_option maxHeartbeats 16000000 in
theorem model_Apply {A : Option Addr} {n c : Nat} {A2 : Option Addr} {n2 c2 : Nat} {st : St} {k o m : Int} {Ae : Option Addr} {ne ce : Nat} {l : List UInt8} {s : ByteArray} {w : World} (hst : StR w A n c A2 n2 c2 st) (hn : n ≤ 1000) (hn2 : n2 ≤ 1000) (hd : ∀ x ∈ st.sn, x.d.length ≤ 1000) (hsl : Sl w Ae ne ce l) (hs : s.size ≤ maxLen) {r : Nat} (hr : Hid (checkN st k o m ne s = r)) {S : St} (hS : Hid (appliedS r st k o m l s = S)) :
    Calls Try.prog 50 #[stV A n c A2 n2 c2, evV k o m Ae ne ce s] w fun e w' => ∃ A' n' c' A3 n3 c3, e = .returned (.tuple #[stV A' n' c' A3 n3 c3, .int .i64 r]) ∧ StF w' w.heap.size A' n' c' A3 n3 c3 S ∧ Ext w w' := by
  have h63 := hst.1.n63
  have h632 := hst.2.n63
  have hdl := hst.1.len
  have hsn := hst.2.len
  obtain ⟨W, hW⟩ : ∃ W, ((w.alloc (.cells #[.slice A n c, .slice A2 n2 c2] 35)).alloc (.cells #[.int .i64 k, .int .i64 o, .int .i64 m, .slice Ae ne ce, .string s] 28)).alloc (.cells #[.slice none 0 0, .slice none 0 0] 35) = W := ⟨_, rfl⟩
  have g0 : Ext w W := by rw [← hW]; exact ((Ext.alloc _ _).trans (Ext.alloc _ _)).trans (Ext.alloc _ _)
  have hWs : W.heap.size = w.heap.size + 3 := by rw [← hW]; simp
  have s0 : W.cell? ⟨w.heap.size, 0, none⟩ = some (.slice A n c) := by rw [← hW]; exact ((Ext.alloc _ _).trans (Ext.alloc _ _)).cell (cell_new w _ _ 0)
  have s1 : W.cell? ⟨w.heap.size, 1, none⟩ = some (.slice A2 n2 c2) := by rw [← hW]; exact ((Ext.alloc _ _).trans (Ext.alloc _ _)).cell (cell_new w _ _ 1)
  have v0 : W.cell? ⟨w.heap.size + 1, 0, none⟩ = some (.int .i64 k) := by rw [← hW]; exact (Ext.alloc _ _).cell (by have := cell_new (w.alloc (.cells #[.slice A n c, .slice A2 n2 c2] 35)) #[.int .i64 k, .int .i64 o, .int .i64 m, .slice Ae ne ce, .string s] 28 0; simpa using this)
  have v1 : W.cell? ⟨w.heap.size + 1, 1, none⟩ = some (.int .i64 o) := by rw [← hW]; exact (Ext.alloc _ _).cell (by have := cell_new (w.alloc (.cells #[.slice A n c, .slice A2 n2 c2] 35)) #[.int .i64 k, .int .i64 o, .int .i64 m, .slice Ae ne ce, .string s] 28 1; simpa using this)
  have v2 : W.cell? ⟨w.heap.size + 1, 2, none⟩ = some (.int .i64 m) := by rw [← hW]; exact (Ext.alloc _ _).cell (by have := cell_new (w.alloc (.cells #[.slice A n c, .slice A2 n2 c2] 35)) #[.int .i64 k, .int .i64 o, .int .i64 m, .slice Ae ne ce, .string s] 28 2; simpa using this)
  have v3 : W.cell? ⟨w.heap.size + 1, 3, none⟩ = some (.slice Ae ne ce) := by rw [← hW]; exact (Ext.alloc _ _).cell (by have := cell_new (w.alloc (.cells #[.slice A n c, .slice A2 n2 c2] 35)) #[.int .i64 k, .int .i64 o, .int .i64 m, .slice Ae ne ce, .string s] 28 3; simpa using this)
  have v4 : W.cell? ⟨w.heap.size + 1, 4, none⟩ = some (.string s) := by rw [← hW]; exact (Ext.alloc _ _).cell (by have := cell_new (w.alloc (.cells #[.slice A n c, .slice A2 n2 c2] 35)) #[.int .i64 k, .int .i64 o, .int .i64 m, .slice Ae ne ce, .string s] 28 4; simpa using this)
  have z0 : W.cell? ⟨w.heap.size + 2, 0, none⟩ = some (.slice none 0 0) := by rw [← hW]; have := cell_new ((w.alloc (.cells #[.slice A n c, .slice A2 n2 c2] 35)).alloc (.cells #[.int .i64 k, .int .i64 o, .int .i64 m, .slice Ae ne ce, .string s] 28)) #[.slice none 0 0, .slice none 0 0] 35 0; simpa using this
  have z1 : W.cell? ⟨w.heap.size + 2, 1, none⟩ = some (.slice none 0 0) := by rw [← hW]; have := cell_new ((w.alloc (.cells #[.slice A n c, .slice A2 n2 c2] 35)).alloc (.cells #[.int .i64 k, .int .i64 o, .int .i64 m, .slice Ae ne ce, .string s] 28)) #[.slice none 0 0, .slice none 0 0] 35 1; simpa using this
  have zf : ∀ q, W.frozen? ⟨w.heap.size + 2, q, none⟩ = false := fun q => by
    have e : ((w.alloc (.cells #[.slice A n c, .slice A2 n2 c2] 35)).alloc (.cells #[.int .i64 k, .int .i64 o, .int .i64 m, .slice Ae ne ce, .string s] 28)).heap.size = w.heap.size + 2 := by simp
    rw [← hW, ← e]
    unfold World.frozen?
    rw [heap_alloc_new]
    simp
  by_cases hr0 : r = 0
  case neg =>
    obtain rfl : (⟨[], []⟩ : St) = S := by rw [← hS.out]; unfold appliedS; rw [if_neg hr0]
    have qr : ((r : Int) != 0) = true := by simp; omega
    clear hS hr0
    go_enter Try.func50, Try.ntmps50
    go_wp2_with fail
    refine (model_Check (hst.ext g0) (hsl.ext g0) hs hr).mono ?_
    rintro e wb ⟨rfl, h1⟩
    have zf0 := frozen_ext h1 (by rw [hWs]; simp) (zf 0)
    have zf1 := frozen_ext h1 (by rw [hWs]; simp) (zf 1)
    replace s0 := h1.cell s0
    replace s1 := h1.cell s1
    replace v0 := h1.cell v0
    replace v1 := h1.cell v1
    replace v2 := h1.cell v2
    replace v3 := h1.cell v3
    replace v4 := h1.cell v4
    replace z0 := h1.cell z0
    replace z1 := h1.cell z1
    replace g0 := g0.trans h1
    clear hW
    go_wp2_with fail
    refine bodyPost_ret (v := .tuple #[stV none 0 0 none 0 0, .int .i64 r]) (by simp [results, Try.results50, go_sem, z0, z1]) rfl ⟨_, _, _, _, _, _, rfl, StF.nil _ _, ?_⟩
    exact (g0.sets (by simp; omega) _).sets (by simp; omega) _
  subst hr0
  have hre := check_right hr.out
  have hkk := right_kind hre
  obtain ⟨f, hf⟩ : ∃ f, findI st.sn s = f := ⟨_, rfl⟩
  obtain ⟨so, hso⟩ : ∃ q, spanO k o m ne s = q := ⟨_, rfl⟩
  obtain ⟨sn, hsn2⟩ : ∃ q, spanN k o m ne s = q := ⟨_, rfl⟩
  have hbd := span_bounds (k := k) (o := o) (m := m) (n := ne) (s := s)
  rw [hso, hsn2] at hbd
  obtain ⟨hb1, hb2, hb3', hb4⟩ := hbd
  have HF := Lib.hid hf
  have HSO := Lib.hid hso
  have HSN := Lib.hid hsn2
  have hS2 := hS.out
  unfold appliedS at hS2
  rw [if_pos rfl] at hS2
  have hf0 := hso
  have hf1 := hsn2
  clear hS hso hsn2
  rcases hkk with rfl | rfl | rfl | rfl | rfl | rfl | rfl | rfl
  · have hck := hr.out
    rw [check_span hre (by omega), hf0, hf1] at hck
    obtain ⟨ho0, hne0, hne1, hom⟩ : 0 ≤ o ∧ 1 ≤ ne ∧ ne ≤ 64 ∧ o ≤ 512 - (ne : Int) := by
      rcases right_cases hre with ⟨_, h0, ⟨h1, h2, h3, h4⟩, _⟩ | ⟨h, _⟩ | ⟨h, _⟩ | ⟨h, _⟩ | ⟨h, _⟩
      · exact ⟨h1, by omega, h0, h4⟩
      · omega
      · omega
      · omega
      · omega
    have hpl : plainE 1 o m ne s = true := by unfold plainE; rw [hre]; simp
    obtain rfl : so = o := by rw [← hf0]; unfold spanO; rw [if_pos hpl]
    obtain rfl : sn = (ne : Int) := by rw [← hf1]; unfold spanN; rw [if_pos hpl, if_pos rfl]
    obtain ⟨so, rfl⟩ := Int.eq_ofNat_of_zero_le ho0
    have hfit : so + ne ≤ n := by
      rw [hdl] at hck
      split at hck
      · cases hck
      · omega
    have hSv : S = ⟨over st.d so l, st.sn⟩ := by rw [← hS2]; simp [applyS]
    subst hSv
    obtain ⟨i8, hi8, hy0, hy1, hy2⟩ := info_parts info_u8
    have hll := hsl.len
    have hsz8 : (Try.prog.info? U8).map (·.size) = some 1 := by kernel_rfl
    clear hS2 hf hf0 hf1 hre hck hpl
    go_enter Try.func50, Try.ntmps50
    go_wp2_with fail
    refine (model_Check (hst.ext g0) (hsl.ext g0) hs hr).mono ?_
    rintro e wb ⟨rfl, h1⟩
    replace zf : ∀ q, wb.frozen? ⟨w.heap.size + 2, q, none⟩ = false := fun q => frozen_ext h1 (by rw [hWs]; simp) (zf q)
    have hw1 : w.heap.size + 3 ≤ wb.heap.size := by have := h1.size; omega
    replace s0 := h1.cell s0
    replace s1 := h1.cell s1
    replace v0 := h1.cell v0
    replace v1 := h1.cell v1
    replace v2 := h1.cell v2
    replace v3 := h1.cell v3
    replace v4 := h1.cell v4
    replace z0 := h1.cell z0
    replace z1 := h1.cell z1
    replace g0 := g0.trans h1
    clear hW h1
    go_wp2_with fail
    refine (model_own (hst.ext g0) hn hn2 hd).mono ?_
    rintro e w2 ⟨A', c', A3, c3, B, rfl, hb, hown, hrow, hBw, hB2, h2⟩
    have hw2 := h2.size
    replace hown := own_at (G := w2.heap.size) hown (Nat.le_refl _)
    have zfn : ∀ q, (w2.alloc (.cells #[.slice A' n c', .slice A3 n2 c3] 35)).frozen? ⟨w.heap.size + 2, q, none⟩ = false := fun q => frozen_ext (h2.trans (Ext.alloc _ _)) (by simp; omega) (zf q)
    obtain ⟨go, hgo⟩ : ∃ go, w2.heap.size = go := ⟨_, rfl⟩
    rw [hgo] at hown
    have h12 : Ext wb (w2.alloc (.cells #[.slice A' n c', .slice A3 n2 c3] 35)) := h2.trans (Ext.alloc _ _)
    replace s0 := h12.cell s0
    replace s1 := h12.cell s1
    replace v0 := h12.cell v0
    replace v1 := h12.cell v1
    replace v2 := h12.cell v2
    replace v3 := h12.cell v3
    replace v4 := h12.cell v4
    replace z0 := h12.cell z0
    replace z1 := h12.cell z1
    replace g0 := g0.trans h12
    have y0 : (w2.alloc (.cells #[.slice A' n c', .slice A3 n2 c3] 35)).cell? ⟨go, 0, none⟩ = some (.slice A' n c') := by rw [← hgo]; exact cell_new w2 _ _ 0
    have y1 : (w2.alloc (.cells #[.slice A' n c', .slice A3 n2 c3] 35)).cell? ⟨go, 1, none⟩ = some (.slice A3 n2 c3) := by rw [← hgo]; exact cell_new w2 _ _ 1
    have yf : ∀ q, (w2.alloc (.cells #[.slice A' n c', .slice A3 n2 c3] 35)).frozen? ⟨go, q, none⟩ = false := fun q => by
      rw [← hgo]
      unfold World.frozen?
      rw [heap_alloc_new]
      simp
    have ys : go < (w2.alloc (.cells #[.slice A' n c', .slice A3 n2 c3] 35)).heap.size := by rw [← hgo]; simp
    have hb3 := hb.ext (Ext.alloc w2 (.cells #[.slice A' n c', .slice A3 n2 c3] 35))
    have hown3 := hown.ext (at_rep B go) (Ext.alloc w2 (.cells #[.slice A' n c', .slice A3 n2 c3] 35))
    have hbr : ∀ g, rowOf A' c' = some g → wb.heap.size ≤ g ∧ g < go := fun g hg => by have := hb.own.row_ge g hg; omega
    have hor : ∀ g, rowOf A3 c3 = some g → B ≤ g ∧ g < go := fun g hg => by have := hown.row_lt g hg; omega
    go_wp2_with fail
    refine (event_Span 1 so m Ae ne ce l s _ (hsl.ext g0) hs).mono ?_
    rintro e w5 ⟨rfl, h5⟩
    rw [HSO.out, HSN.out]
    replace s0 := h5.cell s0
    replace s1 := h5.cell s1
    replace v0 := h5.cell v0
    replace v1 := h5.cell v1
    replace v2 := h5.cell v2
    replace v3 := h5.cell v3
    replace v4 := h5.cell v4
    replace z0 := h5.cell z0
    replace z1 := h5.cell z1
    replace g0 := g0.trans h5
    replace y0 := h5.cell y0
    replace y1 := h5.cell y1
    go_wp2_with fail
    refine (model_find (hst.ext g0) HF).mono ?_
    rintro e w6 ⟨rfl, h6⟩
    replace s0 := h6.cell s0
    replace s1 := h6.cell s1
    replace v0 := h6.cell v0
    replace v1 := h6.cell v1
    replace v2 := h6.cell v2
    replace v3 := h6.cell v3
    replace v4 := h6.cell v4
    replace z0 := h6.cell z0
    replace z1 := h6.cell z1
    replace g0 := g0.trans h6
    replace y0 := h6.cell y0
    replace y1 := h6.cell y1
    have h36 := h5.trans h6
    replace yf : ∀ q, w6.frozen? ⟨go, q, none⟩ = false := fun q => frozen_ext h36 ys (yf q)
    replace zf : ∀ q, w6.frozen? ⟨w.heap.size + 2, q, none⟩ = false := fun q => frozen_ext h36 (by simp; omega) (zfn q)
    replace ys := Nat.lt_of_lt_of_le ys h36.size
    have hb6 := hb3.ext h36
    have hown6 := hown3.ext (at_rep B go) h36
    have h16 := h12.trans h36
    have zf0 := zf 0
    have zf1 := zf 1
    have yf0 := yf 0
    have yf1 := yf 1
    clear hb3 hown3 hb hown h12 h36 h5 h6 zfn h2
    have hcap := hb6.sl.cap
    have hcutb := fun w' => run_fromL (t := 22) under_bytes hi8 hy1 w' A' n c' so (by omega) hcap (so : Int) rfl
    obtain ⟨A8, hA8⟩ : ∃ A8, (if c' = so then A' else A'.map (·.add (so * 1))) = A8 := ⟨_, rfl⟩
    have hA9 : A8 = A'.map (·.add so) := by rw [← hA8, if_neg (by omega)]; simp
    obtain ⟨dl, hdl2⟩ : ∃ dl, n - so = dl := ⟨_, rfl⟩
    have hdl3 : so + dl = n := by omega
    have hlt2 : l.take dl = l := List.take_of_length_le (by omega)
    rw [hA8, hdl2] at hcutb
    have HA9 := Lib.hid hA9
    have HL2 := Lib.hid hlt2
    have hsl6 := hsl.ext g0
    clear hA8 hA9 hlt2 hdl2
    go_wp2_with fail
    refine wp_region_typed2 (R := But w6.heap.size (fun k => rowOf A' c' = some k)) Ext.steady (But.steady _ _) (fun _ _ => But.of_ext) rfl 91 rfl [0, 1, 0, 7, 0, 16, 63] 64 (by kernel_rfl) ?_
    -- 0: Op.fieldAddr 35 t7 0
    apply Stage2.step (Is _) true [] true false (Is.keeps _) (fun _ => Is.keeps _) (by kernel_rfl)
    · intro w1 h1
      have h1 : Ext _ w1 := h1
      simp only [List.nil_append, List.cons_append, List.map_cons, List.map_nil, Given]
      go_wp2_with fail
      exact Post.isv (Ext.refl _) rfl rfl rfl
    -- 1: Op.load 22 t33
    apply Stage2.step (Is _) true [true] true false (Is.keeps _) (fun _ => Is.keeps _) (by kernel_rfl)
    · intro w1 h1
      have h1 : Ext _ w1 := h1
      simp only [List.nil_append, List.cons_append, List.map_cons, List.map_nil, Sp.pr, Given]
      rintro _ rfl
      have hq := h1.cell y0
      go_wp2_with fail
      exact Post.isv (Ext.refl _) rfl rfl rfl
    -- 2: Op.move t8
    apply Stage2.step (Is _) true [] true false (Is.keeps _) (fun _ => Is.keeps _) (by kernel_rfl)
    · intro w1 h1
      have h1 : Ext _ w1 := h1
      simp only [List.nil_append, List.cons_append, List.map_cons, List.map_nil, Given]
      go_wp2_with fail
      exact Post.isv (Ext.refl _) rfl rfl rfl
    -- 3: Op.slice 22 t34 (some t35) none none
    apply Stage2.step (Is _) true [false, true, true] true false (Is.keeps _) (fun _ => Is.keeps _) (by kernel_rfl)
    · intro w1 h1
      have h1 : Ext _ w1 := h1
      simp only [List.nil_append, List.cons_append, List.map_cons, List.map_nil, Sp.pr, Given]
      rintro _ rfl
      rintro _ rfl
      go_wp2_with fail
      exact Post.isv (Ext.refl _) rfl rfl rfl
    -- 4: Op.fieldAddr 28 t3 3
    apply Stage2.step (Is _) true [] true false (Is.keeps _) (fun _ => Is.keeps _) (by kernel_rfl)
    · intro w1 h1
      have h1 : Ext _ w1 := h1
      simp only [List.nil_append, List.cons_append, List.map_cons, List.map_nil, Given]
      go_wp2_with fail
      exact Post.isv (Ext.refl _) rfl rfl rfl
    -- 5: Op.load 22 t37
    apply Stage2.step (Is _) true [false, false, false, false, true] true false (Is.keeps _) (fun _ => Is.keeps _) (by kernel_rfl)
    · intro w1 h1
      have h1 : Ext _ w1 := h1
      simp only [List.nil_append, List.cons_append, List.map_cons, List.map_nil, Sp.pr, Given]
      rintro _ rfl
      have hq := h1.cell v3
      go_wp2_with fail
      exact Post.isv (Ext.refl _) rfl rfl rfl
    -- 6: Op.call { builtin copy, args := #[t36, t38], argTypes := #[22, 22] }
    apply Stage2.step (ByT1 wb.heap.size A' n c' (over st.d so l)) false [false, false, false, true, false, true] true true (ByT1.keeps _ _ _ _ _) (no_keeps) (by kernel_rfl)
    · intro w1 h1
      have h1 : Ext _ w1 := h1
      simp only [List.nil_append, List.cons_append, List.map_cons, List.map_nil, Sp.pr, Given]
      rintro _ rfl
      rintro _ rfl
      have h16a := h16.trans h1
      go_wp2_with (
        with_reducible refine wpList_copy_byt (w0 := wb) rfl (.tmp 36) (.tmp 38) 22 22 rfl U8 under_bytes hsz8 A' n c' st.d so A8 dl (c' - so) rfl (hb6.ext h1) hdl3 (fun _ => HA9.out) Ae ne ce l rfl (hsl6.ext h1) h16a ?_
        intro w7 hb7 h17 hs7 hk7)
      rw [HL2.out] at hb7
      exact ⟨rfl, rfl, (show But w6.heap.size (fun k => rowOf A' c' = some k) w1 w7 from by
        have hq := but_of_ext (S := fun k => rowOf A' c' = some k) h16a h17 hs7 hk7
        have hq2 := h1.size
        exact ⟨hq.os, hq.tape, hq.output, hq.size, fun k hk hs hl => hq.block k hl hs hl⟩), hb7⟩
    apply Stage2.nil [true, true, true, true, true, true, true] (by kernel_rfl)
    intro w1 h1
    have h1 : (But w6.heap.size (fun k => rowOf A' c' = some k)) _ w1 := h1
    simp only [List.nil_append, List.cons_append, List.map_cons, List.map_nil, Sp.pr]
    refine Fin2.is_ ?_
    refine Fin2.is_ ?_
    refine Fin2.is_ ?_
    refine Fin2.is_ ?_
    refine Fin2.is_ ?_
    refine Fin2.is_ ?_
    refine Fin2.step_ ?_
    rintro _ hb7
    refine Fin2.nil_ ?_
    go_simp
    have hbt := h1
    have hlow : ∀ b, b < w.heap.size + 3 → ¬ rowOf A' c' = some b := fun b hb e => by have := (hbr b e).1; omega
    have hgn : ¬ rowOf A' c' = some go := fun e => by have := (hbr go e).2; omega
    replace s0 := hbt.cell s0 (by simp only; omega) (hlow _ (by simp only; omega))
    replace s1 := hbt.cell s1 (by simp only; omega) (hlow _ (by simp only; omega))
    replace v0 := hbt.cell v0 (by simp only; omega) (hlow _ (by simp only; omega))
    replace v1 := hbt.cell v1 (by simp only; omega) (hlow _ (by simp only; omega))
    replace v2 := hbt.cell v2 (by simp only; omega) (hlow _ (by simp only; omega))
    replace v3 := hbt.cell v3 (by simp only; omega) (hlow _ (by simp only; omega))
    replace v4 := hbt.cell v4 (by simp only; omega) (hlow _ (by simp only; omega))
    replace z0 := hbt.cell z0 (by simp only; omega) (hlow _ (by simp only; omega))
    replace z1 := hbt.cell z1 (by simp only; omega) (hlow _ (by simp only; omega))
    replace y0 := hbt.cell y0 ys hgn
    replace y1 := hbt.cell y1 ys hgn
    have zg0 := frozen_but hbt (by simp only; omega) (by simp only; omega) (hlow _ (by simp only; omega)) zf0
    have zg1 := frozen_but hbt (by simp only; omega) (by simp only; omega) (hlow _ (by simp only; omega)) zf1
    have hbF := hb7
    have hoF := hown6.keepBut (at_rep B go) hbt (Nat.le_refl _) (fun g hg e => by have := (hor g hg).1; have := hrow g e; omega) (fun x cs hr k hk e => by have := (hr.2 k hk).1; have := hrow k e; omega)
    have gF := g0.but hbt g0.size (fun g e => by have := (hbr g e).1; omega)
    clear hcutb
    go_wp2_with fail
    refine bodyPost_ret (v := .tuple #[stV A' n c' A3 n2 c3, .int .i64 0]) ?hres rfl ⟨_, _, _, _, _, _, rfl, ⟨?hD, ?hN, ?hA⟩, ?hxx⟩
    case hres => simp [results, Try.results50, go_sem, z0, z1]
    case hD =>
      have hfar : ∀ g, rowOf A' c' = some g → g ≠ w.heap.size + 2 := fun g hg => by have := (hbF.own.row_ge g hg).1; omega
      exact ((hbF.far hfar _).far hfar _).fsl.low (by omega)
    case hN =>
      have hfar : rowOf A3 c3 ≠ some (w.heap.size + 2) := fun e => by have := (hoF.row_lt _ e).1; omega
      have hpp : ∀ (w' : World) (x : Ol) (cs : List Value), atR B go x cs w' → ∀ k, Pts cs k → k ≠ w.heap.size + 2 := fun w' x cs hr k hk e => by have := (hr.2 k hk).1; omega
      exact ((hoF.setCell (at_rep B go) (p := ⟨w.heap.size + 2, 0, none⟩) _ hfar (hpp _)).setCell (at_rep B go) (p := ⟨w.heap.size + 2, 1, none⟩) _ hfar (hpp _)).lst.weak fun x cs h => ⟨h.1, fun k hk => by have := (h.2 k hk).1; omega⟩
    case hA => exact fun ad e h0 => by have := hoF.blockF h0 ad e; omega
    case hxx => exact (gF.sets (by simp; omega) _).sets (by simp; omega) _
  · have hck := hr.out
    rw [check_span hre (by omega), hf0, hf1] at hck
    obtain ⟨ho0, hm0, hm1, hom⟩ : 0 ≤ o ∧ 1 ≤ m ∧ m ≤ 512 ∧ o ≤ 512 - m := by
      rcases right_cases hre with ⟨h, _⟩ | ⟨_, _, ⟨h1, h2, h3, h4⟩, _⟩ | ⟨h, _⟩ | ⟨h, _⟩ | ⟨h, _⟩
      · omega
      · exact ⟨h1, h2, h3, h4⟩
      · omega
      · omega
      · omega
    have hpl : plainE 2 o m ne s = true := by unfold plainE; rw [hre]; simp
    obtain rfl : so = o := by rw [← hf0]; unfold spanO; rw [if_pos hpl]
    obtain rfl : sn = m := by rw [← hf1]; unfold spanN; rw [if_pos hpl, if_neg (by omega)]
    obtain ⟨so, rfl⟩ := Int.eq_ofNat_of_zero_le ho0
    obtain ⟨sn, rfl⟩ := Int.eq_ofNat_of_zero_le (by omega : 0 ≤ sn)
    have hfit : so + sn ≤ n := by
      rw [hdl] at hck
      split at hck
      · cases hck
      · omega
    have hSv : S = ⟨over st.d so (List.replicate sn 0), st.sn⟩ := by rw [← hS2]; simp [applyS]
    subst hSv
    obtain ⟨i8, hi8, hy0, hy1, hy2⟩ := info_parts info_u8
    clear hS2 hf hf0 hf1 hre hck hpl
    go_enter Try.func50, Try.ntmps50
    go_wp2_with fail
    refine (model_Check (hst.ext g0) (hsl.ext g0) hs hr).mono ?_
    rintro e wb ⟨rfl, h1⟩
    replace zf : ∀ q, wb.frozen? ⟨w.heap.size + 2, q, none⟩ = false := fun q => frozen_ext h1 (by rw [hWs]; simp) (zf q)
    have hw1 : w.heap.size + 3 ≤ wb.heap.size := by have := h1.size; omega
    replace s0 := h1.cell s0
    replace s1 := h1.cell s1
    replace v0 := h1.cell v0
    replace v1 := h1.cell v1
    replace v2 := h1.cell v2
    replace v3 := h1.cell v3
    replace v4 := h1.cell v4
    replace z0 := h1.cell z0
    replace z1 := h1.cell z1
    replace g0 := g0.trans h1
    clear hW h1
    go_wp2_with fail
    refine (model_own (hst.ext g0) hn hn2 hd).mono ?_
    rintro e w2 ⟨A', c', A3, c3, B, rfl, hb, hown, hrow, hBw, hB2, h2⟩
    have hw2 := h2.size
    replace hown := own_at (G := w2.heap.size) hown (Nat.le_refl _)
    have zfn : ∀ q, (w2.alloc (.cells #[.slice A' n c', .slice A3 n2 c3] 35)).frozen? ⟨w.heap.size + 2, q, none⟩ = false := fun q => frozen_ext (h2.trans (Ext.alloc _ _)) (by simp; omega) (zf q)
    obtain ⟨go, hgo⟩ : ∃ go, w2.heap.size = go := ⟨_, rfl⟩
    rw [hgo] at hown
    have h12 : Ext wb (w2.alloc (.cells #[.slice A' n c', .slice A3 n2 c3] 35)) := h2.trans (Ext.alloc _ _)
    replace s0 := h12.cell s0
    replace s1 := h12.cell s1
    replace v0 := h12.cell v0
    replace v1 := h12.cell v1
    replace v2 := h12.cell v2
    replace v3 := h12.cell v3
    replace v4 := h12.cell v4
    replace z0 := h12.cell z0
    replace z1 := h12.cell z1
    replace g0 := g0.trans h12
    have y0 : (w2.alloc (.cells #[.slice A' n c', .slice A3 n2 c3] 35)).cell? ⟨go, 0, none⟩ = some (.slice A' n c') := by rw [← hgo]; exact cell_new w2 _ _ 0
    have y1 : (w2.alloc (.cells #[.slice A' n c', .slice A3 n2 c3] 35)).cell? ⟨go, 1, none⟩ = some (.slice A3 n2 c3) := by rw [← hgo]; exact cell_new w2 _ _ 1
    have yf : ∀ q, (w2.alloc (.cells #[.slice A' n c', .slice A3 n2 c3] 35)).frozen? ⟨go, q, none⟩ = false := fun q => by
      rw [← hgo]
      unfold World.frozen?
      rw [heap_alloc_new]
      simp
    have ys : go < (w2.alloc (.cells #[.slice A' n c', .slice A3 n2 c3] 35)).heap.size := by rw [← hgo]; simp
    have hb3 := hb.ext (Ext.alloc w2 (.cells #[.slice A' n c', .slice A3 n2 c3] 35))
    have hown3 := hown.ext (at_rep B go) (Ext.alloc w2 (.cells #[.slice A' n c', .slice A3 n2 c3] 35))
    have hbr : ∀ g, rowOf A' c' = some g → wb.heap.size ≤ g ∧ g < go := fun g hg => by have := hb.own.row_ge g hg; omega
    have hor : ∀ g, rowOf A3 c3 = some g → B ≤ g ∧ g < go := fun g hg => by have := hown.row_lt g hg; omega
    go_wp2_with fail
    refine (event_Span 2 so sn Ae ne ce l s _ (hsl.ext g0) hs).mono ?_
    rintro e w5 ⟨rfl, h5⟩
    rw [HSO.out, HSN.out]
    replace s0 := h5.cell s0
    replace s1 := h5.cell s1
    replace v0 := h5.cell v0
    replace v1 := h5.cell v1
    replace v2 := h5.cell v2
    replace v3 := h5.cell v3
    replace v4 := h5.cell v4
    replace z0 := h5.cell z0
    replace z1 := h5.cell z1
    replace g0 := g0.trans h5
    replace y0 := h5.cell y0
    replace y1 := h5.cell y1
    go_wp2_with fail
    refine (model_find (hst.ext g0) HF).mono ?_
    rintro e w6 ⟨rfl, h6⟩
    replace s0 := h6.cell s0
    replace s1 := h6.cell s1
    replace v0 := h6.cell v0
    replace v1 := h6.cell v1
    replace v2 := h6.cell v2
    replace v3 := h6.cell v3
    replace v4 := h6.cell v4
    replace z0 := h6.cell z0
    replace z1 := h6.cell z1
    replace g0 := g0.trans h6
    replace y0 := h6.cell y0
    replace y1 := h6.cell y1
    have h36 := h5.trans h6
    replace yf : ∀ q, w6.frozen? ⟨go, q, none⟩ = false := fun q => frozen_ext h36 ys (yf q)
    replace zf : ∀ q, w6.frozen? ⟨w.heap.size + 2, q, none⟩ = false := fun q => frozen_ext h36 (by simp; omega) (zfn q)
    replace ys := Nat.lt_of_lt_of_le ys h36.size
    have hb6 := hb3.ext h36
    have hown6 := hown3.ext (at_rep B go) h36
    have h16 := h12.trans h36
    have zf0 := zf 0
    have zf1 := zf 1
    have yf0 := yf 0
    have yf1 := yf 1
    clear hb3 hown3 hb hown h12 h36 h5 h6 zfn h2
    have hcap := hb6.sl.cap
    have hcutb := fun w' => run_cut w' A' n c' so (so + sn) (by omega) (by omega)
    obtain ⟨A8, hA8⟩ : ∃ A8, (if c' = so then A' else A'.map (·.add (so * 1))) = A8 := ⟨_, rfl⟩
    have hA9 : A8 = A'.map (·.add so) := by rw [← hA8, if_neg (by omega)]; simp
    rw [hA8, show so + sn - so = sn by omega, show ((so + sn : Nat) : Int) = (so : Int) + (sn : Int) by omega] at hcutb
    have HA9 := Lib.hid hA9
    clear hA8 hA9
    go_wp2_with (
      refine wpList_clear_byt (w0 := wb) rfl (.tmp 49) 22 rfl U8 under_bytes i8 hi8 hy0 A' n c' st.d so A8 sn (c' - so) rfl hb6 (by omega) (fun _ => HA9.out) h16 ?_
      intro w7 hb7 h17 hs7 hk7
      have hbt : But w6.heap.size (fun k => rowOf A' c' = some k) w6 w7 := but_of_ext h16 h17 hs7 hk7
      have hlow : ∀ b, b < w.heap.size + 3 → ¬ rowOf A' c' = some b := fun b hb e => by have := (hbr b e).1; omega
      have hgn : ¬ rowOf A' c' = some go := fun e => by have := (hbr go e).2; omega
      replace s0 := hbt.cell s0 (by simp only; omega) (hlow _ (by simp only; omega))
      replace s1 := hbt.cell s1 (by simp only; omega) (hlow _ (by simp only; omega))
      replace v0 := hbt.cell v0 (by simp only; omega) (hlow _ (by simp only; omega))
      replace v1 := hbt.cell v1 (by simp only; omega) (hlow _ (by simp only; omega))
      replace v2 := hbt.cell v2 (by simp only; omega) (hlow _ (by simp only; omega))
      replace v3 := hbt.cell v3 (by simp only; omega) (hlow _ (by simp only; omega))
      replace v4 := hbt.cell v4 (by simp only; omega) (hlow _ (by simp only; omega))
      replace z0 := hbt.cell z0 (by simp only; omega) (hlow _ (by simp only; omega))
      replace z1 := hbt.cell z1 (by simp only; omega) (hlow _ (by simp only; omega))
      replace y0 := hbt.cell y0 ys hgn
      replace y1 := hbt.cell y1 ys hgn
      have zg0 := frozen_but hbt (by simp only; omega) (by simp only; omega) (hlow _ (by simp only; omega)) zf0
      have zg1 := frozen_but hbt (by simp only; omega) (by simp only; omega) (hlow _ (by simp only; omega)) zf1
      have hbF := hb7
      have hoF := hown6.keepBut (at_rep B go) hbt (Nat.le_refl _) (fun g hg e => by have := (hor g hg).1; have := hrow g e; omega) (fun x cs hr k hk e => by have := (hr.2 k hk).1; have := hrow k e; omega)
      have gF := g0.but hbt g0.size (fun g e => by have := (hbr g e).1; omega)
      )
    refine bodyPost_ret (v := .tuple #[stV A' n c' A3 n2 c3, .int .i64 0]) ?hres rfl ⟨_, _, _, _, _, _, rfl, ⟨?hD, ?hN, ?hA⟩, ?hxx⟩
    case hres => simp [results, Try.results50, go_sem, z0, z1]
    case hD =>
      have hfar : ∀ g, rowOf A' c' = some g → g ≠ w.heap.size + 2 := fun g hg => by have := (hbF.own.row_ge g hg).1; omega
      exact ((hbF.far hfar _).far hfar _).fsl.low (by omega)
    case hN =>
      have hfar : rowOf A3 c3 ≠ some (w.heap.size + 2) := fun e => by have := (hoF.row_lt _ e).1; omega
      have hpp : ∀ (w' : World) (x : Ol) (cs : List Value), atR B go x cs w' → ∀ k, Pts cs k → k ≠ w.heap.size + 2 := fun w' x cs hr k hk e => by have := (hr.2 k hk).1; omega
      exact ((hoF.setCell (at_rep B go) (p := ⟨w.heap.size + 2, 0, none⟩) _ hfar (hpp _)).setCell (at_rep B go) (p := ⟨w.heap.size + 2, 1, none⟩) _ hfar (hpp _)).lst.weak fun x cs h => ⟨h.1, fun k hk => by have := (h.2 k hk).1; omega⟩
    case hA => exact fun ad e h0 => by have := hoF.blockF h0 ad e; omega
    case hxx => exact (gF.sets (by simp; omega) _).sets (by simp; omega) _
  · have hck := hr.out
    rw [check_span hre (by omega), hf0, hf1] at hck
    obtain ⟨ho0, hm0, hm1, hom⟩ : 0 ≤ o ∧ 1 ≤ m ∧ m ≤ 512 ∧ o ≤ 512 - m := by
      rcases right_cases hre with ⟨h, _⟩ | ⟨_, _, ⟨h1, h2, h3, h4⟩, _⟩ | ⟨h, _⟩ | ⟨h, _⟩ | ⟨h, _⟩
      · omega
      · exact ⟨h1, h2, h3, h4⟩
      · omega
      · omega
      · omega
    have hpl : plainE 3 o m ne s = true := by unfold plainE; rw [hre]; simp
    obtain rfl : so = o := by rw [← hf0]; unfold spanO; rw [if_pos hpl]
    obtain rfl : sn = m := by rw [← hf1]; unfold spanN; rw [if_pos hpl, if_neg (by omega)]
    obtain ⟨so, rfl⟩ := Int.eq_ofNat_of_zero_le ho0
    obtain ⟨sn, rfl⟩ := Int.eq_ofNat_of_zero_le (by omega : 0 ≤ sn)
    have hfit : so + sn ≤ n := by
      rw [hdl] at hck
      split at hck
      · cases hck
      · omega
    have hSv : S = ⟨over st.d so (List.replicate sn 0), st.sn⟩ := by rw [← hS2]; simp [applyS]
    subst hSv
    obtain ⟨i8, hi8, hy0, hy1, hy2⟩ := info_parts info_u8
    clear hS2 hf hf0 hf1 hre hck hpl
    go_enter Try.func50, Try.ntmps50
    go_wp2_with fail
    refine (model_Check (hst.ext g0) (hsl.ext g0) hs hr).mono ?_
    rintro e wb ⟨rfl, h1⟩
    replace zf : ∀ q, wb.frozen? ⟨w.heap.size + 2, q, none⟩ = false := fun q => frozen_ext h1 (by rw [hWs]; simp) (zf q)
    have hw1 : w.heap.size + 3 ≤ wb.heap.size := by have := h1.size; omega
    replace s0 := h1.cell s0
    replace s1 := h1.cell s1
    replace v0 := h1.cell v0
    replace v1 := h1.cell v1
    replace v2 := h1.cell v2
    replace v3 := h1.cell v3
    replace v4 := h1.cell v4
    replace z0 := h1.cell z0
    replace z1 := h1.cell z1
    replace g0 := g0.trans h1
    clear hW h1
    go_wp2_with fail
    refine (model_own (hst.ext g0) hn hn2 hd).mono ?_
    rintro e w2 ⟨A', c', A3, c3, B, rfl, hb, hown, hrow, hBw, hB2, h2⟩
    have hw2 := h2.size
    replace hown := own_at (G := w2.heap.size) hown (Nat.le_refl _)
    have zfn : ∀ q, (w2.alloc (.cells #[.slice A' n c', .slice A3 n2 c3] 35)).frozen? ⟨w.heap.size + 2, q, none⟩ = false := fun q => frozen_ext (h2.trans (Ext.alloc _ _)) (by simp; omega) (zf q)
    obtain ⟨go, hgo⟩ : ∃ go, w2.heap.size = go := ⟨_, rfl⟩
    rw [hgo] at hown
    have h12 : Ext wb (w2.alloc (.cells #[.slice A' n c', .slice A3 n2 c3] 35)) := h2.trans (Ext.alloc _ _)
    replace s0 := h12.cell s0
    replace s1 := h12.cell s1
    replace v0 := h12.cell v0
    replace v1 := h12.cell v1
    replace v2 := h12.cell v2
    replace v3 := h12.cell v3
    replace v4 := h12.cell v4
    replace z0 := h12.cell z0
    replace z1 := h12.cell z1
    replace g0 := g0.trans h12
    have y0 : (w2.alloc (.cells #[.slice A' n c', .slice A3 n2 c3] 35)).cell? ⟨go, 0, none⟩ = some (.slice A' n c') := by rw [← hgo]; exact cell_new w2 _ _ 0
    have y1 : (w2.alloc (.cells #[.slice A' n c', .slice A3 n2 c3] 35)).cell? ⟨go, 1, none⟩ = some (.slice A3 n2 c3) := by rw [← hgo]; exact cell_new w2 _ _ 1
    have yf : ∀ q, (w2.alloc (.cells #[.slice A' n c', .slice A3 n2 c3] 35)).frozen? ⟨go, q, none⟩ = false := fun q => by
      rw [← hgo]
      unfold World.frozen?
      rw [heap_alloc_new]
      simp
    have ys : go < (w2.alloc (.cells #[.slice A' n c', .slice A3 n2 c3] 35)).heap.size := by rw [← hgo]; simp
    have hb3 := hb.ext (Ext.alloc w2 (.cells #[.slice A' n c', .slice A3 n2 c3] 35))
    have hown3 := hown.ext (at_rep B go) (Ext.alloc w2 (.cells #[.slice A' n c', .slice A3 n2 c3] 35))
    have hbr : ∀ g, rowOf A' c' = some g → wb.heap.size ≤ g ∧ g < go := fun g hg => by have := hb.own.row_ge g hg; omega
    have hor : ∀ g, rowOf A3 c3 = some g → B ≤ g ∧ g < go := fun g hg => by have := hown.row_lt g hg; omega
    go_wp2_with fail
    refine (event_Span 3 so sn Ae ne ce l s _ (hsl.ext g0) hs).mono ?_
    rintro e w5 ⟨rfl, h5⟩
    rw [HSO.out, HSN.out]
    replace s0 := h5.cell s0
    replace s1 := h5.cell s1
    replace v0 := h5.cell v0
    replace v1 := h5.cell v1
    replace v2 := h5.cell v2
    replace v3 := h5.cell v3
    replace v4 := h5.cell v4
    replace z0 := h5.cell z0
    replace z1 := h5.cell z1
    replace g0 := g0.trans h5
    replace y0 := h5.cell y0
    replace y1 := h5.cell y1
    go_wp2_with fail
    refine (model_find (hst.ext g0) HF).mono ?_
    rintro e w6 ⟨rfl, h6⟩
    replace s0 := h6.cell s0
    replace s1 := h6.cell s1
    replace v0 := h6.cell v0
    replace v1 := h6.cell v1
    replace v2 := h6.cell v2
    replace v3 := h6.cell v3
    replace v4 := h6.cell v4
    replace z0 := h6.cell z0
    replace z1 := h6.cell z1
    replace g0 := g0.trans h6
    replace y0 := h6.cell y0
    replace y1 := h6.cell y1
    have h36 := h5.trans h6
    replace yf : ∀ q, w6.frozen? ⟨go, q, none⟩ = false := fun q => frozen_ext h36 ys (yf q)
    replace zf : ∀ q, w6.frozen? ⟨w.heap.size + 2, q, none⟩ = false := fun q => frozen_ext h36 (by simp; omega) (zfn q)
    replace ys := Nat.lt_of_lt_of_le ys h36.size
    have hb6 := hb3.ext h36
    have hown6 := hown3.ext (at_rep B go) h36
    have h16 := h12.trans h36
    have zf0 := zf 0
    have zf1 := zf 1
    have yf0 := yf 0
    have yf1 := yf 1
    clear hb3 hown3 hb hown h12 h36 h5 h6 zfn h2
    have hcap := hb6.sl.cap
    have hcutb := fun w' => run_cut w' A' n c' so (so + sn) (by omega) (by omega)
    obtain ⟨A8, hA8⟩ : ∃ A8, (if c' = so then A' else A'.map (·.add (so * 1))) = A8 := ⟨_, rfl⟩
    have hA9 : A8 = A'.map (·.add so) := by rw [← hA8, if_neg (by omega)]; simp
    rw [hA8, show so + sn - so = sn by omega, show ((so + sn : Nat) : Int) = (so : Int) + (sn : Int) by omega] at hcutb
    have HA9 := Lib.hid hA9
    clear hA8 hA9
    go_wp2_with (
      refine wpList_clear_byt (w0 := wb) rfl (.tmp 49) 22 rfl U8 under_bytes i8 hi8 hy0 A' n c' st.d so A8 sn (c' - so) rfl hb6 (by omega) (fun _ => HA9.out) h16 ?_
      intro w7 hb7 h17 hs7 hk7
      have hbt : But w6.heap.size (fun k => rowOf A' c' = some k) w6 w7 := but_of_ext h16 h17 hs7 hk7
      have hlow : ∀ b, b < w.heap.size + 3 → ¬ rowOf A' c' = some b := fun b hb e => by have := (hbr b e).1; omega
      have hgn : ¬ rowOf A' c' = some go := fun e => by have := (hbr go e).2; omega
      replace s0 := hbt.cell s0 (by simp only; omega) (hlow _ (by simp only; omega))
      replace s1 := hbt.cell s1 (by simp only; omega) (hlow _ (by simp only; omega))
      replace v0 := hbt.cell v0 (by simp only; omega) (hlow _ (by simp only; omega))
      replace v1 := hbt.cell v1 (by simp only; omega) (hlow _ (by simp only; omega))
      replace v2 := hbt.cell v2 (by simp only; omega) (hlow _ (by simp only; omega))
      replace v3 := hbt.cell v3 (by simp only; omega) (hlow _ (by simp only; omega))
      replace v4 := hbt.cell v4 (by simp only; omega) (hlow _ (by simp only; omega))
      replace z0 := hbt.cell z0 (by simp only; omega) (hlow _ (by simp only; omega))
      replace z1 := hbt.cell z1 (by simp only; omega) (hlow _ (by simp only; omega))
      replace y0 := hbt.cell y0 ys hgn
      replace y1 := hbt.cell y1 ys hgn
      have zg0 := frozen_but hbt (by simp only; omega) (by simp only; omega) (hlow _ (by simp only; omega)) zf0
      have zg1 := frozen_but hbt (by simp only; omega) (by simp only; omega) (hlow _ (by simp only; omega)) zf1
      have hbF := hb7
      have hoF := hown6.keepBut (at_rep B go) hbt (Nat.le_refl _) (fun g hg e => by have := (hor g hg).1; have := hrow g e; omega) (fun x cs hr k hk e => by have := (hr.2 k hk).1; have := hrow k e; omega)
      have gF := g0.but hbt g0.size (fun g e => by have := (hbr g e).1; omega)
      )
    refine bodyPost_ret (v := .tuple #[stV A' n c' A3 n2 c3, .int .i64 0]) ?hres rfl ⟨_, _, _, _, _, _, rfl, ⟨?hD, ?hN, ?hA⟩, ?hxx⟩
    case hres => simp [results, Try.results50, go_sem, z0, z1]
    case hD =>
      have hfar : ∀ g, rowOf A' c' = some g → g ≠ w.heap.size + 2 := fun g hg => by have := (hbF.own.row_ge g hg).1; omega
      exact ((hbF.far hfar _).far hfar _).fsl.low (by omega)
    case hN =>
      have hfar : rowOf A3 c3 ≠ some (w.heap.size + 2) := fun e => by have := (hoF.row_lt _ e).1; omega
      have hpp : ∀ (w' : World) (x : Ol) (cs : List Value), atR B go x cs w' → ∀ k, Pts cs k → k ≠ w.heap.size + 2 := fun w' x cs hr k hk e => by have := (hr.2 k hk).1; omega
      exact ((hoF.setCell (at_rep B go) (p := ⟨w.heap.size + 2, 0, none⟩) _ hfar (hpp _)).setCell (at_rep B go) (p := ⟨w.heap.size + 2, 1, none⟩) _ hfar (hpp _)).lst.weak fun x cs h => ⟨h.1, fun k hk => by have := (h.2 k hk).1; omega⟩
    case hA => exact fun ad e h0 => by have := hoF.blockF h0 ad e; omega
    case hxx => exact (gF.sets (by simp; omega) _).sets (by simp; omega) _
  · obtain ⟨hm0, hm1⟩ : 0 ≤ m ∧ m ≤ 512 := by
      rcases right_cases hre with ⟨h, _⟩ | ⟨h, _⟩ | ⟨_, _, _, h1, h2, _⟩ | ⟨h, _⟩ | ⟨h, _⟩
      · omega
      · omega
      · exact ⟨h1, h2⟩
      · omega
      · omega
    obtain ⟨m, rfl⟩ := Int.eq_ofNat_of_zero_le hm0
    have hSv : S = ⟨sizedL st.d m, st.sn⟩ := by rw [← hS2]; simp [applyS]
    subst hSv
    clear hS2 hf hre hf0 hf1
    go_enter Try.func50, Try.ntmps50
    go_wp2_with fail
    refine (model_Check (hst.ext g0) (hsl.ext g0) hs hr).mono ?_
    rintro e wb ⟨rfl, h1⟩
    replace zf : ∀ q, wb.frozen? ⟨w.heap.size + 2, q, none⟩ = false := fun q => frozen_ext h1 (by rw [hWs]; simp) (zf q)
    have hw1 : w.heap.size + 3 ≤ wb.heap.size := by have := h1.size; omega
    replace s0 := h1.cell s0
    replace s1 := h1.cell s1
    replace v0 := h1.cell v0
    replace v1 := h1.cell v1
    replace v2 := h1.cell v2
    replace v3 := h1.cell v3
    replace v4 := h1.cell v4
    replace z0 := h1.cell z0
    replace z1 := h1.cell z1
    replace g0 := g0.trans h1
    clear hW h1
    go_wp2_with fail
    refine (model_own (hst.ext g0) hn hn2 hd).mono ?_
    rintro e w2 ⟨A', c', A3, c3, B, rfl, hb, hown, hrow, hBw, hB2, h2⟩
    have hw2 := h2.size
    replace hown := own_at (G := w2.heap.size) hown (Nat.le_refl _)
    have zfn : ∀ q, (w2.alloc (.cells #[.slice A' n c', .slice A3 n2 c3] 35)).frozen? ⟨w.heap.size + 2, q, none⟩ = false := fun q => frozen_ext (h2.trans (Ext.alloc _ _)) (by simp; omega) (zf q)
    obtain ⟨go, hgo⟩ : ∃ go, w2.heap.size = go := ⟨_, rfl⟩
    rw [hgo] at hown
    have h12 : Ext wb (w2.alloc (.cells #[.slice A' n c', .slice A3 n2 c3] 35)) := h2.trans (Ext.alloc _ _)
    replace s0 := h12.cell s0
    replace s1 := h12.cell s1
    replace v0 := h12.cell v0
    replace v1 := h12.cell v1
    replace v2 := h12.cell v2
    replace v3 := h12.cell v3
    replace v4 := h12.cell v4
    replace z0 := h12.cell z0
    replace z1 := h12.cell z1
    replace g0 := g0.trans h12
    have y0 : (w2.alloc (.cells #[.slice A' n c', .slice A3 n2 c3] 35)).cell? ⟨go, 0, none⟩ = some (.slice A' n c') := by rw [← hgo]; exact cell_new w2 _ _ 0
    have y1 : (w2.alloc (.cells #[.slice A' n c', .slice A3 n2 c3] 35)).cell? ⟨go, 1, none⟩ = some (.slice A3 n2 c3) := by rw [← hgo]; exact cell_new w2 _ _ 1
    have yf : ∀ q, (w2.alloc (.cells #[.slice A' n c', .slice A3 n2 c3] 35)).frozen? ⟨go, q, none⟩ = false := fun q => by
      rw [← hgo]
      unfold World.frozen?
      rw [heap_alloc_new]
      simp
    have ys : go < (w2.alloc (.cells #[.slice A' n c', .slice A3 n2 c3] 35)).heap.size := by rw [← hgo]; simp
    have hb3 := hb.ext (Ext.alloc w2 (.cells #[.slice A' n c', .slice A3 n2 c3] 35))
    have hown3 := hown.ext (at_rep B go) (Ext.alloc w2 (.cells #[.slice A' n c', .slice A3 n2 c3] 35))
    have hbr : ∀ g, rowOf A' c' = some g → wb.heap.size ≤ g ∧ g < go := fun g hg => by have := hb.own.row_ge g hg; omega
    have hor : ∀ g, rowOf A3 c3 = some g → B ≤ g ∧ g < go := fun g hg => by have := hown.row_lt g hg; omega
    go_wp2_with fail
    refine (event_Span 4 o m Ae ne ce l s _ (hsl.ext g0) hs).mono ?_
    rintro e w5 ⟨rfl, h5⟩
    rw [HSO.out, HSN.out]
    replace s0 := h5.cell s0
    replace s1 := h5.cell s1
    replace v0 := h5.cell v0
    replace v1 := h5.cell v1
    replace v2 := h5.cell v2
    replace v3 := h5.cell v3
    replace v4 := h5.cell v4
    replace z0 := h5.cell z0
    replace z1 := h5.cell z1
    replace g0 := g0.trans h5
    replace y0 := h5.cell y0
    replace y1 := h5.cell y1
    go_wp2_with fail
    refine (model_find (hst.ext g0) HF).mono ?_
    rintro e w6 ⟨rfl, h6⟩
    replace s0 := h6.cell s0
    replace s1 := h6.cell s1
    replace v0 := h6.cell v0
    replace v1 := h6.cell v1
    replace v2 := h6.cell v2
    replace v3 := h6.cell v3
    replace v4 := h6.cell v4
    replace z0 := h6.cell z0
    replace z1 := h6.cell z1
    replace g0 := g0.trans h6
    replace y0 := h6.cell y0
    replace y1 := h6.cell y1
    have h36 := h5.trans h6
    replace yf : ∀ q, w6.frozen? ⟨go, q, none⟩ = false := fun q => frozen_ext h36 ys (yf q)
    replace zf : ∀ q, w6.frozen? ⟨w.heap.size + 2, q, none⟩ = false := fun q => frozen_ext h36 (by simp; omega) (zfn q)
    replace ys := Nat.lt_of_lt_of_le ys h36.size
    have hb6 := hb3.ext h36
    have hown6 := hown3.ext (at_rep B go) h36
    have h16 := h12.trans h36
    have zf0 := zf 0
    have zf1 := zf 1
    have yf0 := yf 0
    have yf1 := yf 1
    clear hb3 hown3 hb hown h12 h36 h5 h6 zfn h2
    go_wp2_with fail
    refine (model_sized (k := m) hb6.sl (by omega) (by omega)).mono ?_
    rintro e w7 ⟨A7, c7, rfl, hb7, h7⟩
    replace s0 := h7.cell s0
    replace s1 := h7.cell s1
    replace v0 := h7.cell v0
    replace v1 := h7.cell v1
    replace v2 := h7.cell v2
    replace v3 := h7.cell v3
    replace v4 := h7.cell v4
    replace z0 := h7.cell z0
    replace z1 := h7.cell z1
    replace g0 := g0.trans h7
    replace y0 := h7.cell y0
    replace y1 := h7.cell y1
    have yg0 := frozen_ext h7 ys yf0
    have zg0 := frozen_ext h7 (by simp; omega) zf0
    have zg1 := frozen_ext h7 (by simp; omega) zf1
    have hown7 := hown6.ext (at_rep B go) h7
    have h67 := h7.size
    clear yf0 yf1 zf0 zf1 yf zf
    go_wp2_with fail
    have hgF : ∀ g, rowOf A7 c7 = some g → g ≠ go := fun g hg => by have := (hb7.own.row_ge g hg).1; omega
    have hbF := (hb7.far (p := ⟨go, 0, none⟩) hgF (.slice A7 m c7)).low (B' := wb.heap.size) h16.size
    have hoF := hown7.setCell (at_rep B go) (p := ⟨go, 0, none⟩) (.slice A7 m c7) (fun e => by have := (hor _ e).2; simp only at this; omega) (fun x cs hr k hk => (hr.2 k hk).2)
    have hgo1 : wb.heap.size ≤ go := by omega
    have gF := g0.sets (p := ⟨go, 0, none⟩) (by simp only; omega) (.slice A7 m c7)
    refine bodyPost_ret (v := .tuple #[stV A7 m c7 A3 n2 c3, .int .i64 0]) ?hres rfl ⟨_, _, _, _, _, _, rfl, ⟨?hD, ?hN, ?hA⟩, ?hxx⟩
    case hres => simp [results, Try.results50, go_sem, z0, z1]
    case hD =>
      have hfar : ∀ g, rowOf A7 c7 = some g → g ≠ w.heap.size + 2 := fun g hg => by have := (hbF.own.row_ge g hg).1; omega
      exact ((hbF.far hfar _).far hfar _).fsl.low (by omega)
    case hN =>
      have hfar : rowOf A3 c3 ≠ some (w.heap.size + 2) := fun e => by have := (hoF.row_lt _ e).1; omega
      have hpp : ∀ (w' : World) (x : Ol) (cs : List Value), atR B go x cs w' → ∀ k, Pts cs k → k ≠ w.heap.size + 2 := fun w' x cs hr k hk e => by have := (hr.2 k hk).1; omega
      exact ((hoF.setCell (at_rep B go) (p := ⟨w.heap.size + 2, 0, none⟩) _ hfar (hpp _)).setCell (at_rep B go) (p := ⟨w.heap.size + 2, 1, none⟩) _ hfar (hpp _)).lst.weak fun x cs h => ⟨h.1, fun k hk => by have := (h.2 k hk).1; omega⟩
    case hA => exact fun ad e h0 => by have := hoF.blockF h0 ad e; omega
    case hxx => exact (gF.sets (by simp; omega) _).sets (by simp; omega) _
  · have hSv : S = ⟨st.d, st.sn ++ [⟨s, st.d⟩]⟩ := by rw [← hS2]; simp [applyS]
    subst hSv
    obtain ⟨i0, hi0, hz0, hz1, hz2⟩ := info_parts info_ol
    clear hS2 hf hf0 hf1 hre
    go_enter Try.func50, Try.ntmps50
    go_wp2_with fail
    refine (model_Check (hst.ext g0) (hsl.ext g0) hs hr).mono ?_
    rintro e wb ⟨rfl, h1⟩
    replace zf : ∀ q, wb.frozen? ⟨w.heap.size + 2, q, none⟩ = false := fun q => frozen_ext h1 (by rw [hWs]; simp) (zf q)
    have hw1 : w.heap.size + 3 ≤ wb.heap.size := by have := h1.size; omega
    replace s0 := h1.cell s0
    replace s1 := h1.cell s1
    replace v0 := h1.cell v0
    replace v1 := h1.cell v1
    replace v2 := h1.cell v2
    replace v3 := h1.cell v3
    replace v4 := h1.cell v4
    replace z0 := h1.cell z0
    replace z1 := h1.cell z1
    replace g0 := g0.trans h1
    clear hW h1
    go_wp2_with fail
    refine (model_own (hst.ext g0) hn hn2 hd).mono ?_
    rintro e w2 ⟨A', c', A3, c3, B, rfl, hb, hown, hrow, hBw, hB2, h2⟩
    have hw2 := h2.size
    replace hown := own_at (G := w2.heap.size) hown (Nat.le_refl _)
    have zfn : ∀ q, (w2.alloc (.cells #[.slice A' n c', .slice A3 n2 c3] 35)).frozen? ⟨w.heap.size + 2, q, none⟩ = false := fun q => frozen_ext (h2.trans (Ext.alloc _ _)) (by simp; omega) (zf q)
    obtain ⟨go, hgo⟩ : ∃ go, w2.heap.size = go := ⟨_, rfl⟩
    rw [hgo] at hown
    have h12 : Ext wb (w2.alloc (.cells #[.slice A' n c', .slice A3 n2 c3] 35)) := h2.trans (Ext.alloc _ _)
    replace s0 := h12.cell s0
    replace s1 := h12.cell s1
    replace v0 := h12.cell v0
    replace v1 := h12.cell v1
    replace v2 := h12.cell v2
    replace v3 := h12.cell v3
    replace v4 := h12.cell v4
    replace z0 := h12.cell z0
    replace z1 := h12.cell z1
    replace g0 := g0.trans h12
    have y0 : (w2.alloc (.cells #[.slice A' n c', .slice A3 n2 c3] 35)).cell? ⟨go, 0, none⟩ = some (.slice A' n c') := by rw [← hgo]; exact cell_new w2 _ _ 0
    have y1 : (w2.alloc (.cells #[.slice A' n c', .slice A3 n2 c3] 35)).cell? ⟨go, 1, none⟩ = some (.slice A3 n2 c3) := by rw [← hgo]; exact cell_new w2 _ _ 1
    have yf : ∀ q, (w2.alloc (.cells #[.slice A' n c', .slice A3 n2 c3] 35)).frozen? ⟨go, q, none⟩ = false := fun q => by
      rw [← hgo]
      unfold World.frozen?
      rw [heap_alloc_new]
      simp
    have ys : go < (w2.alloc (.cells #[.slice A' n c', .slice A3 n2 c3] 35)).heap.size := by rw [← hgo]; simp
    have hb3 := hb.ext (Ext.alloc w2 (.cells #[.slice A' n c', .slice A3 n2 c3] 35))
    have hown3 := hown.ext (at_rep B go) (Ext.alloc w2 (.cells #[.slice A' n c', .slice A3 n2 c3] 35))
    have hbr : ∀ g, rowOf A' c' = some g → wb.heap.size ≤ g ∧ g < go := fun g hg => by have := hb.own.row_ge g hg; omega
    have hor : ∀ g, rowOf A3 c3 = some g → B ≤ g ∧ g < go := fun g hg => by have := hown.row_lt g hg; omega
    go_wp2_with fail
    refine (event_Span 5 o m Ae ne ce l s _ (hsl.ext g0) hs).mono ?_
    rintro e w5 ⟨rfl, h5⟩
    rw [HSO.out, HSN.out]
    replace s0 := h5.cell s0
    replace s1 := h5.cell s1
    replace v0 := h5.cell v0
    replace v1 := h5.cell v1
    replace v2 := h5.cell v2
    replace v3 := h5.cell v3
    replace v4 := h5.cell v4
    replace z0 := h5.cell z0
    replace z1 := h5.cell z1
    replace g0 := g0.trans h5
    replace y0 := h5.cell y0
    replace y1 := h5.cell y1
    go_wp2_with fail
    refine (model_find (hst.ext g0) HF).mono ?_
    rintro e w6 ⟨rfl, h6⟩
    replace s0 := h6.cell s0
    replace s1 := h6.cell s1
    replace v0 := h6.cell v0
    replace v1 := h6.cell v1
    replace v2 := h6.cell v2
    replace v3 := h6.cell v3
    replace v4 := h6.cell v4
    replace z0 := h6.cell z0
    replace z1 := h6.cell z1
    replace g0 := g0.trans h6
    replace y0 := h6.cell y0
    replace y1 := h6.cell y1
    have h36 := h5.trans h6
    replace yf : ∀ q, w6.frozen? ⟨go, q, none⟩ = false := fun q => frozen_ext h36 ys (yf q)
    replace zf : ∀ q, w6.frozen? ⟨w.heap.size + 2, q, none⟩ = false := fun q => frozen_ext h36 (by simp; omega) (zfn q)
    replace ys := Nat.lt_of_lt_of_le ys h36.size
    have hb6 := hb3.ext h36
    have hown6 := hown3.ext (at_rep B go) h36
    have h16 := h12.trans h36
    have zf0 := zf 0
    have zf1 := zf 1
    have yf0 := yf 0
    have yf1 := yf 1
    clear hb3 hown3 hb hown h12 h36 h5 h6 zfn h2
    have hB6 : B ≤ w6.heap.size := by omega
    have hgn : ∀ g, rowOf A3 c3 = some g → g < w6.heap.size := fun g hg => by have := (hor g hg).2; omega
    have hgr : rowOf A3 c3 ≠ some go := fun e => by have := (hor go e).2; omega
    go_wp2_with fail
    refine wp_region_typed2 (R := But w6.heap.size (fun k => k = go ∨ rowOf A3 c3 = some k)) Ext.steady (But.steady _ _) (fun _ _ => But.of_ext) rfl 91 rfl [0, 1, 0, 4, 0, 16, 48, 124, 252, 511, 1023, 2047] 2560 (by kernel_rfl) ?_
    -- 0: Op.fieldAddr 35 t7 1
    apply Stage2.step (Is _) true [] true false (Is.keeps _) (fun _ => Is.keeps _) (by kernel_rfl)
    · intro w1 h1
      have h1 : Ext _ w1 := h1
      simp only [List.nil_append, List.cons_append, List.map_cons, List.map_nil, Given]
      go_wp2_with fail
      exact Post.isv (Ext.refl _) rfl rfl rfl
    -- 1: Op.load 33 t60
    apply Stage2.step (Is _) true [true] true false (Is.keeps _) (fun _ => Is.keeps _) (by kernel_rfl)
    · intro w1 h1
      have h1 : Ext _ w1 := h1
      simp only [List.nil_append, List.cons_append, List.map_cons, List.map_nil, Sp.pr, Given]
      rintro _ rfl
      have hq := h1.cell y1
      go_wp2_with fail
      exact Post.isv (Ext.refl _) rfl rfl rfl
    -- 2: Op.fieldAddr 28 t3 4
    apply Stage2.step (Is _) true [] true false (Is.keeps _) (fun _ => Is.keeps _) (by kernel_rfl)
    · intro w1 h1
      have h1 : Ext _ w1 := h1
      simp only [List.nil_append, List.cons_append, List.map_cons, List.map_nil, Given]
      go_wp2_with fail
      exact Post.isv (Ext.refl _) rfl rfl rfl
    -- 3: Op.load 9 t62
    apply Stage2.step (Is _) true [false, false, true] true false (Is.keeps _) (fun _ => Is.keeps _) (by kernel_rfl)
    · intro w1 h1
      have h1 : Ext _ w1 := h1
      simp only [List.nil_append, List.cons_append, List.map_cons, List.map_nil, Sp.pr, Given]
      rintro _ rfl
      have hq := h1.cell v4
      go_wp2_with fail
      exact Post.isv (Ext.refl _) rfl rfl rfl
    -- 4: Op.fieldAddr 35 t7 0
    apply Stage2.step (Is _) true [] true false (Is.keeps _) (fun _ => Is.keeps _) (by kernel_rfl)
    · intro w1 h1
      have h1 : Ext _ w1 := h1
      simp only [List.nil_append, List.cons_append, List.map_cons, List.map_nil, Given]
      go_wp2_with fail
      exact Post.isv (Ext.refl _) rfl rfl rfl
    -- 5: Op.load 22 t64
    apply Stage2.step (Is _) true [false, false, false, false, true] true false (Is.keeps _) (fun _ => Is.keeps _) (by kernel_rfl)
    · intro w1 h1
      have h1 : Ext _ w1 := h1
      simp only [List.nil_append, List.cons_append, List.map_cons, List.map_nil, Sp.pr, Given]
      rintro _ rfl
      have hq := h1.cell y0
      go_wp2_with fail
      exact Post.isv (Ext.refl _) rfl rfl rfl
    -- 6: Op.call { value (Operand.func 75), args := #[t65], argTypes := #[22] }
    apply Stage2.step (OCl w6.heap.size n st.d) false [false, false, false, false, false, true] true false (OCl.keeps _ _ _) (no_keeps) (by kernel_rfl)
    · intro w1 h1
      have h1 : Ext _ w1 := h1
      simp only [List.nil_append, List.cons_append, List.map_cons, List.map_nil, Sp.pr, Given]
      rintro _ rfl
      go_wp2_with fail
      refine (slices_Clone A' n c' st.d _ (hb6.sl.ext h1) (by omega)).mono ?_
      rintro e w7 ⟨A7, c7, rfl, h7, hx7⟩
      go_wp2_with fail
      exact ⟨rfl, rfl, hx7, _, _, rfl, h7.fsl.low h1.size⟩
    -- 7: Op.build 42 #[(0, t63), (1, t66)]
    apply Stage2.step (OBl w6.heap.size s n st.d) false [false, false, false, true, false, false, true] true false (OBl.keeps _ _ _ _) (no_keeps) (by kernel_rfl)
    · intro w1 h1
      have h1 : Ext _ w1 := h1
      simp only [List.nil_append, List.cons_append, List.map_cons, List.map_nil, Sp.pr, Given]
      rintro _ rfl
      rintro _ ⟨A6, c6, rfl, h6⟩
      go_wp2_with fail
      exact ⟨rfl, rfl, Ext.refl _, _, _, rfl, h6⟩
    -- 8: Op.buildSlice 33 1 #[(0, t67)]
    apply Stage2.step (OLi w6.heap.size ⟨s, st.d⟩) false [false, false, false, false, false, false, false, true] true false (OLi.keeps _ _) (no_keeps) (by kernel_rfl)
    · intro w1 h1
      have h1 : Ext _ w1 := h1
      simp only [List.nil_append, List.cons_append, List.map_cons, List.map_nil, Sp.pr, Given]
      rintro _ ⟨A7, c7, rfl, h7⟩
      go_wp2_with fail
      exact ⟨rfl, rfl, Ext.alloc _ _, _, rfl, ol_lit h7 hs⟩
    -- 9: Op.call { builtin append, args := #[t61, t68], argTypes := #[33, 33] }
    apply Stage2.step (OAq B go (n2 + 1) (.slice A' n c') (.slice A3 n2 c3) (st.sn ++ [⟨s, st.d⟩])) false [false, true, false, false, false, false, false, false, true] true true (OAq.keeps _ _ _ _ _ _) (no_keeps) (by kernel_rfl)
    · intro w1 h1
      have h1 : Ext _ w1 := h1
      simp only [List.nil_append, List.cons_append, List.map_cons, List.map_nil, Sp.pr, Given]
      rintro _ rfl
      rintro _ ⟨A8, rfl, h8⟩
      have hfd := feed_at (P := Try.prog) (tx := 33) (B := B) (G := go) (hown6.ext (at_rep B go) h1) hgn (by omega) ys h8 under_ols
      have u0 := h1.cell y0
      have u1 := h1.cell y1
      have uf : ∀ q, w1.frozen? ⟨go, q, none⟩ = false := fun q => frozen_ext h1 ys (yf q)
      have us : go < w1.heap.size := Nat.lt_of_lt_of_le ys h1.size
      have hB1 : B ≤ w1.heap.size := by have := h1.size; omega
      go_wp2_with (
        at_builtin
        refine wpList_append_lst4 (B := B) (at_rep B go) rfl _ _ _ _ rfl TOl i0 _ 40 under_ols hi0 hz0 hz1 hz2 rfl A3 n2 c3 _ rfl (hown6.ext (at_rep B go) h1) _ 1 [⟨s, st.d⟩] rfl hfd (n2 + 1) rfl _ rfl (by simp only [maxLen]; omega) (by omega) hB1 ?_
        intro A9 c9 w9 hb9 hg9 hr9)
      exact ⟨rfl, rfl, But.grown (But.refl _ _ _) hg9 (fun g hg => .inl (.inr hg)), _, _, rfl, hb9, (by rcases hr9 with e | e <;> rw [e]; exact hgr; intro e2; injection e2 with e2; omega), cell_grown hg9 u0 hgr, cell_grown hg9 u1 hgr, (fun q => by
        have hbk : w9.heap[go]? = w1.heap[go]? := hg9.block go us (fun e => hgr e.symm)
        have := uf q
        unfold World.frozen? at this ⊢
        rw [hbk]
        exact this), Nat.lt_of_lt_of_le us hg9.size⟩
    -- 10: Op.fieldAddr 35 t7 1
    apply Stage2.step (Is _) true [] false false (Is.keeps _) (fun _ => Is.keeps _) (by kernel_rfl)
    · intro w1 h1
      have h1 : (But w6.heap.size (fun k => k = go ∨ rowOf A3 c3 = some k)) _ w1 := h1
      simp only [List.nil_append, List.cons_append, List.map_cons, List.map_nil, Given]
      go_wp2_with fail
      exact Post.isv (Ext.refl _) rfl rfl rfl
    -- 11: Op.store 33 t70 t69
    apply Stage2.step (OEq B go (n2 + 1) (.slice A' n c') (st.sn ++ [⟨s, st.d⟩])) false [false, false, false, false, false, false, false, false, false, true, true] false true (OEq.keeps _ _ _ _ _) (no_keeps) (by kernel_rfl)
    · intro w1 h1
      have h1 : (But w6.heap.size (fun k => k = go ∨ rowOf A3 c3 = some k)) _ w1 := h1
      simp only [List.nil_append, List.cons_append, List.map_cons, List.map_nil, Sp.pr, Given]
      rintro _ ⟨A9, c9, rfl, h9, hr9, q0, q1, qf, qs⟩
      rintro _ rfl
      have f1 := qf 1
      go_wp2_with fail
      refine ⟨rfl, rfl, (show But w6.heap.size (fun k => k = go ∨ rowOf A3 c3 = some k) w1 _ from But.setCell (p := ⟨go, 1, none⟩) (But.refl _ _ w1) (.inl (.inl rfl)) (.slice A9 (n2 + 1) c9)), A9, c9, h9.setCell (at_rep B go) _ hr9 (fun x cs hr k hk => (hr.2 k hk).2), ?_, ?_⟩
      · rw [World.cell?_setCell_other _ _ _ _ (fun e => by injection e with e1 e2; omega)]; exact q0
      · exact World.cell?_setCell_same _ _ _ q1
    apply Stage2.nil [true, true, true, true, true, true, false, false, false, false, true, true] (by kernel_rfl)
    intro w1 h1
    have h1 : (But w6.heap.size (fun k => k = go ∨ rowOf A3 c3 = some k)) _ w1 := h1
    simp only [List.nil_append, List.cons_append, List.map_cons, List.map_nil, Sp.pr]
    refine Fin2.is_ ?_
    refine Fin2.is_ ?_
    refine Fin2.is_ ?_
    refine Fin2.is_ ?_
    refine Fin2.is_ ?_
    refine Fin2.is_ ?_
    refine Fin2.dead_ ?_
    intro dead6
    refine Fin2.dead_ ?_
    intro dead7
    refine Fin2.dead_ ?_
    intro dead8
    refine Fin2.dead_ ?_
    intro dead9
    refine Fin2.is_ ?_
    refine Fin2.step_ ?_
    rintro _ ⟨A12, c12, h12, x0, x1⟩
    refine Fin2.nil_ ?_
    go_simp
    have hbt := h1
    have hlow : ∀ b, b < w.heap.size + 3 → ¬ (b = go ∨ rowOf A3 c3 = some b) := fun b hb e => by
      rcases e with e | e
      · omega
      · have := (hor b e).1; omega
    have hs7 := hbt.size
    replace z0 := hbt.cell z0 (by simp only; omega) (hlow _ (by simp only; omega))
    replace z1 := hbt.cell z1 (by simp only; omega) (hlow _ (by simp only; omega))
    have zg0 := frozen_but hbt (by simp only; omega) (by simp only; omega) (hlow _ (by simp only; omega)) zf0
    have zg1 := frozen_but hbt (by simp only; omega) (by simp only; omega) (hlow _ (by simp only; omega)) zf1
    have hbF : Byt U8 w1 wb.heap.size A' n c' st.d := ⟨hb6.len, hb6.own.but hbt fun g hg => ⟨(hb6.own.row_ge g hg).2, fun e => by
      rcases e with e | e
      · have := (hbr g hg).2; omega
      · have := (hor g e).1; have := hrow g hg; omega⟩⟩
    have hoF := h12
    have gF := g0.but hbt g0.size (fun g e => by
      rcases e with e | e
      · omega
      · have := (hor g e).1; omega)
    go_wp2_with fail
    refine bodyPost_ret (v := .tuple #[stV A' n c' A12 (n2 + 1) c12, .int .i64 0]) ?hres rfl ⟨_, _, _, _, _, _, rfl, ⟨?hD, ?hN, ?hA⟩, ?hxx⟩
    case hres => simp [results, Try.results50, go_sem, z0, z1]
    case hD =>
      have hfar : ∀ g, rowOf A' c' = some g → g ≠ w.heap.size + 2 := fun g hg => by have := (hbF.own.row_ge g hg).1; omega
      exact ((hbF.far hfar _).far hfar _).fsl.low (by omega)
    case hN =>
      have hfar : rowOf A12 c12 ≠ some (w.heap.size + 2) := fun e => by have := (hoF.row_lt _ e).1; omega
      have hpp : ∀ (w' : World) (x : Ol) (cs : List Value), atR B go x cs w' → ∀ k, Pts cs k → k ≠ w.heap.size + 2 := fun w' x cs hr k hk e => by have := (hr.2 k hk).1; omega
      exact ((hoF.setCell (at_rep B go) (p := ⟨w.heap.size + 2, 0, none⟩) _ hfar (hpp _)).setCell (at_rep B go) (p := ⟨w.heap.size + 2, 1, none⟩) _ hfar (hpp _)).lst.weak fun x cs h => ⟨h.1, fun k hk => by have := (h.2 k hk).1; omega⟩
    case hA => exact fun ad e h0 => by have := hoF.blockF h0 ad e; omega
    case hxx => exact (gF.sets (by simp; omega) _).sets (by simp; omega) _
  · have hck := hr.out
    rw [check_gone hre (.inl rfl)] at hck
    have hnf : ¬ findI st.sn s < 0 := fun h => by rw [if_pos h] at hck; cases hck
    obtain ⟨p, hp1, hp2⟩ := find_at hnf
    have hpn : p < n2 := by omega
    have hSv : S = ⟨st.d, st.sn.take p ++ st.sn.drop (p + 1)⟩ := by rw [← hS2]; simp [applyS, findN, hp1]
    subst hSv
    obtain rfl : f = (p : Int) := by rw [← hf, hp1]
    clear hS2 hf hre hck hnf hp1 hp2 hf0 hf1
    go_enter Try.func50, Try.ntmps50
    go_wp2_with fail
    refine (model_Check (hst.ext g0) (hsl.ext g0) hs hr).mono ?_
    rintro e wb ⟨rfl, h1⟩
    replace zf : ∀ q, wb.frozen? ⟨w.heap.size + 2, q, none⟩ = false := fun q => frozen_ext h1 (by rw [hWs]; simp) (zf q)
    have hw1 : w.heap.size + 3 ≤ wb.heap.size := by have := h1.size; omega
    replace s0 := h1.cell s0
    replace s1 := h1.cell s1
    replace v0 := h1.cell v0
    replace v1 := h1.cell v1
    replace v2 := h1.cell v2
    replace v3 := h1.cell v3
    replace v4 := h1.cell v4
    replace z0 := h1.cell z0
    replace z1 := h1.cell z1
    replace g0 := g0.trans h1
    clear hW h1
    go_wp2_with fail
    refine (model_own (hst.ext g0) hn hn2 hd).mono ?_
    rintro e w2 ⟨A', c', A3, c3, B, rfl, hb, hown, hrow, hBw, hB2, h2⟩
    have hw2 := h2.size
    replace hown := own_at (G := w2.heap.size) hown (Nat.le_refl _)
    have zfn : ∀ q, (w2.alloc (.cells #[.slice A' n c', .slice A3 n2 c3] 35)).frozen? ⟨w.heap.size + 2, q, none⟩ = false := fun q => frozen_ext (h2.trans (Ext.alloc _ _)) (by simp; omega) (zf q)
    obtain ⟨go, hgo⟩ : ∃ go, w2.heap.size = go := ⟨_, rfl⟩
    rw [hgo] at hown
    have h12 : Ext wb (w2.alloc (.cells #[.slice A' n c', .slice A3 n2 c3] 35)) := h2.trans (Ext.alloc _ _)
    replace s0 := h12.cell s0
    replace s1 := h12.cell s1
    replace v0 := h12.cell v0
    replace v1 := h12.cell v1
    replace v2 := h12.cell v2
    replace v3 := h12.cell v3
    replace v4 := h12.cell v4
    replace z0 := h12.cell z0
    replace z1 := h12.cell z1
    replace g0 := g0.trans h12
    have y0 : (w2.alloc (.cells #[.slice A' n c', .slice A3 n2 c3] 35)).cell? ⟨go, 0, none⟩ = some (.slice A' n c') := by rw [← hgo]; exact cell_new w2 _ _ 0
    have y1 : (w2.alloc (.cells #[.slice A' n c', .slice A3 n2 c3] 35)).cell? ⟨go, 1, none⟩ = some (.slice A3 n2 c3) := by rw [← hgo]; exact cell_new w2 _ _ 1
    have yf : ∀ q, (w2.alloc (.cells #[.slice A' n c', .slice A3 n2 c3] 35)).frozen? ⟨go, q, none⟩ = false := fun q => by
      rw [← hgo]
      unfold World.frozen?
      rw [heap_alloc_new]
      simp
    have ys : go < (w2.alloc (.cells #[.slice A' n c', .slice A3 n2 c3] 35)).heap.size := by rw [← hgo]; simp
    have hb3 := hb.ext (Ext.alloc w2 (.cells #[.slice A' n c', .slice A3 n2 c3] 35))
    have hown3 := hown.ext (at_rep B go) (Ext.alloc w2 (.cells #[.slice A' n c', .slice A3 n2 c3] 35))
    have hbr : ∀ g, rowOf A' c' = some g → wb.heap.size ≤ g ∧ g < go := fun g hg => by have := hb.own.row_ge g hg; omega
    have hor : ∀ g, rowOf A3 c3 = some g → B ≤ g ∧ g < go := fun g hg => by have := hown.row_lt g hg; omega
    go_wp2_with fail
    refine (event_Span 6 o m Ae ne ce l s _ (hsl.ext g0) hs).mono ?_
    rintro e w5 ⟨rfl, h5⟩
    rw [HSO.out, HSN.out]
    replace s0 := h5.cell s0
    replace s1 := h5.cell s1
    replace v0 := h5.cell v0
    replace v1 := h5.cell v1
    replace v2 := h5.cell v2
    replace v3 := h5.cell v3
    replace v4 := h5.cell v4
    replace z0 := h5.cell z0
    replace z1 := h5.cell z1
    replace g0 := g0.trans h5
    replace y0 := h5.cell y0
    replace y1 := h5.cell y1
    go_wp2_with fail
    refine (model_find (hst.ext g0) HF).mono ?_
    rintro e w6 ⟨rfl, h6⟩
    replace s0 := h6.cell s0
    replace s1 := h6.cell s1
    replace v0 := h6.cell v0
    replace v1 := h6.cell v1
    replace v2 := h6.cell v2
    replace v3 := h6.cell v3
    replace v4 := h6.cell v4
    replace z0 := h6.cell z0
    replace z1 := h6.cell z1
    replace g0 := g0.trans h6
    replace y0 := h6.cell y0
    replace y1 := h6.cell y1
    have h36 := h5.trans h6
    replace yf : ∀ q, w6.frozen? ⟨go, q, none⟩ = false := fun q => frozen_ext h36 ys (yf q)
    replace zf : ∀ q, w6.frozen? ⟨w.heap.size + 2, q, none⟩ = false := fun q => frozen_ext h36 (by simp; omega) (zfn q)
    replace ys := Nat.lt_of_lt_of_le ys h36.size
    have hb6 := hb3.ext h36
    have hown6 := hown3.ext (at_rep B go) h36
    have h16 := h12.trans h36
    have zf0 := zf 0
    have zf1 := zf 1
    have yf0 := yf 0
    have yf1 := yf 1
    clear hb3 hown3 hb hown h12 h36 h5 h6 zfn h2
    go_wp2_with fail
    refine (delete_olds (at_rep B go) hown6 hpn (by omega)).mono ?_
    rintro e w7 ⟨rfl, hown7, hbt⟩
    have hlow : ∀ b, b < w.heap.size + 3 → ¬ rowOf A3 c3 = some b := fun b hb e => by have := (hor b e).1; omega
    have hgn : ¬ rowOf A3 c3 = some go := fun e => by have := (hor go e).2; omega
    have hs7 := hbt.size
    replace s0 := hbt.cell s0 (by simp only; omega) (hlow _ (by simp only; omega))
    replace s1 := hbt.cell s1 (by simp only; omega) (hlow _ (by simp only; omega))
    replace v0 := hbt.cell v0 (by simp only; omega) (hlow _ (by simp only; omega))
    replace v1 := hbt.cell v1 (by simp only; omega) (hlow _ (by simp only; omega))
    replace v2 := hbt.cell v2 (by simp only; omega) (hlow _ (by simp only; omega))
    replace v3 := hbt.cell v3 (by simp only; omega) (hlow _ (by simp only; omega))
    replace v4 := hbt.cell v4 (by simp only; omega) (hlow _ (by simp only; omega))
    replace z0 := hbt.cell z0 (by simp only; omega) (hlow _ (by simp only; omega))
    replace z1 := hbt.cell z1 (by simp only; omega) (hlow _ (by simp only; omega))
    replace y0 := hbt.cell y0 ys hgn
    replace y1 := hbt.cell y1 ys hgn
    have yg1 := frozen_but hbt ys ys hgn yf1
    have zg0 := frozen_but hbt (by simp only; omega) (by simp only; omega) (hlow _ (by simp only; omega)) zf0
    have zg1 := frozen_but hbt (by simp only; omega) (by simp only; omega) (hlow _ (by simp only; omega)) zf1
    have hbF : Byt U8 w7 wb.heap.size A' n c' st.d := ⟨hb6.len, hb6.own.but hbt fun g hg => ⟨(hb6.own.row_ge g hg).2, fun e => by have := (hor g e).1; have := hrow g hg; omega⟩⟩
    have g7 : Ext w w7 := g0.but hbt g0.size (fun g e => by have := (hor g e).1; omega)
    clear yf0 yf1 zf0 zf1 yf zf
    go_wp2_with fail
    have hgF : ∀ g, rowOf A' c' = some g → g ≠ go := fun g hg => by have := (hbr g hg).2; omega
    replace hbF := hbF.far (p := ⟨go, 1, none⟩) hgF (.slice A3 (n2 - 1) c3)
    have hoF := hown7.setCell (at_rep B go) (p := ⟨go, 1, none⟩) (.slice A3 (n2 - 1) c3) hgn (fun x cs hr k hk => (hr.2 k hk).2)
    have hgo1 : wb.heap.size ≤ go := by omega
    have gF := g7.sets (p := ⟨go, 1, none⟩) (by simp only; omega) (.slice A3 (n2 - 1) c3)
    refine bodyPost_ret (v := .tuple #[stV A' n c' A3 (n2 - 1) c3, .int .i64 0]) ?hres rfl ⟨_, _, _, _, _, _, rfl, ⟨?hD, ?hN, ?hA⟩, ?hxx⟩
    case hres => simp [results, Try.results50, go_sem, z0, z1]
    case hD =>
      have hfar : ∀ g, rowOf A' c' = some g → g ≠ w.heap.size + 2 := fun g hg => by have := (hbF.own.row_ge g hg).1; omega
      exact ((hbF.far hfar _).far hfar _).fsl.low (by omega)
    case hN =>
      have hfar : rowOf A3 c3 ≠ some (w.heap.size + 2) := fun e => by have := (hoF.row_lt _ e).1; omega
      have hpp : ∀ (w' : World) (x : Ol) (cs : List Value), atR B go x cs w' → ∀ k, Pts cs k → k ≠ w.heap.size + 2 := fun w' x cs hr k hk e => by have := (hr.2 k hk).1; omega
      exact ((hoF.setCell (at_rep B go) (p := ⟨w.heap.size + 2, 0, none⟩) _ hfar (hpp _)).setCell (at_rep B go) (p := ⟨w.heap.size + 2, 1, none⟩) _ hfar (hpp _)).lst.weak fun x cs h => ⟨h.1, fun k hk => by have := (h.2 k hk).1; omega⟩
    case hA => exact fun ad e h0 => by have := hoF.blockF h0 ad e; omega
    case hxx => exact (gF.sets (by simp; omega) _).sets (by simp; omega) _
  · have hck := hr.out
    rw [check_gone hre (.inr rfl)] at hck
    have hnf : ¬ findI st.sn s < 0 := fun h => by rw [if_pos h] at hck; cases hck
    obtain ⟨p, hp1, hp2⟩ := find_at hnf
    have hpn : p < n2 := by omega
    have hSv : S = ⟨(st.sn.getD p ⟨s, []⟩).d, st.sn⟩ := by rw [← hS2]; simp [applyS, findN, hp1]
    obtain ⟨D, hD⟩ : ∃ D, (st.sn.getD p ⟨s, []⟩).d = D := ⟨_, rfl⟩
    rw [hD] at hSv
    have HD := Lib.hid hD
    clear hD
    subst hSv
    obtain rfl : f = (p : Int) := by rw [← hf, hp1]
    clear hS2 hf hre hck hnf hp1 hp2 hf0 hf1
    go_enter Try.func50, Try.ntmps50
    go_wp2_with fail
    refine (model_Check (hst.ext g0) (hsl.ext g0) hs hr).mono ?_
    rintro e wb ⟨rfl, h1⟩
    replace zf : ∀ q, wb.frozen? ⟨w.heap.size + 2, q, none⟩ = false := fun q => frozen_ext h1 (by rw [hWs]; simp) (zf q)
    have hw1 : w.heap.size + 3 ≤ wb.heap.size := by have := h1.size; omega
    replace s0 := h1.cell s0
    replace s1 := h1.cell s1
    replace v0 := h1.cell v0
    replace v1 := h1.cell v1
    replace v2 := h1.cell v2
    replace v3 := h1.cell v3
    replace v4 := h1.cell v4
    replace z0 := h1.cell z0
    replace z1 := h1.cell z1
    replace g0 := g0.trans h1
    clear hW h1
    go_wp2_with fail
    refine (model_own (hst.ext g0) hn hn2 hd).mono ?_
    rintro e w2 ⟨A', c', A3, c3, B, rfl, hb, hown, hrow, hBw, hB2, h2⟩
    have hw2 := h2.size
    replace hown := own_at (G := w2.heap.size) hown (Nat.le_refl _)
    have zfn : ∀ q, (w2.alloc (.cells #[.slice A' n c', .slice A3 n2 c3] 35)).frozen? ⟨w.heap.size + 2, q, none⟩ = false := fun q => frozen_ext (h2.trans (Ext.alloc _ _)) (by simp; omega) (zf q)
    obtain ⟨go, hgo⟩ : ∃ go, w2.heap.size = go := ⟨_, rfl⟩
    rw [hgo] at hown
    have h12 : Ext wb (w2.alloc (.cells #[.slice A' n c', .slice A3 n2 c3] 35)) := h2.trans (Ext.alloc _ _)
    replace s0 := h12.cell s0
    replace s1 := h12.cell s1
    replace v0 := h12.cell v0
    replace v1 := h12.cell v1
    replace v2 := h12.cell v2
    replace v3 := h12.cell v3
    replace v4 := h12.cell v4
    replace z0 := h12.cell z0
    replace z1 := h12.cell z1
    replace g0 := g0.trans h12
    have y0 : (w2.alloc (.cells #[.slice A' n c', .slice A3 n2 c3] 35)).cell? ⟨go, 0, none⟩ = some (.slice A' n c') := by rw [← hgo]; exact cell_new w2 _ _ 0
    have y1 : (w2.alloc (.cells #[.slice A' n c', .slice A3 n2 c3] 35)).cell? ⟨go, 1, none⟩ = some (.slice A3 n2 c3) := by rw [← hgo]; exact cell_new w2 _ _ 1
    have yf : ∀ q, (w2.alloc (.cells #[.slice A' n c', .slice A3 n2 c3] 35)).frozen? ⟨go, q, none⟩ = false := fun q => by
      rw [← hgo]
      unfold World.frozen?
      rw [heap_alloc_new]
      simp
    have ys : go < (w2.alloc (.cells #[.slice A' n c', .slice A3 n2 c3] 35)).heap.size := by rw [← hgo]; simp
    have hb3 := hb.ext (Ext.alloc w2 (.cells #[.slice A' n c', .slice A3 n2 c3] 35))
    have hown3 := hown.ext (at_rep B go) (Ext.alloc w2 (.cells #[.slice A' n c', .slice A3 n2 c3] 35))
    have hbr : ∀ g, rowOf A' c' = some g → wb.heap.size ≤ g ∧ g < go := fun g hg => by have := hb.own.row_ge g hg; omega
    have hor : ∀ g, rowOf A3 c3 = some g → B ≤ g ∧ g < go := fun g hg => by have := hown.row_lt g hg; omega
    go_wp2_with fail
    refine (event_Span 7 o m Ae ne ce l s _ (hsl.ext g0) hs).mono ?_
    rintro e w5 ⟨rfl, h5⟩
    rw [HSO.out, HSN.out]
    replace s0 := h5.cell s0
    replace s1 := h5.cell s1
    replace v0 := h5.cell v0
    replace v1 := h5.cell v1
    replace v2 := h5.cell v2
    replace v3 := h5.cell v3
    replace v4 := h5.cell v4
    replace z0 := h5.cell z0
    replace z1 := h5.cell z1
    replace g0 := g0.trans h5
    replace y0 := h5.cell y0
    replace y1 := h5.cell y1
    go_wp2_with fail
    refine (model_find (hst.ext g0) HF).mono ?_
    rintro e w6 ⟨rfl, h6⟩
    replace s0 := h6.cell s0
    replace s1 := h6.cell s1
    replace v0 := h6.cell v0
    replace v1 := h6.cell v1
    replace v2 := h6.cell v2
    replace v3 := h6.cell v3
    replace v4 := h6.cell v4
    replace z0 := h6.cell z0
    replace z1 := h6.cell z1
    replace g0 := g0.trans h6
    replace y0 := h6.cell y0
    replace y1 := h6.cell y1
    have h36 := h5.trans h6
    replace yf : ∀ q, w6.frozen? ⟨go, q, none⟩ = false := fun q => frozen_ext h36 ys (yf q)
    replace zf : ∀ q, w6.frozen? ⟨w.heap.size + 2, q, none⟩ = false := fun q => frozen_ext h36 (by simp; omega) (zfn q)
    replace ys := Nat.lt_of_lt_of_le ys h36.size
    have hb6 := hb3.ext h36
    have hown6 := hown3.ext (at_rep B go) h36
    have h16 := h12.trans h36
    have zf0 := zf 0
    have zf1 := zf 1
    have yf0 := yf 0
    have yf1 := yf 1
    clear hb3 hown3 hb hown h12 h36 h5 h6 zfn h2
    obtain ⟨ga, oa, x, cs, hA3, hx, ⟨⟨Aa, na, ca, rfl, sa, hs1⟩, hxr⟩, ha⟩ := hown6.lst.at2 (i := p) (at_rep B go) (by omega) hpn
    have hxd : x.d = D := by rw [← HD.out, List.getD_eq_getElem?_getD, hx]; rfl
    have hna : na ≤ 1000 := by have := hd x (List.mem_of_getElem? hx); rw [sa.len] at this; exact this
    rw [hxd] at sa
    subst hA3
    have a1 := ha 1 _ rfl
    go_wp2_with fail
    refine (slices_Clone Aa na ca D _ sa (by omega)).mono ?_
    rintro e w7 ⟨A7, c7, rfl, hb7, h7⟩
    replace s0 := h7.cell s0
    replace s1 := h7.cell s1
    replace v0 := h7.cell v0
    replace v1 := h7.cell v1
    replace v2 := h7.cell v2
    replace v3 := h7.cell v3
    replace v4 := h7.cell v4
    replace z0 := h7.cell z0
    replace z1 := h7.cell z1
    replace g0 := g0.trans h7
    replace y0 := h7.cell y0
    replace y1 := h7.cell y1
    have yg0 := frozen_ext h7 ys yf0
    have zg0 := frozen_ext h7 (by simp; omega) zf0
    have zg1 := frozen_ext h7 (by simp; omega) zf1
    have hown7 := hown6.ext (at_rep B go) h7
    have h67 := h7.size
    clear yf0 yf1 zf0 zf1 yf zf ha a1
    go_wp2_with fail
    have hgF : ∀ g, rowOf A7 c7 = some g → g ≠ go := fun g hg => by have := (hb7.own.row_ge g hg).1; omega
    have hbF := (hb7.far (p := ⟨go, 0, none⟩) hgF (.slice A7 na c7)).low (B' := wb.heap.size) h16.size
    have hoF := hown7.setCell (at_rep B go) (p := ⟨go, 0, none⟩) (.slice A7 na c7) (fun e => by have := (hor _ e).2; simp only at this; omega) (fun x cs hr k hk => (hr.2 k hk).2)
    have hgo1 : wb.heap.size ≤ go := by omega
    have gF := g0.sets (p := ⟨go, 0, none⟩) (by simp only; omega) (.slice A7 na c7)
    refine bodyPost_ret (v := .tuple #[stV A7 na c7 (some ⟨ga, oa, none⟩) n2 c3, .int .i64 0]) ?hres rfl ⟨_, _, _, _, _, _, rfl, ⟨?hD, ?hN, ?hA⟩, ?hxx⟩
    case hres => simp [results, Try.results50, go_sem, z0, z1]
    case hD =>
      have hfar : ∀ g, rowOf A7 c7 = some g → g ≠ w.heap.size + 2 := fun g hg => by have := (hbF.own.row_ge g hg).1; omega
      exact ((hbF.far hfar _).far hfar _).fsl.low (by omega)
    case hN =>
      have hfar : rowOf (some ⟨ga, oa, none⟩) c3 ≠ some (w.heap.size + 2) := fun e => by have := (hoF.row_lt _ e).1; omega
      have hpp : ∀ (w' : World) (x : Ol) (cs : List Value), atR B go x cs w' → ∀ k, Pts cs k → k ≠ w.heap.size + 2 := fun w' x cs hr k hk e => by have := (hr.2 k hk).1; omega
      exact ((hoF.setCell (at_rep B go) (p := ⟨w.heap.size + 2, 0, none⟩) _ hfar (hpp _)).setCell (at_rep B go) (p := ⟨w.heap.size + 2, 1, none⟩) _ hfar (hpp _)).lst.weak fun x cs h => ⟨h.1, fun k hk => by have := (h.2 k hk).1; omega⟩
    case hA => exact fun ad e h0 => by have := hoF.blockF h0 ad e; omega
    case hxx => exact (gF.sets (by simp; omega) _).sets (by simp; omega) _
  · have hSv : S = st := by rw [← hS2]; simp [applyS]
    subst hSv
    clear hS2 hf hre hf0 hf1
    go_enter Try.func50, Try.ntmps50
    go_wp2_with fail
    refine (model_Check (hst.ext g0) (hsl.ext g0) hs hr).mono ?_
    rintro e wb ⟨rfl, h1⟩
    replace zf : ∀ q, wb.frozen? ⟨w.heap.size + 2, q, none⟩ = false := fun q => frozen_ext h1 (by rw [hWs]; simp) (zf q)
    have hw1 : w.heap.size + 3 ≤ wb.heap.size := by have := h1.size; omega
    replace s0 := h1.cell s0
    replace s1 := h1.cell s1
    replace v0 := h1.cell v0
    replace v1 := h1.cell v1
    replace v2 := h1.cell v2
    replace v3 := h1.cell v3
    replace v4 := h1.cell v4
    replace z0 := h1.cell z0
    replace z1 := h1.cell z1
    replace g0 := g0.trans h1
    clear hW h1
    go_wp2_with fail
    refine (model_own (hst.ext g0) hn hn2 hd).mono ?_
    rintro e w2 ⟨A', c', A3, c3, B, rfl, hb, hown, hrow, hBw, hB2, h2⟩
    have hw2 := h2.size
    replace hown := own_at (G := w2.heap.size) hown (Nat.le_refl _)
    have zfn : ∀ q, (w2.alloc (.cells #[.slice A' n c', .slice A3 n2 c3] 35)).frozen? ⟨w.heap.size + 2, q, none⟩ = false := fun q => frozen_ext (h2.trans (Ext.alloc _ _)) (by simp; omega) (zf q)
    obtain ⟨go, hgo⟩ : ∃ go, w2.heap.size = go := ⟨_, rfl⟩
    rw [hgo] at hown
    have h12 : Ext wb (w2.alloc (.cells #[.slice A' n c', .slice A3 n2 c3] 35)) := h2.trans (Ext.alloc _ _)
    replace s0 := h12.cell s0
    replace s1 := h12.cell s1
    replace v0 := h12.cell v0
    replace v1 := h12.cell v1
    replace v2 := h12.cell v2
    replace v3 := h12.cell v3
    replace v4 := h12.cell v4
    replace z0 := h12.cell z0
    replace z1 := h12.cell z1
    replace g0 := g0.trans h12
    have y0 : (w2.alloc (.cells #[.slice A' n c', .slice A3 n2 c3] 35)).cell? ⟨go, 0, none⟩ = some (.slice A' n c') := by rw [← hgo]; exact cell_new w2 _ _ 0
    have y1 : (w2.alloc (.cells #[.slice A' n c', .slice A3 n2 c3] 35)).cell? ⟨go, 1, none⟩ = some (.slice A3 n2 c3) := by rw [← hgo]; exact cell_new w2 _ _ 1
    have yf : ∀ q, (w2.alloc (.cells #[.slice A' n c', .slice A3 n2 c3] 35)).frozen? ⟨go, q, none⟩ = false := fun q => by
      rw [← hgo]
      unfold World.frozen?
      rw [heap_alloc_new]
      simp
    have ys : go < (w2.alloc (.cells #[.slice A' n c', .slice A3 n2 c3] 35)).heap.size := by rw [← hgo]; simp
    have hb3 := hb.ext (Ext.alloc w2 (.cells #[.slice A' n c', .slice A3 n2 c3] 35))
    have hown3 := hown.ext (at_rep B go) (Ext.alloc w2 (.cells #[.slice A' n c', .slice A3 n2 c3] 35))
    have hbr : ∀ g, rowOf A' c' = some g → wb.heap.size ≤ g ∧ g < go := fun g hg => by have := hb.own.row_ge g hg; omega
    have hor : ∀ g, rowOf A3 c3 = some g → B ≤ g ∧ g < go := fun g hg => by have := hown.row_lt g hg; omega
    go_wp2_with fail
    refine (event_Span 8 o m Ae ne ce l s _ (hsl.ext g0) hs).mono ?_
    rintro e w5 ⟨rfl, h5⟩
    rw [HSO.out, HSN.out]
    replace s0 := h5.cell s0
    replace s1 := h5.cell s1
    replace v0 := h5.cell v0
    replace v1 := h5.cell v1
    replace v2 := h5.cell v2
    replace v3 := h5.cell v3
    replace v4 := h5.cell v4
    replace z0 := h5.cell z0
    replace z1 := h5.cell z1
    replace g0 := g0.trans h5
    replace y0 := h5.cell y0
    replace y1 := h5.cell y1
    go_wp2_with fail
    refine (model_find (hst.ext g0) HF).mono ?_
    rintro e w6 ⟨rfl, h6⟩
    replace s0 := h6.cell s0
    replace s1 := h6.cell s1
    replace v0 := h6.cell v0
    replace v1 := h6.cell v1
    replace v2 := h6.cell v2
    replace v3 := h6.cell v3
    replace v4 := h6.cell v4
    replace z0 := h6.cell z0
    replace z1 := h6.cell z1
    replace g0 := g0.trans h6
    replace y0 := h6.cell y0
    replace y1 := h6.cell y1
    have h36 := h5.trans h6
    replace yf : ∀ q, w6.frozen? ⟨go, q, none⟩ = false := fun q => frozen_ext h36 ys (yf q)
    replace zf : ∀ q, w6.frozen? ⟨w.heap.size + 2, q, none⟩ = false := fun q => frozen_ext h36 (by simp; omega) (zfn q)
    replace ys := Nat.lt_of_lt_of_le ys h36.size
    have hb6 := hb3.ext h36
    have hown6 := hown3.ext (at_rep B go) h36
    have h16 := h12.trans h36
    have zf0 := zf 0
    have zf1 := zf 1
    have yf0 := yf 0
    have yf1 := yf 1
    clear hb3 hown3 hb hown h12 h36 h5 h6 zfn h2
    go_wp2_with fail
    have hbF := hb6
    have hoF := hown6
    have gF := g0
    refine bodyPost_ret (v := .tuple #[stV A' n c' A3 n2 c3, .int .i64 0]) ?hres rfl ⟨_, _, _, _, _, _, rfl, ⟨?hD, ?hN, ?hA⟩, ?hxx⟩
    case hres => simp [results, Try.results50, go_sem, z0, z1]
    case hD =>
      have hfar : ∀ g, rowOf A' c' = some g → g ≠ w.heap.size + 2 := fun g hg => by have := (hbF.own.row_ge g hg).1; omega
      exact ((hbF.far hfar _).far hfar _).fsl.low (by omega)
    case hN =>
      have hfar : rowOf A3 c3 ≠ some (w.heap.size + 2) := fun e => by have := (hoF.row_lt _ e).1; omega
      have hpp : ∀ (w' : World) (x : Ol) (cs : List Value), atR B go x cs w' → ∀ k, Pts cs k → k ≠ w.heap.size + 2 := fun w' x cs hr k hk e => by have := (hr.2 k hk).1; omega
      exact ((hoF.setCell (at_rep B go) (p := ⟨w.heap.size + 2, 0, none⟩) _ hfar (hpp _)).setCell (at_rep B go) (p := ⟨w.heap.size + 2, 1, none⟩) _ hfar (hpp _)).lst.weak fun x cs h => ⟨h.1, fun k hk => by have := (h.2 k hk).1; omega⟩
    case hA => exact fun ad e h0 => by have := hoF.blockF h0 ad e; omega
    case hxx => exact (gF.sets (by simp; omega) _).sets (by simp; omega) _
end Go.Proofs.Ytcklkjklepmabaa
