/-
  Messages out of bytes: contract of the reference's GetMsg.
-/
import Derived.Test.YtoeknbogaclfdaaZFromMsRest4ToMsRest
import Derived.Test.YtoeknbogaclfdaaZMsPutR
import Derived.Test.YtoeknbogaclfdaaZBoc
import Derived.Test.YtoeknbogaclfdaaZFromTagGetRefToMksGetR
import Derived.Test.YtoeknbogaclfdaaZFromMsgPlainToHd2
import Derived.Test.YtoeknbogaclfdaaZCore
import Derived.Deep.QuietTactic
import Derived.BigQuiet
import Derived.Test.YtoeknbogaclfdaaZFromMksPutToMsParse
import Derived.Test.YtoeknbogaclfdaaZFromSumToFrameRt
namespace Go.Proofs.Ytoeknbogaclfdaa
open Go.RowKit
set_option linter.unusedVariables false
set_option linter.unusedSimpArgs false
set_option linter.unnecessarySimpa false
set_option maxRecDepth 100000
theorem five {l : List Int} (h : l.length = 5) : ∃ x1 x2 x3 x4 x5, l = [x1, x2, x3, x4, x5] := by
  obtain _ | ⟨x1, _ | ⟨x2, _ | ⟨x3, _ | ⟨x4, _ | ⟨x5, _ | ⟨x6, l⟩⟩⟩⟩⟩⟩ := l <;> simp at h
  exact ⟨x1, x2, x3, x4, x5, rfl⟩
theorem parseM_rest {b : List UInt8} {x1 x2 x3 x4 x5 d : Int} (hl : ¬ b.length < 1) (h : numsF 5 b 1 = some ([x1, x2, x3, x4, x5], d)) : parseM true b = restM (kindOf b) x1 x2 x3 x4 x5 b d := by
  unfold parseM
  rw [if_neg hl, h, Option.bind_some]
  rfl
theorem parseM_short {rf : Bool} {b : List UInt8} (h : b.length < 1) : parseM rf b = none := by unfold parseM; rw [if_pos h]
theorem numsF5_bd {b : List UInt8} {x1 x2 x3 x4 x5 d : Int} (h : numsF 5 b 1 = some ([x1, x2, x3, x4, x5], d)) : 0 ≤ d ∧ d ≤ (b.length : Int) := by
  by_cases h0 : gvC b (atN b 1 0) = true
  · by_cases h1 : gvC b (atN b 1 1) = true
    · by_cases h2 : gvC b (atN b 1 2) = true
      · by_cases h3 : gvC b (atN b 1 3) = true
        · by_cases h4 : gvC b (atN b 1 4) = true
          · have h5 := nums5_yes h0 h1 h2 h3 h4
            rw [h] at h5
            injection h5 with h5
            injection h5 with h5 h6
            rw [h6]
            exact gvB_bd h4
          · rw [nums5_no (j := 4) (by omega) (by simpa using h4)] at h; cases h
        · rw [nums5_no (j := 3) (by omega) (by simpa using h3)] at h; cases h
      · rw [nums5_no (j := 2) (by omega) (by simpa using h2)] at h; cases h
    · rw [nums5_no (j := 1) (by omega) (by simpa using h1)] at h; cases h
  · rw [nums5_no (j := 0) (by omega) (by simpa using h0)] at h; cases h
structure Bzt (H : Nat) (S : Nat → Prop) (w w' : World) : Prop where
  lo : But H S w w'
  hi : ∀ k, k < w.heap.size → ¬ isZ w k → w'.heap[k]? = w.heap[k]?
  bz : ∀ k, isZ w k → isZ w' k
theorem isZ.lt {w : World} {k : Nat} (h : isZ w k) : k < w.heap.size := by
  obtain ⟨C, h1, _⟩ := h
  exact (Array.getElem?_eq_some_iff.1 h1).1
theorem Bzt.refl (H : Nat) (S : Nat → Prop) (w : World) : Bzt H S w w := ⟨But.refl H S w, fun _ _ _ => rfl, fun _ h => h⟩
theorem Bzt.trans {H : Nat} {S : Nat → Prop} {a b c : World} (h : Bzt H S a b) (k : Bzt H S b c) : Bzt H S a c :=
  ⟨h.lo.trans k.lo, fun q hq hn => by
    have e := h.hi q hq hn
    exact (k.hi q (Nat.lt_of_lt_of_le hq h.lo.size) (fun hz => hn (hz.same e.symm))).trans e, fun q hq => k.bz q (h.bz q hq)⟩
theorem Bzt.of_ext {H : Nat} {S : Nat → Prop} {a b : World} (h : Ext a b) : Bzt H S a b := ⟨But.of_ext h, fun k hk _ => Below.block h k hk, fun k hk => hk.same (Below.block h k hk.lt)⟩
theorem Bzt.steady (H : Nat) (S : Nat → Prop) : Steady (Bzt H S) := ⟨Bzt.refl H S, fun _ _ _ => Bzt.trans, fun w => Bzt.of_ext (Ext.drew w)⟩
theorem Hz.bzt {H B : Nat} {S : Nat → Prop} {P : World → Prop} {w w' : World} (h : Hz B P w) (hx : Bzt H S w w') : Hz B P w' :=
  fun u hu hs => h u (fun k hk hl hn => by
    have e := hx.hi k hl hn
    exact (hu k hk (Nat.lt_of_lt_of_le hl hx.lo.size) (fun hz => hn (hz.same e.symm))).trans e) (Nat.le_trans hx.lo.size hs)
def RestT (H : Nat) (om : Option Ms) : Ty := fun v u => ∃ m B1 Bn1 Bc1 B2 Bn2 Bc2 B3 Bn3 Bc3 B4 Bn4 Bc4, v = .tuple #[msV m B1 Bn1 Bc1 B2 Bn2 Bc2 B3 Bn3 Bc3 B4 Bn4 Bc4, .bool om.isSome] ∧ (∀ x, om = some x → m = x ∧ Hz H (fun u => MsR u m B1 Bn1 Bc1 B2 Bn2 Bc2 B3 Bn3 Bc3 B4 Bn4 Bc4) u)
theorem RestT.keeps (H : Nat) (om : Option Ms) : Keeps Ext (RestT H om) := fun _ _ _ hx ⟨m, B1, Bn1, Bc1, B2, Bn2, Bc2, B3, Bn3, Bc3, B4, Bn4, Bc4, e, h⟩ => ⟨m, B1, Bn1, Bc1, B2, Bn2, Bc2, B3, Bn3, Bc3, B4, Bn4, Bc4, e, fun x hx2 => ⟨(h x hx2).1, (h x hx2).2.ext hx⟩⟩
theorem RestT.keeps2 (H : Nat) (om : Option Ms) {H' : Nat} {S : Nat → Prop} : Keeps (Bzt H' S) (RestT H om) := fun _ _ _ hx ⟨m, B1, Bn1, Bc1, B2, Bn2, Bc2, B3, Bn3, Bc3, B4, Bn4, Bc4, e, h⟩ => ⟨m, B1, Bn1, Bc1, B2, Bn2, Bc2, B3, Bn3, Bc3, B4, Bn4, Bc4, e, fun x hx2 => ⟨(h x hx2).1, (h x hx2).2.bzt hx⟩⟩
def RestM (H : Nat) (om : Option Ms) : Ty := fun v u => ∃ m B1 Bn1 Bc1 B2 Bn2 Bc2 B3 Bn3 Bc3 B4 Bn4 Bc4, v = msV m B1 Bn1 Bc1 B2 Bn2 Bc2 B3 Bn3 Bc3 B4 Bn4 Bc4 ∧ (∀ x, om = some x → m = x ∧ Hz H (fun u => MsR u m B1 Bn1 Bc1 B2 Bn2 Bc2 B3 Bn3 Bc3 B4 Bn4 Bc4) u)
theorem RestM.keeps (H : Nat) (om : Option Ms) : Keeps Ext (RestM H om) := fun _ _ _ hx ⟨m, B1, Bn1, Bc1, B2, Bn2, Bc2, B3, Bn3, Bc3, B4, Bn4, Bc4, e, h⟩ => ⟨m, B1, Bn1, Bc1, B2, Bn2, Bc2, B3, Bn3, Bc3, B4, Bn4, Bc4, e, fun x hx2 => ⟨(h x hx2).1, (h x hx2).2.ext hx⟩⟩
def ZBox (H : Nat) : Ty := fun v u => ∃ g, v = .pointer (some ⟨g, 0, none⟩) ∧ H ≤ g ∧ isZ u g
theorem ZBox.keeps (H : Nat) : Keeps Ext (ZBox H) := fun _ _ _ hx ⟨g, e, h1, h2⟩ => ⟨g, e, h1, h2.same (Below.block hx g h2.lt)⟩
theorem ZBox.keeps2 (H : Nat) {H' : Nat} {S : Nat → Prop} : Keeps (Bzt H' S) (ZBox H) := fun _ _ _ hx ⟨g, e, h1, h2⟩ => ⟨g, e, h1, hx.bz g h2⟩
def MsBox (H : Nat) (om : Option Ms) (γ : Value) : Ty := fun v u => ∀ g, γ = .pointer (some ⟨g, 0, none⟩) → ∃ m B1 Bn1 Bc1 B2 Bn2 Bc2 B3 Bn3 Bc3 B4 Bn4 Bc4, u.heap[g]? = some (.cells (msC m B1 Bn1 Bc1 B2 Bn2 Bc2 B3 Bn3 Bc3 B4 Bn4 Bc4) TMs (0, 0)) ∧ ∀ x, om = some x → m = x ∧ Hz H (fun u => MsR u m B1 Bn1 Bc1 B2 Bn2 Bc2 B3 Bn3 Bc3 B4 Bn4 Bc4) u
theorem MsBox.keeps (H : Nat) (om : Option Ms) (γ : Value) : Keeps Ext (MsBox H om γ) := fun _ _ _ hx h g e => by
  obtain ⟨m, B1, Bn1, Bc1, B2, Bn2, Bc2, B3, Bn3, Bc3, B4, Bn4, Bc4, h1, h2⟩ := h g e
  exact ⟨m, B1, Bn1, Bc1, B2, Bn2, Bc2, B3, Bn3, Bc3, B4, Bn4, Bc4, blk_ext h1 hx, fun x hx2 => ⟨(h2 x hx2).1, (h2 x hx2).2.ext hx⟩⟩
theorem isZ_zero {w : World} {g : Nat} (h : w.heap[g]? = some (.cells zeroM TMs (0, 0))) : isZ w g := ⟨zeroM, h, rfl, zeroM_no⟩
theorem msC_no (m : Ms) (B1 : Option Addr) (Bn1 Bc1 : Nat) (B2 : Option Addr) (Bn2 Bc2 : Nat) (B3 : Option Addr) (Bn3 Bc3 : Nat) (B4 : Option Addr) (Bn4 Bc4 : Nat) (j : Nat) (x : Int) : (msC m B1 Bn1 Bc1 B2 Bn2 Bc2 B3 Bn3 Bc3 B4 Bn4 Bc4)[j]? ≠ some (.int .u8 x) := by
  rcases (show j = 0 ∨ j = 1 ∨ j = 2 ∨ j = 3 ∨ j = 4 ∨ j = 5 ∨ j = 6 ∨ j = 7 ∨ j = 8 ∨ j = 9 ∨ 10 ≤ j by omega) with rfl | rfl | rfl | rfl | rfl | rfl | rfl | rfl | rfl | rfl | h
  all_goals first | (intro e; injection e with e; cases e) | (rw [Array.getElem?_eq_none (by simpa using h)]; intro e; cases e)
theorem ten_arr {D : Array Value} (h : D.size = 10) : ∃ a b c d e f g i j k, D = #[a, b, c, d, e, f, g, i, j, k] := by
  obtain ⟨l⟩ := D
  obtain _ | ⟨a, _ | ⟨b, _ | ⟨c, _ | ⟨d, _ | ⟨e, _ | ⟨f, _ | ⟨g, _ | ⟨i, _ | ⟨j, _ | ⟨k, _ | ⟨q, l⟩⟩⟩⟩⟩⟩⟩⟩⟩⟩⟩ := l <;> simp at h
  exact ⟨a, b, c, d, e, f, g, i, j, k, rfl⟩
def set10 (w : World) (g : Nat) (v0 v1 v2 v3 v4 v5 v6 v7 v8 v9 : Value) : World := (((((((((w.setCell ⟨g, 0, none⟩ v0).setCell ⟨g, 1, none⟩ v1).setCell ⟨g, 2, none⟩ v2).setCell ⟨g, 3, none⟩ v3).setCell ⟨g, 4, none⟩ v4).setCell ⟨g, 5, none⟩ v5).setCell ⟨g, 6, none⟩ v6).setCell ⟨g, 7, none⟩ v7).setCell ⟨g, 8, none⟩ v8).setCell ⟨g, 9, none⟩ v9
theorem set10_at {w : World} {g : Nat} (h : isZ w g) (v0 v1 v2 v3 v4 v5 v6 v7 v8 v9 : Value) : (set10 w g v0 v1 v2 v3 v4 v5 v6 v7 v8 v9).heap[g]? = some (.cells #[v0, v1, v2, v3, v4, v5, v6, v7, v8, v9] TMs (0, 0)) := by
  obtain ⟨D, h, hD, _⟩ := h
  obtain ⟨a, b, c, d, e, f, g', i, j, k, rfl⟩ := ten_arr hD
  unfold set10
  have := blk_set (blk_set (blk_set (blk_set (blk_set (blk_set (blk_set (blk_set (blk_set (blk_set h 0 v0) 1 v1) 2 v2) 3 v3) 4 v4) 5 v5) 6 v6) 7 v7) 8 v8) 9 v9
  simpa using this
theorem set10_far {w : World} {g : Nat} (v0 v1 v2 v3 v4 v5 v6 v7 v8 v9 : Value) (k : Nat) (hk : k ≠ g) : (set10 w g v0 v1 v2 v3 v4 v5 v6 v7 v8 v9).heap[k]? = w.heap[k]? := by
  unfold set10
  have e : ∀ (u : World) (j : Nat) (v : Value), (u.setCell ⟨g, j, none⟩ v).heap[k]? = u.heap[k]? := fun u j v => Below.heap_setCell _ _ _ _ hk
  rw [e, e, e, e, e, e, e, e, e, e]
theorem set10_but {H : Nat} {S : Nat → Prop} {w : World} {g : Nat} (hg : H ≤ g) (v0 v1 v2 v3 v4 v5 v6 v7 v8 v9 : Value) : But H S w (set10 w g v0 v1 v2 v3 v4 v5 v6 v7 v8 v9) := by
  unfold set10
  exact (((((((((But.setCell (But.refl H S w) (p := ⟨g, 0, none⟩) (.inr hg) _).setCell (p := ⟨g, 1, none⟩) (.inr hg) _).setCell (p := ⟨g, 2, none⟩) (.inr hg) _).setCell (p := ⟨g, 3, none⟩) (.inr hg) _).setCell (p := ⟨g, 4, none⟩) (.inr hg) _).setCell (p := ⟨g, 5, none⟩) (.inr hg) _).setCell (p := ⟨g, 6, none⟩) (.inr hg) _).setCell (p := ⟨g, 7, none⟩) (.inr hg) _).setCell (p := ⟨g, 8, none⟩) (.inr hg) _).setCell (p := ⟨g, 9, none⟩) (.inr hg) _
theorem fill_box {H : Nat} {w : World} {g : Nat} (hg : H ≤ g) (hz : isZ w g) (m1 m2 m3 m4 m5 m6 : Int) (B1 : Option Addr) (Bn1 Bc1 : Nat) (B2 : Option Addr) (Bn2 Bc2 : Nat) (B3 : Option Addr) (Bn3 Bc3 : Nat) (B4 : Option Addr) (Bn4 Bc4 : Nat) :
    Bzt H (fun _ => False) w (set10 w g (.int .i64 m1) (.int .i64 m2) (.int .i64 m3) (.int .i64 m4) (.int .i64 m5) (.int .i64 m6) (.slice B1 Bn1 Bc1) (.slice B2 Bn2 Bc2) (.slice B3 Bn3 Bc3) (.slice B4 Bn4 Bc4)) := by
  have h1 := set10_at hz (.int .i64 m1) (.int .i64 m2) (.int .i64 m3) (.int .i64 m4) (.int .i64 m5) (.int .i64 m6) (.slice B1 Bn1 Bc1) (.slice B2 Bn2 Bc2) (.slice B3 Bn3 Bc3) (.slice B4 Bn4 Bc4)
  have h2 := fun k hk => set10_far (w := w) (g := g) (.int .i64 m1) (.int .i64 m2) (.int .i64 m3) (.int .i64 m4) (.int .i64 m5) (.int .i64 m6) (.slice B1 Bn1 Bc1) (.slice B2 Bn2 Bc2) (.slice B3 Bn3 Bc3) (.slice B4 Bn4 Bc4) k hk
  refine ⟨set10_but hg _ _ _ _ _ _ _ _ _ _, fun k _ hn => h2 k (fun e => hn (e ▸ hz)), fun k hk => ?_⟩
  by_cases e : k = g
  · subst e
    exact ⟨_, h1, rfl, msC_no ⟨m1, m2, m3, m4, m5, m6, [], [], [], []⟩ B1 Bn1 Bc1 B2 Bn2 Bc2 B3 Bn3 Bc3 B4 Bn4 Bc4⟩
  · exact hk.same (h2 k e)
set_option maxHeartbeats 8000000 in
theorem ref_GetMsg {A : Option Addr} {n c : Nat} {b : List UInt8} {w : World} (hb : Sl w A n c b) (hn6 : n ≤ 1000000) {o : Option Ms} (ho : Hid (getM true b = o)) {y : Int} (hy : Hid (whyO (crcOpen b) o.isSome = y)) :
    Calls Try.prog 37 #[.slice A n c] w fun e w' => ∃ B1 Bn1 Bc1 B2 Bn2 Bc2 B3 Bn3 Bc3 B4 Bn4 Bc4, e = .returned (.tuple #[msV (o.getD ms0) B1 Bn1 Bc1 B2 Bn2 Bc2 B3 Bn3 Bc3 B4 Bn4 Bc4, .int .i64 y]) ∧ MsR w' (o.getD ms0) B1 Bn1 Bc1 B2 Bn2 Bc2 B3 Bn3 Bc3 B4 Bn4 Bc4 ∧ Ext w w' := by
  have h63 := hb.n63
  obtain ⟨cb, hcb⟩ : ∃ q, crcOpen b = q := ⟨_, rfl⟩
  have HCB := Lib.hid hcb
  have hy1 := hy.out
  have ho1 := ho.out
  rw [hcb] at hy1
  clear hy ho
  obtain ⟨w1, hw1⟩ : ∃ q, q = (w.alloc (.cells #[.int .i64 0, .int .i64 0, .int .i64 0, .int .i64 0, .int .i64 0, .int .i64 0, .slice none 0 0, .slice none 0 0, .slice none 0 0, .slice none 0 0] TMs)).alloc (.cells #[.int .i64 0, .int .i64 0, .int .i64 0, .int .i64 0, .int .i64 0, .int .i64 0, .slice none 0 0, .slice none 0 0, .slice none 0 0, .slice none 0 0] TMs) := ⟨_, rfl⟩
  have gx1 : Ext w w1 := by rw [hw1]; exact (Ext.alloc _ _).allocs _
  have hsg1 : w.heap.size + 2 ≤ w1.heap.size := by rw [hw1]; simp
  have B1 : w1.heap[w.heap.size]? = some (.cells zeroM TMs (0, 0)) := by rw [hw1]; exact blk_ext (heap_alloc_new w _) (Ext.alloc _ _)
  have Z1 : w1.heap[w.heap.size + 1]? = some (.cells zeroM TMs (0, 0)) := by
    rw [hw1]
    have := heap_alloc_new (w.alloc (.cells zeroM TMs)) (.cells zeroM TMs)
    simpa using this
  cases cb with
  | none =>
    rw [getM_open hcb] at ho1
    subst ho1
    obtain rfl : 13 = y := hy1
    clear hcb
    go_enter Try.func37, Try.ntmps37
    go_upto_region 2 with fail
    rw [← hw1]
    clear hw1
    go_wp2_with fail
    refine (ref_Open_any A n c b _ (hb.ext gx1) (by omega) HCB).mono ?_
    rintro e w2 ⟨A2, n2, c2, rfl, h2, hx2⟩
    have B2 := blk_ext B1 hx2
    have Z2 := blk_ext Z1 hx2
    have gx2 := gx1.trans hx2
    have hsg2 := Nat.le_trans hsg1 hx2.size
    have k0 : w2.cell? ⟨w.heap.size, 0, none⟩ = some (.int .i64 0) := blk_cell B2 0
    have l0 := blk_frozen B2 0
    have z0 : w2.cell? ⟨w.heap.size + 1, 0, none⟩ = some (.int .i64 0) := blk_cell Z2 0
    have k1 : w2.cell? ⟨w.heap.size, 1, none⟩ = some (.int .i64 0) := blk_cell B2 1
    have l1 := blk_frozen B2 1
    have z1 : w2.cell? ⟨w.heap.size + 1, 1, none⟩ = some (.int .i64 0) := blk_cell Z2 1
    have k2 : w2.cell? ⟨w.heap.size, 2, none⟩ = some (.int .i64 0) := blk_cell B2 2
    have l2 := blk_frozen B2 2
    have z2 : w2.cell? ⟨w.heap.size + 1, 2, none⟩ = some (.int .i64 0) := blk_cell Z2 2
    have k3 : w2.cell? ⟨w.heap.size, 3, none⟩ = some (.int .i64 0) := blk_cell B2 3
    have l3 := blk_frozen B2 3
    have z3 : w2.cell? ⟨w.heap.size + 1, 3, none⟩ = some (.int .i64 0) := blk_cell Z2 3
    have k4 : w2.cell? ⟨w.heap.size, 4, none⟩ = some (.int .i64 0) := blk_cell B2 4
    have l4 := blk_frozen B2 4
    have z4 : w2.cell? ⟨w.heap.size + 1, 4, none⟩ = some (.int .i64 0) := blk_cell Z2 4
    have k5 : w2.cell? ⟨w.heap.size, 5, none⟩ = some (.int .i64 0) := blk_cell B2 5
    have l5 := blk_frozen B2 5
    have z5 : w2.cell? ⟨w.heap.size + 1, 5, none⟩ = some (.int .i64 0) := blk_cell Z2 5
    have k6 : w2.cell? ⟨w.heap.size, 6, none⟩ = some (.slice none 0 0) := blk_cell B2 6
    have l6 := blk_frozen B2 6
    have z6 : w2.cell? ⟨w.heap.size + 1, 6, none⟩ = some (.slice none 0 0) := blk_cell Z2 6
    have k7 : w2.cell? ⟨w.heap.size, 7, none⟩ = some (.slice none 0 0) := blk_cell B2 7
    have l7 := blk_frozen B2 7
    have z7 : w2.cell? ⟨w.heap.size + 1, 7, none⟩ = some (.slice none 0 0) := blk_cell Z2 7
    have k8 : w2.cell? ⟨w.heap.size, 8, none⟩ = some (.slice none 0 0) := blk_cell B2 8
    have l8 := blk_frozen B2 8
    have z8 : w2.cell? ⟨w.heap.size + 1, 8, none⟩ = some (.slice none 0 0) := blk_cell Z2 8
    have k9 : w2.cell? ⟨w.heap.size, 9, none⟩ = some (.slice none 0 0) := blk_cell B2 9
    have l9 := blk_frozen B2 9
    have z9 : w2.cell? ⟨w.heap.size + 1, 9, none⟩ = some (.slice none 0 0) := blk_cell Z2 9
    clear hx2 gx1 B1 Z1
    go_wp2_with fail
    refine bodyPost_ret (v := .tuple #[msV ms0 none 0 0 none 0 0 none 0 0 none 0 0, .int .i64 13]) ?hres rfl ⟨_, _, _, _, _, _, _, _, _, _, _, _, rfl, ?hm, ?hxx⟩
    case hres => simp [results, Try.results37, go_sem, ms0, k0, k1, k2, k3, k4, k5, k6, k7, k8, k9]
    case hm => exact MsR.nil _ _ _ _ _ _ _
    case hxx => (repeat (first | (with_reducible exact Ext.refl _) | (with_reducible assumption) | (with_reducible refine Ext.draws ?_) | (with_reducible refine Ext.allocs ?_ _) | (with_reducible refine Ext.sets ?_ ?_ _) | (with_reducible exact Nat.le_refl _) | (exact (by simp)) | (exact (by simp; omega))))
  | some cb =>
    have hcl : cb.length ≤ n := by
      unfold crcOpen at hcb
      split at hcb
      · injection hcb with hcb
        rw [← hcb, List.length_take, hb.len]
        omega
      · cases hcb
    by_cases hc0 : cb.length < 1
    · rw [getM_form hcb (parseM_short hc0)] at ho1
      subst ho1
      obtain rfl : 2 = y := hy1
      have hcl0 : cb.length = 0 := by omega
      have HCL0 := Lib.hid hcl0
      clear hcb hcl0 hc0
      go_enter Try.func37, Try.ntmps37
      go_upto_region 2 with fail
      rw [← hw1]
      clear hw1
      go_wp2_with fail
      refine (ref_Open_any A n c b _ (hb.ext gx1) (by omega) HCB).mono ?_
      rintro e w2 ⟨A2, n2, c2, rfl, h2, hx2⟩
      have B2 := blk_ext B1 hx2
      have Z2 := blk_ext Z1 hx2
      have gx2 := gx1.trans hx2
      have hsg2 := Nat.le_trans hsg1 hx2.size
      have k0 : w2.cell? ⟨w.heap.size, 0, none⟩ = some (.int .i64 0) := blk_cell B2 0
      have l0 := blk_frozen B2 0
      have z0 : w2.cell? ⟨w.heap.size + 1, 0, none⟩ = some (.int .i64 0) := blk_cell Z2 0
      have k1 : w2.cell? ⟨w.heap.size, 1, none⟩ = some (.int .i64 0) := blk_cell B2 1
      have l1 := blk_frozen B2 1
      have z1 : w2.cell? ⟨w.heap.size + 1, 1, none⟩ = some (.int .i64 0) := blk_cell Z2 1
      have k2 : w2.cell? ⟨w.heap.size, 2, none⟩ = some (.int .i64 0) := blk_cell B2 2
      have l2 := blk_frozen B2 2
      have z2 : w2.cell? ⟨w.heap.size + 1, 2, none⟩ = some (.int .i64 0) := blk_cell Z2 2
      have k3 : w2.cell? ⟨w.heap.size, 3, none⟩ = some (.int .i64 0) := blk_cell B2 3
      have l3 := blk_frozen B2 3
      have z3 : w2.cell? ⟨w.heap.size + 1, 3, none⟩ = some (.int .i64 0) := blk_cell Z2 3
      have k4 : w2.cell? ⟨w.heap.size, 4, none⟩ = some (.int .i64 0) := blk_cell B2 4
      have l4 := blk_frozen B2 4
      have z4 : w2.cell? ⟨w.heap.size + 1, 4, none⟩ = some (.int .i64 0) := blk_cell Z2 4
      have k5 : w2.cell? ⟨w.heap.size, 5, none⟩ = some (.int .i64 0) := blk_cell B2 5
      have l5 := blk_frozen B2 5
      have z5 : w2.cell? ⟨w.heap.size + 1, 5, none⟩ = some (.int .i64 0) := blk_cell Z2 5
      have k6 : w2.cell? ⟨w.heap.size, 6, none⟩ = some (.slice none 0 0) := blk_cell B2 6
      have l6 := blk_frozen B2 6
      have z6 : w2.cell? ⟨w.heap.size + 1, 6, none⟩ = some (.slice none 0 0) := blk_cell Z2 6
      have k7 : w2.cell? ⟨w.heap.size, 7, none⟩ = some (.slice none 0 0) := blk_cell B2 7
      have l7 := blk_frozen B2 7
      have z7 : w2.cell? ⟨w.heap.size + 1, 7, none⟩ = some (.slice none 0 0) := blk_cell Z2 7
      have k8 : w2.cell? ⟨w.heap.size, 8, none⟩ = some (.slice none 0 0) := blk_cell B2 8
      have l8 := blk_frozen B2 8
      have z8 : w2.cell? ⟨w.heap.size + 1, 8, none⟩ = some (.slice none 0 0) := blk_cell Z2 8
      have k9 : w2.cell? ⟨w.heap.size, 9, none⟩ = some (.slice none 0 0) := blk_cell B2 9
      have l9 := blk_frozen B2 9
      have z9 : w2.cell? ⟨w.heap.size + 1, 9, none⟩ = some (.slice none 0 0) := blk_cell Z2 9
      clear hx2 gx1 B1 Z1
      obtain rfl : n2 = 0 := by rw [← h2.len]; exact HCL0.out
      go_wp2_with fail
      refine bodyPost_ret (v := .tuple #[msV ms0 none 0 0 none 0 0 none 0 0 none 0 0, .int .i64 2]) ?hres rfl ⟨_, _, _, _, _, _, _, _, _, _, _, _, rfl, ?hm, ?hxx⟩
      case hres => simp [results, Try.results37, go_sem, ms0, k0, k1, k2, k3, k4, k5, k6, k7, k8, k9]
      case hm => exact MsR.nil _ _ _ _ _ _ _
      case hxx => (repeat (first | (with_reducible exact Ext.refl _) | (with_reducible assumption) | (with_reducible refine Ext.draws ?_) | (with_reducible refine Ext.allocs ?_ _) | (with_reducible refine Ext.sets ?_ ?_ _) | (with_reducible exact Nat.le_refl _) | (exact (by simp)) | (exact (by simp; omega))))
    obtain ⟨p, hp⟩ : ∃ q, numsF 5 cb 1 = q := ⟨_, rfl⟩
    have HP := Lib.hid hp
    cases p with
    | none =>
      rw [getM_form hcb (parseM_none hc0 hp)] at ho1
      subst ho1
      obtain rfl : 2 = y := hy1
      have HC1 : Hid (1 ≤ cb.length) := Nat.not_lt.1 hc0
      clear hcb hp hc0
      go_enter Try.func37, Try.ntmps37
      go_upto_region 2 with fail
      rw [← hw1]
      clear hw1
      go_wp2_with fail
      refine (ref_Open_any A n c b _ (hb.ext gx1) (by omega) HCB).mono ?_
      rintro e w2 ⟨A2, n2, c2, rfl, h2, hx2⟩
      have B2 := blk_ext B1 hx2
      have Z2 := blk_ext Z1 hx2
      have gx2 := gx1.trans hx2
      have hsg2 := Nat.le_trans hsg1 hx2.size
      have k0 : w2.cell? ⟨w.heap.size, 0, none⟩ = some (.int .i64 0) := blk_cell B2 0
      have l0 := blk_frozen B2 0
      have z0 : w2.cell? ⟨w.heap.size + 1, 0, none⟩ = some (.int .i64 0) := blk_cell Z2 0
      have k1 : w2.cell? ⟨w.heap.size, 1, none⟩ = some (.int .i64 0) := blk_cell B2 1
      have l1 := blk_frozen B2 1
      have z1 : w2.cell? ⟨w.heap.size + 1, 1, none⟩ = some (.int .i64 0) := blk_cell Z2 1
      have k2 : w2.cell? ⟨w.heap.size, 2, none⟩ = some (.int .i64 0) := blk_cell B2 2
      have l2 := blk_frozen B2 2
      have z2 : w2.cell? ⟨w.heap.size + 1, 2, none⟩ = some (.int .i64 0) := blk_cell Z2 2
      have k3 : w2.cell? ⟨w.heap.size, 3, none⟩ = some (.int .i64 0) := blk_cell B2 3
      have l3 := blk_frozen B2 3
      have z3 : w2.cell? ⟨w.heap.size + 1, 3, none⟩ = some (.int .i64 0) := blk_cell Z2 3
      have k4 : w2.cell? ⟨w.heap.size, 4, none⟩ = some (.int .i64 0) := blk_cell B2 4
      have l4 := blk_frozen B2 4
      have z4 : w2.cell? ⟨w.heap.size + 1, 4, none⟩ = some (.int .i64 0) := blk_cell Z2 4
      have k5 : w2.cell? ⟨w.heap.size, 5, none⟩ = some (.int .i64 0) := blk_cell B2 5
      have l5 := blk_frozen B2 5
      have z5 : w2.cell? ⟨w.heap.size + 1, 5, none⟩ = some (.int .i64 0) := blk_cell Z2 5
      have k6 : w2.cell? ⟨w.heap.size, 6, none⟩ = some (.slice none 0 0) := blk_cell B2 6
      have l6 := blk_frozen B2 6
      have z6 : w2.cell? ⟨w.heap.size + 1, 6, none⟩ = some (.slice none 0 0) := blk_cell Z2 6
      have k7 : w2.cell? ⟨w.heap.size, 7, none⟩ = some (.slice none 0 0) := blk_cell B2 7
      have l7 := blk_frozen B2 7
      have z7 : w2.cell? ⟨w.heap.size + 1, 7, none⟩ = some (.slice none 0 0) := blk_cell Z2 7
      have k8 : w2.cell? ⟨w.heap.size, 8, none⟩ = some (.slice none 0 0) := blk_cell B2 8
      have l8 := blk_frozen B2 8
      have z8 : w2.cell? ⟨w.heap.size + 1, 8, none⟩ = some (.slice none 0 0) := blk_cell Z2 8
      have k9 : w2.cell? ⟨w.heap.size, 9, none⟩ = some (.slice none 0 0) := blk_cell B2 9
      have l9 := blk_frozen B2 9
      have z9 : w2.cell? ⟨w.heap.size + 1, 9, none⟩ = some (.slice none 0 0) := blk_cell Z2 9
      clear hx2 gx1 B1 Z1
      have hn21 : 1 ≤ n2 := by rw [← h2.len]; exact HC1.out
      have d0 : ((n2 : Int) == 0) = false := by simp; omega
      have d0n : (n2 == 0) = false := by simp; omega
      go_wp2_with fail
      have hn2 : n2 ≤ 1000000 := by rw [← h2.len]; exact Nat.le_trans hcl hn6
      refine (ref_numbers (F := 5) h2.sl hn2 (by omega) HP).mono ?_
      rintro e w3 ⟨A3, n3, c3, rfl, h3, hx3⟩
      have B3 := blk_ext B2 hx3
      have Z3 := blk_ext Z2 hx3
      have gx3 := gx2.trans hx3
      have hsg3 := Nat.le_trans hsg2 hx3.size
      clear k0 k1 k2 k3 k4 k5 k6 k7 k8 k9 l0 l1 l2 l3 l4 l5 l6 l7 l8 l9 z0 z1 z2 z3 z4 z5 z6 z7 z8 z9
      have k0 : w3.cell? ⟨w.heap.size, 0, none⟩ = some (.int .i64 0) := blk_cell B3 0
      have l0 := blk_frozen B3 0
      have z0 : w3.cell? ⟨w.heap.size + 1, 0, none⟩ = some (.int .i64 0) := blk_cell Z3 0
      have k1 : w3.cell? ⟨w.heap.size, 1, none⟩ = some (.int .i64 0) := blk_cell B3 1
      have l1 := blk_frozen B3 1
      have z1 : w3.cell? ⟨w.heap.size + 1, 1, none⟩ = some (.int .i64 0) := blk_cell Z3 1
      have k2 : w3.cell? ⟨w.heap.size, 2, none⟩ = some (.int .i64 0) := blk_cell B3 2
      have l2 := blk_frozen B3 2
      have z2 : w3.cell? ⟨w.heap.size + 1, 2, none⟩ = some (.int .i64 0) := blk_cell Z3 2
      have k3 : w3.cell? ⟨w.heap.size, 3, none⟩ = some (.int .i64 0) := blk_cell B3 3
      have l3 := blk_frozen B3 3
      have z3 : w3.cell? ⟨w.heap.size + 1, 3, none⟩ = some (.int .i64 0) := blk_cell Z3 3
      have k4 : w3.cell? ⟨w.heap.size, 4, none⟩ = some (.int .i64 0) := blk_cell B3 4
      have l4 := blk_frozen B3 4
      have z4 : w3.cell? ⟨w.heap.size + 1, 4, none⟩ = some (.int .i64 0) := blk_cell Z3 4
      have k5 : w3.cell? ⟨w.heap.size, 5, none⟩ = some (.int .i64 0) := blk_cell B3 5
      have l5 := blk_frozen B3 5
      have z5 : w3.cell? ⟨w.heap.size + 1, 5, none⟩ = some (.int .i64 0) := blk_cell Z3 5
      have k6 : w3.cell? ⟨w.heap.size, 6, none⟩ = some (.slice none 0 0) := blk_cell B3 6
      have l6 := blk_frozen B3 6
      have z6 : w3.cell? ⟨w.heap.size + 1, 6, none⟩ = some (.slice none 0 0) := blk_cell Z3 6
      have k7 : w3.cell? ⟨w.heap.size, 7, none⟩ = some (.slice none 0 0) := blk_cell B3 7
      have l7 := blk_frozen B3 7
      have z7 : w3.cell? ⟨w.heap.size + 1, 7, none⟩ = some (.slice none 0 0) := blk_cell Z3 7
      have k8 : w3.cell? ⟨w.heap.size, 8, none⟩ = some (.slice none 0 0) := blk_cell B3 8
      have l8 := blk_frozen B3 8
      have z8 : w3.cell? ⟨w.heap.size + 1, 8, none⟩ = some (.slice none 0 0) := blk_cell Z3 8
      have k9 : w3.cell? ⟨w.heap.size, 9, none⟩ = some (.slice none 0 0) := blk_cell B3 9
      have l9 := blk_frozen B3 9
      have z9 : w3.cell? ⟨w.heap.size + 1, 9, none⟩ = some (.slice none 0 0) := blk_cell Z3 9
      go_wp2_with fail
      refine bodyPost_ret (v := .tuple #[msV ms0 none 0 0 none 0 0 none 0 0 none 0 0, .int .i64 2]) ?hres rfl ⟨_, _, _, _, _, _, _, _, _, _, _, _, rfl, ?hm, ?hxx⟩
      case hres => simp [results, Try.results37, go_sem, ms0, k0, k1, k2, k3, k4, k5, k6, k7, k8, k9]
      case hm => exact MsR.nil _ _ _ _ _ _ _
      case hxx => (repeat (first | (with_reducible exact Ext.refl _) | (with_reducible assumption) | (with_reducible refine Ext.draws ?_) | (with_reducible refine Ext.allocs ?_ _) | (with_reducible refine Ext.sets ?_ ?_ _) | (with_reducible exact Nat.le_refl _) | (exact (by simp)) | (exact (by simp; omega))))
    | some p =>
      obtain ⟨p, d⟩ := p
      obtain ⟨x1, x2, x3, x4, x5, rfl⟩ := five (numsF_len _ _ _ _ hp)
      have hdb := numsF5_bd hp
      have hpp := parseM_rest hc0 hp
      have hkb : 0 ≤ kindOf cb ∧ kindOf cb ≤ 255 := by
        unfold kindOf
        have := (cb.getD 0 0).toNat_lt
        omega
      obtain ⟨K, hK⟩ : ∃ z, kindOf cb = z := ⟨_, rfl⟩
      have HK := Lib.hid hK
      rw [hK] at hpp hkb
      obtain ⟨om, hom⟩ : ∃ q, restM K x1 x2 x3 x4 x5 cb d = q := ⟨_, rfl⟩
      have HOM := Lib.hid hom
      rw [hom] at hpp
      have HC1 : Hid (1 ≤ cb.length) := Nat.not_lt.1 hc0
      have HDB := Lib.hid hdb
      have HO : Hid (getM true b = o) := ho1
      have HPP : Hid (parseM true cb = om) := hpp
      have HCB2 : Hid (crcOpen b = some cb) := hcb
      clear hcb hp hc0 hdb hpp hK hom ho1
      go_enter Try.func37, Try.ntmps37
      go_upto_region 2 with fail
      rw [← hw1]
      clear hw1
      go_wp2_with fail
      refine (ref_Open_any A n c b _ (hb.ext gx1) (by omega) HCB).mono ?_
      rintro e w2 ⟨A2, n2, c2, rfl, h2, hx2⟩
      have B2 := blk_ext B1 hx2
      have Z2 := blk_ext Z1 hx2
      have gx2 := gx1.trans hx2
      have hsg2 := Nat.le_trans hsg1 hx2.size
      have k0 : w2.cell? ⟨w.heap.size, 0, none⟩ = some (.int .i64 0) := blk_cell B2 0
      have l0 := blk_frozen B2 0
      have z0 : w2.cell? ⟨w.heap.size + 1, 0, none⟩ = some (.int .i64 0) := blk_cell Z2 0
      have k1 : w2.cell? ⟨w.heap.size, 1, none⟩ = some (.int .i64 0) := blk_cell B2 1
      have l1 := blk_frozen B2 1
      have z1 : w2.cell? ⟨w.heap.size + 1, 1, none⟩ = some (.int .i64 0) := blk_cell Z2 1
      have k2 : w2.cell? ⟨w.heap.size, 2, none⟩ = some (.int .i64 0) := blk_cell B2 2
      have l2 := blk_frozen B2 2
      have z2 : w2.cell? ⟨w.heap.size + 1, 2, none⟩ = some (.int .i64 0) := blk_cell Z2 2
      have k3 : w2.cell? ⟨w.heap.size, 3, none⟩ = some (.int .i64 0) := blk_cell B2 3
      have l3 := blk_frozen B2 3
      have z3 : w2.cell? ⟨w.heap.size + 1, 3, none⟩ = some (.int .i64 0) := blk_cell Z2 3
      have k4 : w2.cell? ⟨w.heap.size, 4, none⟩ = some (.int .i64 0) := blk_cell B2 4
      have l4 := blk_frozen B2 4
      have z4 : w2.cell? ⟨w.heap.size + 1, 4, none⟩ = some (.int .i64 0) := blk_cell Z2 4
      have k5 : w2.cell? ⟨w.heap.size, 5, none⟩ = some (.int .i64 0) := blk_cell B2 5
      have l5 := blk_frozen B2 5
      have z5 : w2.cell? ⟨w.heap.size + 1, 5, none⟩ = some (.int .i64 0) := blk_cell Z2 5
      have k6 : w2.cell? ⟨w.heap.size, 6, none⟩ = some (.slice none 0 0) := blk_cell B2 6
      have l6 := blk_frozen B2 6
      have z6 : w2.cell? ⟨w.heap.size + 1, 6, none⟩ = some (.slice none 0 0) := blk_cell Z2 6
      have k7 : w2.cell? ⟨w.heap.size, 7, none⟩ = some (.slice none 0 0) := blk_cell B2 7
      have l7 := blk_frozen B2 7
      have z7 : w2.cell? ⟨w.heap.size + 1, 7, none⟩ = some (.slice none 0 0) := blk_cell Z2 7
      have k8 : w2.cell? ⟨w.heap.size, 8, none⟩ = some (.slice none 0 0) := blk_cell B2 8
      have l8 := blk_frozen B2 8
      have z8 : w2.cell? ⟨w.heap.size + 1, 8, none⟩ = some (.slice none 0 0) := blk_cell Z2 8
      have k9 : w2.cell? ⟨w.heap.size, 9, none⟩ = some (.slice none 0 0) := blk_cell B2 9
      have l9 := blk_frozen B2 9
      have z9 : w2.cell? ⟨w.heap.size + 1, 9, none⟩ = some (.slice none 0 0) := blk_cell Z2 9
      clear hx2 gx1 B1 Z1
      have hn21 : 1 ≤ n2 := by rw [← h2.len]; exact HC1.out
      have d0 : ((n2 : Int) == 0) = false := by simp; omega
      have d0n : (n2 == 0) = false := by simp; omega
      go_wp2_with fail
      have hn2 : n2 ≤ 1000000 := by rw [← h2.len]; exact Nat.le_trans hcl hn6
      refine (ref_numbers (F := 5) h2.sl hn2 (by omega) HP).mono ?_
      rintro e w3 ⟨A3, n3, c3, rfl, h3, hx3⟩
      have B3 := blk_ext B2 hx3
      have Z3 := blk_ext Z2 hx3
      have gx3 := gx2.trans hx3
      have hsg3 := Nat.le_trans hsg2 hx3.size
      clear k0 k1 k2 k3 k4 k5 k6 k7 k8 k9 l0 l1 l2 l3 l4 l5 l6 l7 l8 l9 z0 z1 z2 z3 z4 z5 z6 z7 z8 z9
      have k0 : w3.cell? ⟨w.heap.size, 0, none⟩ = some (.int .i64 0) := blk_cell B3 0
      have l0 := blk_frozen B3 0
      have z0 : w3.cell? ⟨w.heap.size + 1, 0, none⟩ = some (.int .i64 0) := blk_cell Z3 0
      have k1 : w3.cell? ⟨w.heap.size, 1, none⟩ = some (.int .i64 0) := blk_cell B3 1
      have l1 := blk_frozen B3 1
      have z1 : w3.cell? ⟨w.heap.size + 1, 1, none⟩ = some (.int .i64 0) := blk_cell Z3 1
      have k2 : w3.cell? ⟨w.heap.size, 2, none⟩ = some (.int .i64 0) := blk_cell B3 2
      have l2 := blk_frozen B3 2
      have z2 : w3.cell? ⟨w.heap.size + 1, 2, none⟩ = some (.int .i64 0) := blk_cell Z3 2
      have k3 : w3.cell? ⟨w.heap.size, 3, none⟩ = some (.int .i64 0) := blk_cell B3 3
      have l3 := blk_frozen B3 3
      have z3 : w3.cell? ⟨w.heap.size + 1, 3, none⟩ = some (.int .i64 0) := blk_cell Z3 3
      have k4 : w3.cell? ⟨w.heap.size, 4, none⟩ = some (.int .i64 0) := blk_cell B3 4
      have l4 := blk_frozen B3 4
      have z4 : w3.cell? ⟨w.heap.size + 1, 4, none⟩ = some (.int .i64 0) := blk_cell Z3 4
      have k5 : w3.cell? ⟨w.heap.size, 5, none⟩ = some (.int .i64 0) := blk_cell B3 5
      have l5 := blk_frozen B3 5
      have z5 : w3.cell? ⟨w.heap.size + 1, 5, none⟩ = some (.int .i64 0) := blk_cell Z3 5
      have k6 : w3.cell? ⟨w.heap.size, 6, none⟩ = some (.slice none 0 0) := blk_cell B3 6
      have l6 := blk_frozen B3 6
      have z6 : w3.cell? ⟨w.heap.size + 1, 6, none⟩ = some (.slice none 0 0) := blk_cell Z3 6
      have k7 : w3.cell? ⟨w.heap.size, 7, none⟩ = some (.slice none 0 0) := blk_cell B3 7
      have l7 := blk_frozen B3 7
      have z7 : w3.cell? ⟨w.heap.size + 1, 7, none⟩ = some (.slice none 0 0) := blk_cell Z3 7
      have k8 : w3.cell? ⟨w.heap.size, 8, none⟩ = some (.slice none 0 0) := blk_cell B3 8
      have l8 := blk_frozen B3 8
      have z8 : w3.cell? ⟨w.heap.size + 1, 8, none⟩ = some (.slice none 0 0) := blk_cell Z3 8
      have k9 : w3.cell? ⟨w.heap.size, 9, none⟩ = some (.slice none 0 0) := blk_cell B3 9
      have l9 := blk_frozen B3 9
      have z9 : w3.cell? ⟨w.heap.size + 1, 9, none⟩ = some (.slice none 0 0) := blk_cell Z3 9
      rw [show ((some ([x1, x2, x3, x4, x5], d) : Option (List Int × Int)).map Prod.snd).getD 0 = d from rfl, show (some ([x1, x2, x3, x4, x5], d) : Option (List Int × Int)).isSome = true from rfl]
      have h23 := h2.sl.ext hx3
      have l4 : Lst 1 intR w3 A3 n3 c3 [x1, x2, x3, x4, x5] := h3.lst
      obtain rfl : n3 = 5 := l4.len.symm
      obtain ⟨g1, o1, y1, rfl, hy1', q1⟩ := l4.atI (i := 0) (by omega)
      obtain ⟨_, _, y2, e2, hy2', q2⟩ := l4.atI (i := 1) (by omega)
      injection e2 with e2; injection e2 with e2 e2'; subst e2 e2'
      obtain ⟨_, _, y3, e2, hy3', q3⟩ := l4.atI (i := 2) (by omega)
      injection e2 with e2; injection e2 with e2 e2'; subst e2 e2'
      obtain ⟨_, _, y4, e2, hy4', q4⟩ := l4.atI (i := 3) (by omega)
      injection e2 with e2; injection e2 with e2 e2'; subst e2 e2'
      obtain ⟨_, _, y5, e2, hy5', q5⟩ := l4.atI (i := 4) (by omega)
      injection e2 with e2; injection e2 with e2 e2'; subst e2 e2'
      simp only [List.getElem?_cons_zero, List.getElem?_cons_succ, Option.some.injEq] at hy1' hy2' hy3' hy4' hy5'
      subst hy1' hy2' hy3' hy4' hy5'
      rw [Nat.add_zero] at q1
      obtain ⟨g0, o0, hA2, hq0⟩ := h23.at2 (k := 0) (by omega)
      have q6 : w3.cell? ⟨g0, o0, none⟩ = some (.int .u8 K) := by rw [← HK.out]; exact hq0
      subst hA2
      have hdn : 0 ≤ d ∧ d ≤ (n2 : Int) := by rw [← h2.len]; exact HDB.out
      have hpc := fun u (hu : Ext w3 u) => ref_rest (h23.ext hu) hn2 hdn HOM
      have hn2c := h23.n63
      have hn3c := l4.n63
      have hpn := run_text_u8 (hb.ext gx3)
      clear hx3 gx2 h3 l4 h2 hq0 B2 Z2 hsg2 hpn
      go_upto_region 10 with fail
      refine wp_region_typed3 (R := Bzt w3.heap.size (fun _ => False)) Ext.steady (Bzt.steady _ _) (fun _ _ => Bzt.of_ext) rfl 80 rfl [0, 1, 3, 7, 0, 16, 48, 0, 128, 384, 0, 1024, 3072, 0, 8192, 24576, 0, 65536, 196608, 524287, 0, 0, 4194303, 8388607, 16777215, 16777215, 0, 100663295, 268435455] 134217728 26 (by kernel_rfl) ?_
      apply Stage3.step (Is _) true [] true false (Is.keeps _) (fun _ => Is.keeps _) (by kernel_rfl)
      · intro γ w1 h1
        have h1 : Ext _ w1 := h1
        simp only [List.nil_append, List.cons_append, List.map_cons, List.map_nil, Given]
        go_wp2_with fail
        exact Post.isv (Ext.refl _) rfl rfl rfl
      apply Stage3.step (Is _) true [true] true false (Is.keeps _) (fun _ => Is.keeps _) (by kernel_rfl)
      · intro γ w1 h1
        have h1 : Ext _ w1 := h1
        simp only [List.nil_append, List.cons_append, List.map_cons, List.map_nil, Sp3.at, Sp.pr, Given]
        rintro _ rfl
        go_wp2_with fail
        exact Post.isv (Ext.refl _) rfl rfl rfl
      apply Stage3.step (Is (.int .u8 K)) true [false, true] true false (Is.keeps _) (fun _ => Is.keeps _) (by kernel_rfl)
      · intro γ w1 h1
        have h1 : Ext _ w1 := h1
        simp only [List.nil_append, List.cons_append, List.map_cons, List.map_nil, Sp3.at, Sp.pr, Given]
        rintro _ rfl
        have q0 := h1.cell q6
        go_wp2_with fail
        exact Post.isv (Ext.refl _) rfl rfl rfl
      apply Stage3.step (Is (.int .i64 K)) true [false, false, true] true false (Is.keeps _) (fun _ => Is.keeps _) (by kernel_rfl)
      · intro γ w1 h1
        have h1 : Ext _ w1 := h1
        simp only [List.nil_append, List.cons_append, List.map_cons, List.map_nil, Sp3.at, Sp.pr, Given]
        rintro _ rfl
        go_wp2_with fail
        exact Post.isv (Ext.refl _) rfl rfl rfl
      apply Stage3.step (Is _) true [] true false (Is.keeps _) (fun _ => Is.keeps _) (by kernel_rfl)
      · intro γ w1 h1
        have h1 : Ext _ w1 := h1
        simp only [List.nil_append, List.cons_append, List.map_cons, List.map_nil, Given]
        go_wp2_with fail
        exact Post.isv (Ext.refl _) rfl rfl rfl
      apply Stage3.step (Is _) true [false, false, false, false, true] true false (Is.keeps _) (fun _ => Is.keeps _) (by kernel_rfl)
      · intro γ w1 h1
        have h1 : Ext _ w1 := h1
        simp only [List.nil_append, List.cons_append, List.map_cons, List.map_nil, Sp3.at, Sp.pr, Given]
        rintro _ rfl
        go_wp2_with fail
        exact Post.isv (Ext.refl _) rfl rfl rfl
      apply Stage3.step (Is (.int .i64 x1)) true [false, false, false, false, false, true] true false (Is.keeps _) (fun _ => Is.keeps _) (by kernel_rfl)
      · intro γ w1 h1
        have h1 : Ext _ w1 := h1
        simp only [List.nil_append, List.cons_append, List.map_cons, List.map_nil, Sp3.at, Sp.pr, Given]
        rintro _ rfl
        have q0 := h1.cell q1
        go_wp2_with fail
        exact Post.isv (Ext.refl _) rfl rfl rfl
      apply Stage3.step (Is _) true [] true false (Is.keeps _) (fun _ => Is.keeps _) (by kernel_rfl)
      · intro γ w1 h1
        have h1 : Ext _ w1 := h1
        simp only [List.nil_append, List.cons_append, List.map_cons, List.map_nil, Given]
        go_wp2_with fail
        exact Post.isv (Ext.refl _) rfl rfl rfl
      apply Stage3.step (Is _) true [false, false, false, false, false, false, false, true] true false (Is.keeps _) (fun _ => Is.keeps _) (by kernel_rfl)
      · intro γ w1 h1
        have h1 : Ext _ w1 := h1
        simp only [List.nil_append, List.cons_append, List.map_cons, List.map_nil, Sp3.at, Sp.pr, Given]
        rintro _ rfl
        go_wp2_with fail
        exact Post.isv (Ext.refl _) rfl rfl rfl
      apply Stage3.step (Is (.int .i64 x2)) true [false, false, false, false, false, false, false, false, true] true false (Is.keeps _) (fun _ => Is.keeps _) (by kernel_rfl)
      · intro γ w1 h1
        have h1 : Ext _ w1 := h1
        simp only [List.nil_append, List.cons_append, List.map_cons, List.map_nil, Sp3.at, Sp.pr, Given]
        rintro _ rfl
        have q0 := h1.cell q2
        go_wp2_with fail
        exact Post.isv (Ext.refl _) rfl rfl rfl
      apply Stage3.step (Is _) true [] true false (Is.keeps _) (fun _ => Is.keeps _) (by kernel_rfl)
      · intro γ w1 h1
        have h1 : Ext _ w1 := h1
        simp only [List.nil_append, List.cons_append, List.map_cons, List.map_nil, Given]
        go_wp2_with fail
        exact Post.isv (Ext.refl _) rfl rfl rfl
      apply Stage3.step (Is _) true [false, false, false, false, false, false, false, false, false, false, true] true false (Is.keeps _) (fun _ => Is.keeps _) (by kernel_rfl)
      · intro γ w1 h1
        have h1 : Ext _ w1 := h1
        simp only [List.nil_append, List.cons_append, List.map_cons, List.map_nil, Sp3.at, Sp.pr, Given]
        rintro _ rfl
        go_wp2_with fail
        exact Post.isv (Ext.refl _) rfl rfl rfl
      apply Stage3.step (Is (.int .i64 x3)) true [false, false, false, false, false, false, false, false, false, false, false, true] true false (Is.keeps _) (fun _ => Is.keeps _) (by kernel_rfl)
      · intro γ w1 h1
        have h1 : Ext _ w1 := h1
        simp only [List.nil_append, List.cons_append, List.map_cons, List.map_nil, Sp3.at, Sp.pr, Given]
        rintro _ rfl
        have q0 := h1.cell q3
        go_wp2_with fail
        exact Post.isv (Ext.refl _) rfl rfl rfl
      apply Stage3.step (Is _) true [] true false (Is.keeps _) (fun _ => Is.keeps _) (by kernel_rfl)
      · intro γ w1 h1
        have h1 : Ext _ w1 := h1
        simp only [List.nil_append, List.cons_append, List.map_cons, List.map_nil, Given]
        go_wp2_with fail
        exact Post.isv (Ext.refl _) rfl rfl rfl
      apply Stage3.step (Is _) true [false, false, false, false, false, false, false, false, false, false, false, false, false, true] true false (Is.keeps _) (fun _ => Is.keeps _) (by kernel_rfl)
      · intro γ w1 h1
        have h1 : Ext _ w1 := h1
        simp only [List.nil_append, List.cons_append, List.map_cons, List.map_nil, Sp3.at, Sp.pr, Given]
        rintro _ rfl
        go_wp2_with fail
        exact Post.isv (Ext.refl _) rfl rfl rfl
      apply Stage3.step (Is (.int .i64 x4)) true [false, false, false, false, false, false, false, false, false, false, false, false, false, false, true] true false (Is.keeps _) (fun _ => Is.keeps _) (by kernel_rfl)
      · intro γ w1 h1
        have h1 : Ext _ w1 := h1
        simp only [List.nil_append, List.cons_append, List.map_cons, List.map_nil, Sp3.at, Sp.pr, Given]
        rintro _ rfl
        have q0 := h1.cell q4
        go_wp2_with fail
        exact Post.isv (Ext.refl _) rfl rfl rfl
      apply Stage3.step (Is _) true [] true false (Is.keeps _) (fun _ => Is.keeps _) (by kernel_rfl)
      · intro γ w1 h1
        have h1 : Ext _ w1 := h1
        simp only [List.nil_append, List.cons_append, List.map_cons, List.map_nil, Given]
        go_wp2_with fail
        exact Post.isv (Ext.refl _) rfl rfl rfl
      apply Stage3.step (Is _) true [false, false, false, false, false, false, false, false, false, false, false, false, false, false, false, false, true] true false (Is.keeps _) (fun _ => Is.keeps _) (by kernel_rfl)
      · intro γ w1 h1
        have h1 : Ext _ w1 := h1
        simp only [List.nil_append, List.cons_append, List.map_cons, List.map_nil, Sp3.at, Sp.pr, Given]
        rintro _ rfl
        go_wp2_with fail
        exact Post.isv (Ext.refl _) rfl rfl rfl
      apply Stage3.step (Is (.int .i64 x5)) true [false, false, false, false, false, false, false, false, false, false, false, false, false, false, false, false, false, true] true false (Is.keeps _) (fun _ => Is.keeps _) (by kernel_rfl)
      · intro γ w1 h1
        have h1 : Ext _ w1 := h1
        simp only [List.nil_append, List.cons_append, List.map_cons, List.map_nil, Sp3.at, Sp.pr, Given]
        rintro _ rfl
        have q0 := h1.cell q5
        go_wp2_with fail
        exact Post.isv (Ext.refl _) rfl rfl rfl
      apply Stage3.step (Is (msV ⟨K, x1, x2, x3, x4, x5, [], [], [], []⟩ none 0 0 none 0 0 none 0 0 none 0 0)) true [false, false, false, true, false, false, true, false, false, true, false, false, true, false, false, true, false, false, true] true false (Is.keeps _) (fun _ => Is.keeps _) (by kernel_rfl)
      · intro γ w1 h1
        have h1 : Ext _ w1 := h1
        simp only [List.nil_append, List.cons_append, List.map_cons, List.map_nil, Sp3.at, Sp.pr, Given]
        rintro _ rfl
        rintro _ rfl
        rintro _ rfl
        rintro _ rfl
        rintro _ rfl
        rintro _ rfl
        go_wp2_with fail
        exact Post.isv (Ext.refl _) rfl rfl rfl
      apply Stage3.step (Is _) true [] true false (Is.keeps _) (fun _ => Is.keeps _) (by kernel_rfl)
      · intro γ w1 h1
        have h1 : Ext _ w1 := h1
        simp only [List.nil_append, List.cons_append, List.map_cons, List.map_nil, Given]
        go_wp2_with fail
        exact Post.isv (Ext.refl _) rfl rfl rfl
      apply Stage3.step (Is _) true [] true false (Is.keeps _) (fun _ => Is.keeps _) (by kernel_rfl)
      · intro γ w1 h1
        have h1 : Ext _ w1 := h1
        simp only [List.nil_append, List.cons_append, List.map_cons, List.map_nil, Given]
        go_wp2_with fail
        exact Post.isv (Ext.refl _) rfl rfl rfl
      apply Stage3.step (RestT w3.heap.size om) true [false, false, false, false, false, false, false, false, false, false, false, false, false, false, false, false, false, false, false, true, true, true] true false (RestT.keeps _ _) (fun _ => RestT.keeps2 _ _) (by kernel_rfl)
      · intro γ w1 h1
        have h1 : Ext _ w1 := h1
        simp only [List.nil_append, List.cons_append, List.map_cons, List.map_nil, Sp3.at, Sp.pr, Given]
        rintro _ rfl
        rintro _ rfl
        rintro _ rfl
        have hs1 := h1.size
        go_wp2_with fail
        refine (hpc _ h1).mono ?_
        rintro e w4 ⟨m4, D1, Dn1, Dc1, D2, Dn2, Dc2, D3, Dn3, Dc3, D4, Dn4, Dc4, rfl, hm4, hx4⟩
        go_wp2_with fail
        exact ⟨rfl, rfl, hx4, _, _, _, _, _, _, _, _, _, _, _, _, _, rfl, fun x hx => ⟨(hm4 x hx).1, (hm4 x hx).2.low hs1⟩⟩
      apply Stage3.step (RestT w3.heap.size om) true [false, false, false, false, false, false, false, false, false, false, false, false, false, false, false, false, false, false, false, false, false, false, true] true false (RestT.keeps _ _) (fun _ => RestT.keeps2 _ _) (by kernel_rfl)
      · intro γ w1 h1
        have h1 : Ext _ w1 := h1
        simp only [List.nil_append, List.cons_append, List.map_cons, List.map_nil, Sp3.at, Sp.pr, Given]
        rintro v hcp
        go_wp2_with fail
        exact ⟨rfl, rfl, Ext.refl _, hcp⟩
      apply Stage3.step (RestM w3.heap.size om) false [false, false, false, false, false, false, false, false, false, false, false, false, false, false, false, false, false, false, false, false, false, false, false, true] true false (RestM.keeps _ _) (no_keeps) (by kernel_rfl)
      · intro γ w1 h1
        have h1 : Ext _ w1 := h1
        simp only [List.nil_append, List.cons_append, List.map_cons, List.map_nil, Sp3.at, Sp.pr, Given]
        rintro _ ⟨m8, C1, Cn1, Cc1, C2, Cn2, Cc2, C3, Cn3, Cc3, C4, Cn4, Cc4, rfl, hm8⟩
        go_wp2_with fail
        exact ⟨rfl, rfl, Ext.refl _, _, _, _, _, _, _, _, _, _, _, _, _, _, rfl, hm8⟩
      apply Stage3.step (Is (.bool om.isSome)) true [false, false, false, false, false, false, false, false, false, false, false, false, false, false, false, false, false, false, false, false, false, false, false, true] false false (Is.keeps _) (fun _ => Is.keeps _) (by kernel_rfl)
      · intro γ w1 h1
        have h1 : (Bzt w3.heap.size (fun _ => False)) _ w1 := h1
        simp only [List.nil_append, List.cons_append, List.map_cons, List.map_nil, Sp3.at, Sp.pr, Given]
        rintro _ ⟨m8, C1, Cn1, Cc1, C2, Cn2, Cc2, C3, Cn3, Cc3, C4, Cn4, Cc4, rfl, hm8⟩
        go_wp2_with fail
        exact Post.isv (Ext.refl _) rfl rfl rfl
      apply Stage3.stepA (ZBox w3.heap.size) true [] true false (ZBox.keeps _) (fun _ => ZBox.keeps2 _) (by kernel_rfl)
      · intro γ w1 h1
        have h1 : Ext _ w1 := h1
        simp only [List.nil_append, List.cons_append, List.map_cons, List.map_nil, Given]
        have hs1 := h1.size
        go_wp2_with fail
        exact ⟨rfl, rfl, Ext.alloc _ _, _, rfl, hs1, isZ_zero (heap_alloc_new _ _)⟩
      apply Stage3.stepD (fun γ => MsBox w3.heap.size om γ) false [false, false, false, false, false, false, false, false, false, false, false, false, false, false, false, false, false, false, false, false, false, false, false, false, true, false, true] true true (fun γ => MsBox.keeps _ _ γ) (fun h => by cases h) (by kernel_rfl)
      · intro γ w1 h1
        have h1 : Ext _ w1 := h1
        simp only [List.nil_append, List.cons_append, List.map_cons, List.map_nil, Sp3.at, Sp.pr, Given]
        rintro _ ⟨m9, B1, Bn1, Bc1, B2, Bn2, Bc2, B3, Bn3, Bc3, B4, Bn4, Bc4, rfl, hm9⟩
        rintro _ ⟨rfl, g8, rfl, hg8, hz8⟩
        obtain ⟨m1, m2, m3, m4, m5, m6, ma, mb, mc, md⟩ := m9
        obtain ⟨C8, hC8, hC8s, hC8n⟩ := hz8
        have hz8 : isZ w1 g8 := ⟨C8, hC8, hC8s, hC8n⟩
        have u0 := blk_cell hC8 0 (Array.getElem?_eq_getElem (by rw [hC8s]; omega))
        have v0 := blk_frozen hC8 0
        have u1 := blk_cell hC8 1 (Array.getElem?_eq_getElem (by rw [hC8s]; omega))
        have v1 := blk_frozen hC8 1
        have u2 := blk_cell hC8 2 (Array.getElem?_eq_getElem (by rw [hC8s]; omega))
        have v2 := blk_frozen hC8 2
        have u3 := blk_cell hC8 3 (Array.getElem?_eq_getElem (by rw [hC8s]; omega))
        have v3 := blk_frozen hC8 3
        have u4 := blk_cell hC8 4 (Array.getElem?_eq_getElem (by rw [hC8s]; omega))
        have v4 := blk_frozen hC8 4
        have u5 := blk_cell hC8 5 (Array.getElem?_eq_getElem (by rw [hC8s]; omega))
        have v5 := blk_frozen hC8 5
        have u6 := blk_cell hC8 6 (Array.getElem?_eq_getElem (by rw [hC8s]; omega))
        have v6 := blk_frozen hC8 6
        have u7 := blk_cell hC8 7 (Array.getElem?_eq_getElem (by rw [hC8s]; omega))
        have v7 := blk_frozen hC8 7
        have u8 := blk_cell hC8 8 (Array.getElem?_eq_getElem (by rw [hC8s]; omega))
        have v8 := blk_frozen hC8 8
        have u9 := blk_cell hC8 9 (Array.getElem?_eq_getElem (by rw [hC8s]; omega))
        have v9 := blk_frozen hC8 9
        clear hC8n
        go_wp2_with fail
        refine ⟨rfl, rfl, fill_box hg8 hz8 m1 m2 m3 m4 m5 m6 B1 Bn1 Bc1 B2 Bn2 Bc2 B3 Bn3 Bc3 B4 Bn4 Bc4, fun g e => ?_⟩
        obtain rfl : g8 = g := by injection e with e; injection e with e; injection e with e
        exact ⟨⟨m1, m2, m3, m4, m5, m6, ma, mb, mc, md⟩, B1, Bn1, Bc1, B2, Bn2, Bc2, B3, Bn3, Bc3, B4, Bn4, Bc4, set10_at hz8 _ _ _ _ _ _ _ _ _ _, fun x hx => ⟨(hm9 x hx).1, (hm9 x hx).2.bzt (fill_box hg8 hz8 m1 m2 m3 m4 m5 m6 B1 Bn1 Bc1 B2 Bn2 Bc2 B3 Bn3 Bc3 B4 Bn4 Bc4)⟩⟩
      apply Stage3.step (Is _) true [false, false, false, false, false, false, false, false, false, false, false, false, false, false, false, false, false, false, false, false, false, false, false, false, false, true] false false (Is.keeps _) (fun _ => Is.keeps _) (by kernel_rfl)
      · intro γ w1 h1
        have h1 : (Bzt w3.heap.size (fun _ => False)) _ w1 := h1
        simp only [List.nil_append, List.cons_append, List.map_cons, List.map_nil, Sp3.at, Sp.pr, Given]
        rintro _ rfl
        go_wp2_with fail
        exact Post.isv (Ext.refl _) rfl rfl rfl
      apply Stage3.nil [true, true, true, true, true, true, true, true, true, true, true, true, true, true, true, true, true, true, true, true, true, true, true, true, false, true, true, true, true] (by kernel_rfl)
      intro γ w1 h1
      have h1 : (Bzt w3.heap.size (fun _ => False)) _ w1 := h1
      simp only [List.nil_append, List.cons_append, List.map_cons, List.map_nil, Sp3.at, Sp.pr]
      refine Fin2.is_ ?_
      refine Fin2.is_ ?_
      refine Fin2.is_ ?_
      refine Fin2.is_ ?_
      refine Fin2.is_ ?_
      refine Fin2.is_ ?_
      refine Fin2.is_ ?_
      refine Fin2.is_ ?_
      refine Fin2.is_ ?_
      refine Fin2.is_ ?_
      refine Fin2.is_ ?_
      refine Fin2.is_ ?_
      refine Fin2.is_ ?_
      refine Fin2.is_ ?_
      refine Fin2.is_ ?_
      refine Fin2.is_ ?_
      refine Fin2.is_ ?_
      refine Fin2.is_ ?_
      refine Fin2.is_ ?_
      refine Fin2.is_ ?_
      refine Fin2.is_ ?_
      refine Fin2.is_ ?_
      refine Fin2.step_ ?_
      rintro _ ⟨m8, C1, Cn1, Cc1, C2, Cn2, Cc2, C3, Cn3, Cc3, C4, Cn4, Cc4, rfl, hm8⟩
      refine Fin2.step_ ?_
      rintro _ ⟨m8, C1, Cn1, Cc1, C2, Cn2, Cc2, C3, Cn3, Cc3, C4, Cn4, Cc4, rfl, hm8⟩
      refine Fin2.dead_ ?_
      intro dead24
      refine Fin2.is_ ?_
      refine Fin2.step_ ?_
      rintro _ ⟨rfl, g8, rfl, hg8, hz8⟩
      refine Fin2.step_ ?_
      rintro _ hst8
      refine Fin2.is_ ?_
      refine Fin2.nil_ ?_
      go_simp
      obtain ⟨m0, E1, En1, Ec1, E2, En2, Ec2, E3, En3, Ec3, E4, En4, Ec4, hb8, hm8⟩ := hst8 g8 rfl
      have hx8 : Ext w3 w1 := (Ext.refl w3).but h1.lo (Nat.le_refl _) (fun _ h => h.elim)
      obtain ⟨wm, rfl⟩ : ∃ q, q = w1 := ⟨_, rfl⟩
      have gxm := gx3.trans hx8
      have Bm := blk_ext B3 hx8
      have Zm := blk_ext Z3 hx8
      clear k0 k1 k2 k3 k4 k5 k6 k7 k8 k9 l0 l1 l2 l3 l4 l5 l6 l7 l8 l9 z0 z1 z2 z3 z4 z5 z6 z7 z8 z9
      have k0 : wm.cell? ⟨w.heap.size, 0, none⟩ = some (.int .i64 0) := blk_cell Bm 0
      have l0 := blk_frozen Bm 0
      have z0 : wm.cell? ⟨w.heap.size + 1, 0, none⟩ = some (.int .i64 0) := blk_cell Zm 0
      have k1 : wm.cell? ⟨w.heap.size, 1, none⟩ = some (.int .i64 0) := blk_cell Bm 1
      have l1 := blk_frozen Bm 1
      have z1 : wm.cell? ⟨w.heap.size + 1, 1, none⟩ = some (.int .i64 0) := blk_cell Zm 1
      have k2 : wm.cell? ⟨w.heap.size, 2, none⟩ = some (.int .i64 0) := blk_cell Bm 2
      have l2 := blk_frozen Bm 2
      have z2 : wm.cell? ⟨w.heap.size + 1, 2, none⟩ = some (.int .i64 0) := blk_cell Zm 2
      have k3 : wm.cell? ⟨w.heap.size, 3, none⟩ = some (.int .i64 0) := blk_cell Bm 3
      have l3 := blk_frozen Bm 3
      have z3 : wm.cell? ⟨w.heap.size + 1, 3, none⟩ = some (.int .i64 0) := blk_cell Zm 3
      have k4 : wm.cell? ⟨w.heap.size, 4, none⟩ = some (.int .i64 0) := blk_cell Bm 4
      have l4 := blk_frozen Bm 4
      have z4 : wm.cell? ⟨w.heap.size + 1, 4, none⟩ = some (.int .i64 0) := blk_cell Zm 4
      have k5 : wm.cell? ⟨w.heap.size, 5, none⟩ = some (.int .i64 0) := blk_cell Bm 5
      have l5 := blk_frozen Bm 5
      have z5 : wm.cell? ⟨w.heap.size + 1, 5, none⟩ = some (.int .i64 0) := blk_cell Zm 5
      have k6 : wm.cell? ⟨w.heap.size, 6, none⟩ = some (.slice none 0 0) := blk_cell Bm 6
      have l6 := blk_frozen Bm 6
      have z6 : wm.cell? ⟨w.heap.size + 1, 6, none⟩ = some (.slice none 0 0) := blk_cell Zm 6
      have k7 : wm.cell? ⟨w.heap.size, 7, none⟩ = some (.slice none 0 0) := blk_cell Bm 7
      have l7 := blk_frozen Bm 7
      have z7 : wm.cell? ⟨w.heap.size + 1, 7, none⟩ = some (.slice none 0 0) := blk_cell Zm 7
      have k8 : wm.cell? ⟨w.heap.size, 8, none⟩ = some (.slice none 0 0) := blk_cell Bm 8
      have l8 := blk_frozen Bm 8
      have z8 : wm.cell? ⟨w.heap.size + 1, 8, none⟩ = some (.slice none 0 0) := blk_cell Zm 8
      have k9 : wm.cell? ⟨w.heap.size, 9, none⟩ = some (.slice none 0 0) := blk_cell Bm 9
      have l9 := blk_frozen Bm 9
      have z9 : wm.cell? ⟨w.heap.size + 1, 9, none⟩ = some (.slice none 0 0) := blk_cell Zm 9
      obtain ⟨s1, s2, s3, s4, s5, s6, sa, sb, sc, sd⟩ := m0
      have p0 := blk_cell hb8 0
      have p1 := blk_cell hb8 1
      have p2 := blk_cell hb8 2
      have p3 := blk_cell hb8 3
      have p4 := blk_cell hb8 4
      have p5 := blk_cell hb8 5
      have p6 := blk_cell hb8 6
      have p7 := blk_cell hb8 7
      have p8 := blk_cell hb8 8
      have p9 := blk_cell hb8 9
      clear hst8 h1 hpc hx8 gx3 B3 Z3 hb8 hz8 q1 q2 q3 q4 q5 q6 Bm Zm HP HCB HOM
      cases om with
      | none =>
        have e1 := HO.out
        rw [getM_form HCB2.out HPP.out] at e1
        subst e1
        obtain rfl : 2 = y := hy1
        clear HO HPP HCB2 hm8
        go_wp2_with fail
        refine bodyPost_ret (v := .tuple #[msV ms0 none 0 0 none 0 0 none 0 0 none 0 0, .int .i64 2]) ?hres rfl ⟨_, _, _, _, _, _, _, _, _, _, _, _, rfl, ?hm, ?hxx⟩
        case hres => simp [results, Try.results37, go_sem, ms0, k0, k1, k2, k3, k4, k5, k6, k7, k8, k9]
        case hm => exact MsR.nil _ _ _ _ _ _ _
        case hxx => (repeat (first | (with_reducible exact Ext.refl _) | (with_reducible assumption) | (with_reducible refine Ext.draws ?_) | (with_reducible refine Ext.allocs ?_ _) | (with_reducible refine Ext.sets ?_ ?_ _) | (with_reducible exact Nat.le_refl _) | (exact (by simp)) | (exact (by simp; omega))))
      | some m =>
        obtain ⟨em, hz3⟩ := hm8 _ rfl
        subst em
        have hsh := parseM_fit HPP.out
        have ho1 := HO.out
        rw [getM_at HCB2.out HPP.out] at ho1
        obtain ⟨r, hr⟩ : ∃ q, rightM ⟨s1, s2, s3, s4, s5, s6, sa, sb, sc, sd⟩ = q := ⟨_, rfl⟩
        have HR := Lib.hid hr
        obtain ⟨L, hL⟩ : ∃ q, putMr ⟨s1, s2, s3, s4, s5, s6, sa, sb, sc, sd⟩ r = q := ⟨_, rfl⟩
        have HL := Lib.hid hL
        have HS : Hid (Shorts sc) := fun x hx => by have := hsh.2 x hx; omega
        have HF : Hid (EnFit sb) := by
          have := hsh.1
          first | exact this | exact Lib.hid this
        have HO2 : Hid ((if r = true ∧ putM ⟨s1, s2, s3, s4, s5, s6, sa, sb, sc, sd⟩ = b then some (⟨s1, s2, s3, s4, s5, s6, sa, sb, sc, sd⟩ : Ms) else none) = o) := by unfold Hid; rw [← ho1, hr]
        have HZ3 := Lib.hid hz3
        have hpu := ref_PutMsg hz3.out HF HS HR HL
        clear hsh ho1 hr hL HO HPP HCB2 hm8 hz3
        go_wp2_with fail
        refine hpu.mono ?_
        rintro e w5 ⟨A5, n5, c5, rfl, h5, hx5⟩
        replace l0 := hx5.frozenH k0 l0
        replace k0 := hx5.cell k0
        replace z0 := hx5.cell z0
        replace p0 := hx5.cell p0
        replace l1 := hx5.frozenH k1 l1
        replace k1 := hx5.cell k1
        replace z1 := hx5.cell z1
        replace p1 := hx5.cell p1
        replace l2 := hx5.frozenH k2 l2
        replace k2 := hx5.cell k2
        replace z2 := hx5.cell z2
        replace p2 := hx5.cell p2
        replace l3 := hx5.frozenH k3 l3
        replace k3 := hx5.cell k3
        replace z3 := hx5.cell z3
        replace p3 := hx5.cell p3
        replace l4 := hx5.frozenH k4 l4
        replace k4 := hx5.cell k4
        replace z4 := hx5.cell z4
        replace p4 := hx5.cell p4
        replace l5 := hx5.frozenH k5 l5
        replace k5 := hx5.cell k5
        replace z5 := hx5.cell z5
        replace p5 := hx5.cell p5
        replace l6 := hx5.frozenH k6 l6
        replace k6 := hx5.cell k6
        replace z6 := hx5.cell z6
        replace p6 := hx5.cell p6
        replace l7 := hx5.frozenH k7 l7
        replace k7 := hx5.cell k7
        replace z7 := hx5.cell z7
        replace p7 := hx5.cell p7
        replace l8 := hx5.frozenH k8 l8
        replace k8 := hx5.cell k8
        replace z8 := hx5.cell z8
        replace p8 := hx5.cell p8
        replace l9 := hx5.frozenH k9 l9
        replace k9 := hx5.cell k9
        replace z9 := hx5.cell z9
        replace p9 := hx5.cell p9
        have gw5 := gxm.trans hx5
        have t2 := run_text_u8 (hb.ext gw5)
        have t1 := run_text_u8 h5.sl
        have HZ5 := Lib.hid (HZ3.out.ext hx5)
        have hb63 := h5.sl.n63
        clear hx5 gxm HZ3 hpu h5
        cases r with
        | false =>
          have e1 := HO2.out
          rw [if_neg (by simp)] at e1
          subst e1
          obtain rfl : 2 = y := hy1
          clear HO2
          rw [show (if false = true then (0 : Int) else 1) = 1 from rfl]
          go_wp2_with fail
          refine bodyPost_ret (v := .tuple #[msV ms0 none 0 0 none 0 0 none 0 0 none 0 0, .int .i64 2]) ?hres rfl ⟨_, _, _, _, _, _, _, _, _, _, _, _, rfl, ?hm, ?hxx⟩
          case hres => simp [results, Try.results37, go_sem, ms0, k0, k1, k2, k3, k4, k5, k6, k7, k8, k9]
          case hm => exact MsR.nil _ _ _ _ _ _ _
          case hxx => (repeat (first | (with_reducible exact Ext.refl _) | (with_reducible assumption) | (with_reducible refine Ext.draws ?_) | (with_reducible refine Ext.allocs ?_ _) | (with_reducible refine Ext.sets ?_ ?_ _) | (with_reducible exact Nat.le_refl _) | (exact (by simp)) | (exact (by simp; omega))))
        | true =>
          obtain rfl : putM ⟨s1, s2, s3, s4, s5, s6, sa, sb, sc, sd⟩ = L := HL.out
          rw [show (if true = true then (0 : Int) else 1) = 0 from rfl]
          by_cases hz : putM ⟨s1, s2, s3, s4, s5, s6, sa, sb, sc, sd⟩ = b
          · have e1 := HO2.out
            rw [if_pos ⟨rfl, hz⟩] at e1
            subst e1
            obtain rfl : 0 = y := hy1
            rw [hz] at t1
            clear HO2 HL hz
            go_wp2_with fail
            refine bodyPost_ret (v := .tuple #[msV ⟨s1, s2, s3, s4, s5, s6, sa, sb, sc, sd⟩ E1 En1 Ec1 E2 En2 Ec2 E3 En3 Ec3 E4 En4 Ec4, .int .i64 0]) ?hres rfl ⟨_, _, _, _, _, _, _, _, _, _, _, _, rfl, ?hm, ?hxx⟩
            case hres => simp [results, Try.results37, go_sem, k0, k1, k2, k3, k4, k5, k6, k7, k8, k9]
            case hm =>
              refine Hz.out (B := w.heap.size + 2) (P := fun u => MsR u ⟨s1, s2, s3, s4, s5, s6, sa, sb, sc, sd⟩ E1 En1 Ec1 E2 En2 Ec2 E3 En3 Ec3 E4 En4 Ec4) ?_
              have HALL := HZ5.out.low hsg3
              (repeat (first | (with_reducible exact HALL) | (with_reducible refine Hz.setBox0 ?_ _)))
            case hxx => (repeat (first | (with_reducible exact Ext.refl _) | (with_reducible assumption) | (with_reducible refine Ext.draws ?_) | (with_reducible refine Ext.allocs ?_ _) | (with_reducible refine Ext.sets ?_ ?_ _) | (with_reducible exact Nat.le_refl _) | (exact (by simp)) | (exact (by simp; omega))))
          · have e1 := HO2.out
            rw [if_neg (by rintro ⟨_, e⟩; exact hz e)] at e1
            subst e1
            obtain rfl : 2 = y := hy1
            obtain ⟨L2, hL2⟩ : ∃ q, putM ⟨s1, s2, s3, s4, s5, s6, sa, sb, sc, sd⟩ = q := ⟨_, rfl⟩
            rw [hL2] at t1 hz
            have hzb : (L2 == b) = false := by rw [beq_eq_false_iff_ne]; exact hz
            clear HO2 HL hL2 hz
            go_wp2_with fail
            refine bodyPost_ret (v := .tuple #[msV ms0 none 0 0 none 0 0 none 0 0 none 0 0, .int .i64 2]) ?hres rfl ⟨_, _, _, _, _, _, _, _, _, _, _, _, rfl, ?hm, ?hxx⟩
            case hres => simp [results, Try.results37, go_sem, ms0, k0, k1, k2, k3, k4, k5, k6, k7, k8, k9]
            case hm => exact MsR.nil _ _ _ _ _ _ _
            case hxx => (repeat (first | (with_reducible exact Ext.refl _) | (with_reducible assumption) | (with_reducible refine Ext.draws ?_) | (with_reducible refine Ext.allocs ?_ _) | (with_reducible refine Ext.sets ?_ ?_ _) | (with_reducible exact Nat.le_refl _) | (exact (by simp)) | (exact (by simp; omega))))
end Go.Proofs.Ytoeknbogaclfdaa
