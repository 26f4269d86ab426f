/-
  Images with snapshots: contracts of the program's same and Same.
-/
import Derived.Test.YtcklkjklepmabaaZStSame
namespace Go.Proofs.Ytcklkjklepmabaa
open Go.RowKit
set_option linter.unusedVariables false
set_option linter.unusedSimpArgs false
set_option linter.unnecessarySimpa false
set_option maxRecDepth 100000

abbrev olV (s : ByteArray) (A : Option Addr) (n c : Nat) : Value := .agg #[.string s, .slice A n c]
theorem model_same {x : ByteArray} {A : Option Addr} {n c : Nat} {xd : List UInt8} {y : ByteArray} {B : Option Addr} {m d : Nat} {yd : List UInt8} {w : World} (h1 : Sl w A n c xd) (h2 : Sl w B m d yd) {r : Bool} (hr : Hid (decide ((⟨x, xd⟩ : Ol) = ⟨y, yd⟩) = r)) :
    Calls Try.prog 80 #[olV x A n c, olV y B m d] w fun e w' => e = .returned (.bool r) ∧ Ext w w' := by
  obtain ⟨W, hW⟩ : ∃ W, (w.alloc (.cells #[.string x, .slice A n c] 42)).alloc (.cells #[.string y, .slice B m d] 42) = W := ⟨_, rfl⟩
  have g0 : Ext w W := by rw [← hW]; exact (Ext.alloc _ _).trans (Ext.alloc _ _)
  have c0 : W.cell? ⟨w.heap.size, 0, none⟩ = some (.string x) := by rw [← hW]; exact (Ext.alloc _ _).cell (cell_new w _ _ 0)
  have c1 : W.cell? ⟨w.heap.size, 1, none⟩ = some (.slice A n c) := by rw [← hW]; exact (Ext.alloc _ _).cell (cell_new w _ _ 1)
  have d0 : W.cell? ⟨w.heap.size + 1, 0, none⟩ = some (.string y) := by rw [← hW]; have := cell_new (w.alloc (.cells #[.string x, .slice A n c] 42)) #[.string y, .slice B m d] 42 0; simpa using this
  have d1 : W.cell? ⟨w.heap.size + 1, 1, none⟩ = some (.slice B m d) := by rw [← hW]; have := cell_new (w.alloc (.cells #[.string x, .slice A n c] 42)) #[.string y, .slice B m d] 42 1; simpa using this
  by_cases e1 : x = y
  case neg =>
    obtain rfl : r = false := by rw [← hr.out, decide_eq_false_iff_not]; exact fun h => e1 (by injection h)
    have q1 : (x.toList == y.toList) = false := bs_ne e1
    clear hr e1
    go_enter Try.func80, Try.ntmps80
    go_wp2_with fail
    go_ret
    exact ⟨rfl, g0⟩
  have q1 : (x.toList == y.toList) = true := by rw [e1]; simp
  have hr2 : Hid ((xd == yd) = r) := by
    unfold Hid
    rw [← hr.out, e1]
    by_cases e : xd = yd
    · simp [e]
    · simp [e]
  clear hr e1
  go_enter Try.func80, Try.ntmps80
  go_wp2_with fail
  refine (bytes_Equal A n c xd B m d yd _ (h1.ext g0) (h2.ext g0)).mono ?_
  rintro e w2 ⟨rfl, rfl⟩
  rw [hr2.out]
  cases r
  · go_wp2_with fail
    go_ret
    exact ⟨rfl, g0⟩
  · go_wp2_with fail
    go_ret
    exact ⟨rfl, g0⟩
set_option maxHeartbeats 2000000 in
theorem equal_olds {A : Option Addr} {n c : Nat} {xs : List Ol} {B : Option Addr} {m d : Nat} {ys : List Ol} {w : World} (l1 : Lst 2 olR w A n c xs) (l2 : Lst 2 olR w B m d ys) {r : Bool} (hr : Hid (decide (xs = ys) = r)) (F : Value) (hF : F = .func (.func 80) #[] #[]) :
    Calls Try.prog 79 #[.slice A n c, .slice B m d, F] w fun e w' => e = .returned (.bool r) ∧ Ext w w' := by
  subst hF
  have h63 := l1.n63
  have h632 := l2.n63
  by_cases e2 : n = m
  case neg =>
    obtain rfl : r = false := by rw [← hr.out, decide_eq_false_iff_not]; exact fun h => e2 (by rw [← l1.len, ← l2.len, h])
    have q2 : ((n : Int) != (m : Int)) = true := by simp; omega
    clear hr e2
    go_enter Try.func79, Try.ntmps79
    go_wp2_with fail
    go_ret
    exact ⟨rfl, Ext.refl _⟩
  subst e2
  go_enter Try.func79, Try.ntmps79
  go_wp2_with fail
  go_loopw [17] (fun i wr => ∃ k : Nat, k ≤ n ∧ i = .int .i64 k ∧ Hid (xs.take k = ys.take k) ∧ Ext w wr) (fun i _ => n - (intOf i).toNat)
  case atStart => exact ⟨0, by omega, rfl, rfl, Ext.refl _⟩
  case round =>
    obtain ⟨k, hk, rfl, ht, hxr⟩ := hrel
    by_cases hlt : k < n
    · obtain ⟨ga, oa, x, cs, rfl, hx, ⟨Aa, na, ca, rfl, sa0, hs1⟩, ha⟩ := l1.at2 ol_rep (by omega) hlt
      obtain ⟨gb, ob, y, ds, rfl, hy, ⟨Ab, nb, cb, rfl, sb0, hs2⟩, hb⟩ := l2.at2 ol_rep (by omega) hlt
      have a0 : wr.cell? ⟨ga, oa + k * 2, none⟩ = _ := hxr.cell (ha 0 _ rfl)
      have a1 := hxr.cell (ha 1 _ rfl)
      have b0 : (wr.alloc (.cells #[.string x.nm, .slice Aa na ca] 42)).cell? ⟨gb, ob + k * 2, none⟩ = _ := (Ext.alloc _ _).cell (hxr.cell (hb 0 _ rfl))
      have b1 := (Ext.alloc wr (.cells #[.string x.nm, .slice Aa na ca] 42)).cell (hxr.cell (hb 1 _ rfl))
      have hno : x ≠ y → r = false := fun e => by rw [← hr.out, decide_eq_false_iff_not]; exact same_no hx hy e
      have hye : x = y → Hid (xs.take (k + 1) = ys.take (k + 1)) := fun e => take_nextO ht.out hx hy e
      obtain ⟨q, hq⟩ : ∃ q, decide (x = y) = q := ⟨_, rfl⟩
      have HQ := Lib.hid hq
      have sa := sa0.ext hxr
      have sb := sb0.ext hxr
      obtain ⟨xn, xd⟩ := x
      obtain ⟨yn, yd⟩ := y
      simp only at a0 a1 b0 b1 sa sb
      clear hx hy ha hb sa0 sb0
      cases q with
      | false =>
        obtain rfl := hno (of_decide_eq_false hq)
        clear hno hye hq
        go_wp2_with fail
        refine (model_same ((sa.ext (Ext.alloc _ _)).ext (Ext.alloc _ _)) ((sb.ext (Ext.alloc _ _)).ext (Ext.alloc _ _)) HQ).mono ?_
        rintro e w2 ⟨rfl, h1⟩
        go_wp2_with fail
        go_ret
        exact ⟨rfl, ((hxr.trans (Ext.alloc _ _)).trans (Ext.alloc _ _)).trans h1⟩
      | true =>
        replace hye := hye (of_decide_eq_true hq)
        clear hno hq
        go_wp2_with fail
        refine (model_same ((sa.ext (Ext.alloc _ _)).ext (Ext.alloc _ _)) ((sb.ext (Ext.alloc _ _)).ext (Ext.alloc _ _)) HQ).mono ?_
        rintro e w2 ⟨rfl, h1⟩
        go_wp2_with fail
        go_roundw
        case rel => exact ⟨k + 1, by omega, by go_num, hye, ((hxr.trans (Ext.alloc _ _)).trans (Ext.alloc _ _)).trans h1⟩
        case measure => simp [intOf]; omega
    · have e := ht.out
      rw [List.take_of_length_le (by rw [l1.len]; omega), List.take_of_length_le (by rw [l2.len]; omega)] at e
      obtain rfl : r = true := by rw [← hr.out]; simpa using e
      clear hr ht e
      go_wp2_with fail
      go_ret
      exact ⟨rfl, hxr⟩
set_option maxHeartbeats 1000000 in
theorem model_SameSt {A : Option Addr} {n c : Nat} {A2 : Option Addr} {n2 c2 : Nat} {s : St} {B : Option Addr} {m d : Nat} {B2 : Option Addr} {m2 d2 : Nat} {t : St} {w : World} (h1 : StR w A n c A2 n2 c2 s) (h2 : StR w B m d B2 m2 d2 t) {r : Bool} (hr : Hid (decide (s = t) = r)) :
    Calls Try.prog 59 #[stV A n c A2 n2 c2, stV B m d B2 m2 d2] w fun e w' => e = .returned (.bool r) ∧ Ext w w' := by
  obtain ⟨h1, l1⟩ := h1
  obtain ⟨h2, l2⟩ := h2
  obtain ⟨W, hW⟩ : ∃ W, (w.alloc (.cells #[.slice A n c, .slice A2 n2 c2] 35)).alloc (.cells #[.slice B m d, .slice B2 m2 d2] 35) = W := ⟨_, rfl⟩
  have g0 : Ext w W := by rw [← hW]; exact (Ext.alloc _ _).trans (Ext.alloc _ _)
  have c0 : W.cell? ⟨w.heap.size, 0, none⟩ = some (.slice A n c) := by rw [← hW]; exact (Ext.alloc _ _).cell (cell_new w _ _ 0)
  have c1 : W.cell? ⟨w.heap.size, 1, none⟩ = some (.slice A2 n2 c2) := by rw [← hW]; exact (Ext.alloc _ _).cell (cell_new w _ _ 1)
  have d0 : W.cell? ⟨w.heap.size + 1, 0, none⟩ = some (.slice B m d) := by rw [← hW]; have := cell_new (w.alloc (.cells #[.slice A n c, .slice A2 n2 c2] 35)) #[.slice B m d, .slice B2 m2 d2] 35 0; simpa using this
  have d1 : W.cell? ⟨w.heap.size + 1, 1, none⟩ = some (.slice B2 m2 d2) := by rw [← hW]; have := cell_new (w.alloc (.cells #[.slice A n c, .slice A2 n2 c2] 35)) #[.slice B m d, .slice B2 m2 d2] 35 1; simpa using this
  obtain ⟨q, hq⟩ : ∃ q, (s.d == t.d) = q := ⟨_, rfl⟩
  have HQ := Lib.hid hq
  cases q with
  | false =>
    obtain rfl : r = false := by rw [← hr.out, decide_eq_false_iff_not, st_eq]; exact fun h => by rw [h.1] at hq; simp at hq
    clear hr hq
    go_enter Try.func59, Try.ntmps59
    go_wp2_with fail
    refine (bytes_Equal A n c s.d B m d t.d _ (h1.ext g0) (h2.ext g0)).mono ?_
    rintro e w2 ⟨rfl, rfl⟩
    rw [HQ.out]
    go_wp2_with fail
    go_ret
    exact ⟨rfl, g0⟩
  | true =>
    have hr2 : Hid (decide (s.sn = t.sn) = r) := by
      unfold Hid
      rw [← hr.out, decide_eq_decide, st_eq]
      exact ⟨fun h => ⟨eq_of_beq hq, h⟩, fun h => h.2⟩
    clear hr hq
    go_enter Try.func59, Try.ntmps59
    go_wp2_with fail
    refine (bytes_Equal A n c s.d B m d t.d _ (h1.ext g0) (h2.ext g0)).mono ?_
    rintro e w2 ⟨rfl, rfl⟩
    rw [HQ.out]
    go_wp2_with fail
    refine (equal_olds (l1.ext ol_rep g0) (l2.ext ol_rep g0) hr2 _ rfl).mono ?_
    rintro e w2 ⟨rfl, h3⟩
    go_wp2_with fail
    go_ret
    exact ⟨rfl, g0.trans h3⟩
end Go.Proofs.Ytcklkjklepmabaa
