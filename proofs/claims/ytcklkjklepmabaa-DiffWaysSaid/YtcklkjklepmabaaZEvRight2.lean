/-
  Events: contract of the program's Right.
-/
import Derived.Test.YtcklkjklepmabaaZEvSameE
namespace Go.Proofs.Ytcklkjklepmabaa
open Go.RowKit
set_option linter.unusedVariables false
set_option linter.unusedSimpArgs false
set_option linter.unnecessarySimpa false
set_option maxRecDepth 100000

theorem none_list : (⟨#[]⟩ : ByteArray).toList = [] := by simp
theorem right_1 (o m : Int) (l : List UInt8) (s : ByteArray) : rightE 1 o m l.length s = (sameE 1 o m l s 1 o 0 l ⟨#[]⟩ && (decide (l.length ≤ 64) && within o l.length)) := by
  unfold rightE sameE
  rw [none_list]
  generalize s.toList = t
  by_cases a : m = 0 <;> by_cases b : l.length ≤ 64 <;> cases within o l.length <;> cases t <;> simp [a, b]
theorem right_23 (k o m : Int) (hk : k = 2 ∨ k = 3) (l : List UInt8) (s : ByteArray) : rightE k o m l.length s = (sameE k o m l s k o m [] ⟨#[]⟩ && within o m) := by
  unfold rightE sameE
  rw [none_list, if_neg (by omega), if_pos hk]
  generalize s.toList = t
  cases within o m <;> cases t <;> cases l <;> simp
theorem right_4 (o m : Int) (l : List UInt8) (s : ByteArray) : rightE 4 o m l.length s = (sameE 4 o m l s 4 0 m [] ⟨#[]⟩ && (decide (0 ≤ m) && decide (m ≤ 512))) := by
  unfold rightE sameE
  rw [none_list]
  generalize s.toList = t
  by_cases a : o = 0 <;> by_cases b : 0 ≤ m <;> by_cases c : m ≤ 512 <;> cases t <;> cases l <;> simp [a, b, c]
theorem right_567 (k o m : Int) (hk : k = 5 ∨ k = 6 ∨ k = 7) (l : List UInt8) (s : ByteArray) : rightE k o m l.length s = (sameE k o m l s k 0 0 [] s && nameB s) := by
  unfold rightE sameE
  rw [if_neg (by omega), if_neg (by omega), if_neg (by omega), if_pos hk]
  by_cases a : o = 0 <;> by_cases b : m = 0 <;> cases nameB s <;> cases l <;> simp [a, b]
theorem right_8 (o m : Int) (l : List UInt8) (s : ByteArray) : rightE 8 o m l.length s = (sameE 8 o m l s 8 0 0 [] ⟨#[]⟩ && true) := by
  unfold rightE sameE
  rw [none_list]
  generalize s.toList = t
  by_cases a : o = 0 <;> by_cases b : m = 0 <;> cases t <;> cases l <;> simp [a, b]

theorem event_Same_at {k o m : Int} {A : Option Addr} {n c : Nat} {l : List UInt8} {s : ByteArray} {k' o' m' : Int} {A' : Option Addr} {n' c' : Nat} {l' : List UInt8} {s' : ByteArray} {w0 w : World} (hx : Ext w0 w) (h1 : Sl w0 A n c l) (h2 : Sl w0 A' n' c' l') {r : Bool} (hr : Hid (sameE k o m l s k' o' m' l' s' = r)) :
    Calls Try.prog 38 #[evV k o m A n c s, evV k' o' m' A' n' c' s'] w fun e w' => e = .returned (.bool r) ∧ Ext w0 w' := by
  have := event_Same k o m A n c l s k' o' m' A' n' c' l' s' w (h1.ext hx) (h2.ext hx)
  rw [hr.out] at this
  exact this.mono fun _ _ ⟨a, b⟩ => ⟨a, hx.trans b⟩

set_option maxHeartbeats 4000000 in
theorem event_Right (k o m : Int) (A : Option Addr) (n c : Nat) (l : List UInt8) (s : ByteArray) (w : World) (h1 : Sl w A n c l) (hs : s.size ≤ maxLen) :
    Calls Try.prog 35 #[evV k o m A n c s] w fun e w' => e = .returned (.bool (rightE k o m n s)) ∧ Ext w w' := by
  have h63 := h1.n63
  have hln : l.length = n := h1.len
  by_cases k1 : k = 1
  · subst k1
    obtain ⟨r, hr⟩ : ∃ r, sameE 1 o m l s 1 o 0 l ⟨#[]⟩ = r := ⟨_, rfl⟩
    have HS := Lib.hid hr
    obtain ⟨v, hv⟩ : ∃ v, rightE 1 o m n s = v := ⟨_, rfl⟩
    have HV : Hid (v = (r && (decide (n ≤ 64) && within o n))) := by
      unfold Hid
      rw [← hv, ← hr, ← hln]
      exact right_1 o m l s
    rw [hv]
    clear hr hv
    go_enter Try.func35, Try.ntmps35
    go_wp2_with fail
    go_region
    go_wp2_with fail
    refine (event_Same_at (w0 := w.alloc (.cells #[.int .i64 1, .int .i64 o, .int .i64 m, .slice A n c, .string s] 28)) ?hx (h1.ext (Ext.alloc _ _)) (h1.ext (Ext.alloc _ _)) HS).mono ?_
    case hx => first | exact Ext.alloc _ _ | exact Below.setCell (Ext.alloc _ _) (Nat.le_refl _) _ | exact Below.setCell (Below.setCell (Ext.alloc _ _) (Nat.le_refl _) _) (Nat.le_refl _) _ | exact (Ext.alloc _ _).trans (Ext.drew _)
    rintro e w1 ⟨rfl, hx1⟩
    have c0 := hx1.cell (cell_new w #[.int .i64 1, .int .i64 o, .int .i64 m, .slice A n c, .string s] 28 0)
    have c1 := hx1.cell (cell_new w #[.int .i64 1, .int .i64 o, .int .i64 m, .slice A n c, .string s] 28 1)
    have c2 := hx1.cell (cell_new w #[.int .i64 1, .int .i64 o, .int .i64 m, .slice A n c, .string s] 28 2)
    have c3 := hx1.cell (cell_new w #[.int .i64 1, .int .i64 o, .int .i64 m, .slice A n c, .string s] 28 3)
    have c4 := hx1.cell (cell_new w #[.int .i64 1, .int .i64 o, .int .i64 m, .slice A n c, .string s] 28 4)
    have hx2 : Ext w w1 := (Ext.alloc w _).trans hx1
    clear hx1
    cases r with
    | false =>
      have hvf : Hid (v = false) := by have b := HV.out; rwa [Bool.false_and] at b
      go_wp2_with fail
      go_ret
      exact ⟨ret_bool hvf.out.symm, hx2⟩
    | true =>
      go_wp2_with (first | (go_at_call 66; refine (event_span _ _ _).mono ?_; rintro e w2 ⟨rfl, rfl⟩) | (go_at_call 45; refine (event_Name _ _ hs).mono ?_; rintro e w2 ⟨rfl, rfl⟩))
      all_goals (go_ret; refine ⟨ret_bool ?_, hx2⟩; ((repeat (rename_i x; first | (have _t := fun (a : Act) (w : World) => x a w; clear _t x) | (have _t := fun (e : Exit) (a : Act) (w : World) => x e a w; clear _t x) | revert x)); intros); have b := HV.out; rw [Bool.true_and] at b; refine Eq.trans ?_ b.symm; clear c0 c1 c2 c3 c4 hx2 HV HS b hln; first | rfl | (simp [*]; done) | (simp [*]; omega))
  by_cases k2 : k = 2
  · subst k2
    obtain ⟨r, hr⟩ : ∃ r, sameE 2 o m l s 2 o m [] ⟨#[]⟩ = r := ⟨_, rfl⟩
    have HS := Lib.hid hr
    obtain ⟨v, hv⟩ : ∃ v, rightE 2 o m n s = v := ⟨_, rfl⟩
    have HV : Hid (v = (r && within o m)) := by
      unfold Hid
      rw [← hv, ← hr, ← hln]
      exact right_23 2 o m (by omega) l s
    rw [hv]
    clear hr hv
    go_enter Try.func35, Try.ntmps35
    go_wp2_with fail
    go_region
    go_wp2_with fail
    refine (event_Same_at (w0 := w.alloc (.cells #[.int .i64 2, .int .i64 o, .int .i64 m, .slice A n c, .string s] 28)) ?hx (h1.ext (Ext.alloc _ _)) (Sl.nil _) HS).mono ?_
    case hx => first | exact Ext.alloc _ _ | exact Below.setCell (Ext.alloc _ _) (Nat.le_refl _) _ | exact Below.setCell (Below.setCell (Ext.alloc _ _) (Nat.le_refl _) _) (Nat.le_refl _) _ | exact (Ext.alloc _ _).trans (Ext.drew _)
    rintro e w1 ⟨rfl, hx1⟩
    have c0 := hx1.cell (cell_new w #[.int .i64 2, .int .i64 o, .int .i64 m, .slice A n c, .string s] 28 0)
    have c1 := hx1.cell (cell_new w #[.int .i64 2, .int .i64 o, .int .i64 m, .slice A n c, .string s] 28 1)
    have c2 := hx1.cell (cell_new w #[.int .i64 2, .int .i64 o, .int .i64 m, .slice A n c, .string s] 28 2)
    have c3 := hx1.cell (cell_new w #[.int .i64 2, .int .i64 o, .int .i64 m, .slice A n c, .string s] 28 3)
    have c4 := hx1.cell (cell_new w #[.int .i64 2, .int .i64 o, .int .i64 m, .slice A n c, .string s] 28 4)
    have hx2 : Ext w w1 := (Ext.alloc w _).trans hx1
    clear hx1
    cases r with
    | false =>
      have hvf : Hid (v = false) := by have b := HV.out; rwa [Bool.false_and] at b
      go_wp2_with fail
      go_ret
      exact ⟨ret_bool hvf.out.symm, hx2⟩
    | true =>
      go_wp2_with (first | (go_at_call 66; refine (event_span _ _ _).mono ?_; rintro e w2 ⟨rfl, rfl⟩) | (go_at_call 45; refine (event_Name _ _ hs).mono ?_; rintro e w2 ⟨rfl, rfl⟩))
      all_goals (go_ret; refine ⟨ret_bool ?_, hx2⟩; ((repeat (rename_i x; first | (have _t := fun (a : Act) (w : World) => x a w; clear _t x) | (have _t := fun (e : Exit) (a : Act) (w : World) => x e a w; clear _t x) | revert x)); intros); have b := HV.out; rw [Bool.true_and] at b; refine Eq.trans ?_ b.symm; clear c0 c1 c2 c3 c4 hx2 HV HS b hln; first | rfl | (simp [*]; done) | (simp [*]; omega))
  by_cases k3 : k = 3
  · subst k3
    obtain ⟨r, hr⟩ : ∃ r, sameE 3 o m l s 3 o m [] ⟨#[]⟩ = r := ⟨_, rfl⟩
    have HS := Lib.hid hr
    obtain ⟨v, hv⟩ : ∃ v, rightE 3 o m n s = v := ⟨_, rfl⟩
    have HV : Hid (v = (r && within o m)) := by
      unfold Hid
      rw [← hv, ← hr, ← hln]
      exact right_23 3 o m (by omega) l s
    rw [hv]
    clear hr hv
    go_enter Try.func35, Try.ntmps35
    go_wp2_with fail
    go_region
    go_wp2_with fail
    refine (event_Same_at (w0 := w.alloc (.cells #[.int .i64 3, .int .i64 o, .int .i64 m, .slice A n c, .string s] 28)) ?hx (h1.ext (Ext.alloc _ _)) (Sl.nil _) HS).mono ?_
    case hx => first | exact Ext.alloc _ _ | exact Below.setCell (Ext.alloc _ _) (Nat.le_refl _) _ | exact Below.setCell (Below.setCell (Ext.alloc _ _) (Nat.le_refl _) _) (Nat.le_refl _) _ | exact (Ext.alloc _ _).trans (Ext.drew _)
    rintro e w1 ⟨rfl, hx1⟩
    have c0 := hx1.cell (cell_new w #[.int .i64 3, .int .i64 o, .int .i64 m, .slice A n c, .string s] 28 0)
    have c1 := hx1.cell (cell_new w #[.int .i64 3, .int .i64 o, .int .i64 m, .slice A n c, .string s] 28 1)
    have c2 := hx1.cell (cell_new w #[.int .i64 3, .int .i64 o, .int .i64 m, .slice A n c, .string s] 28 2)
    have c3 := hx1.cell (cell_new w #[.int .i64 3, .int .i64 o, .int .i64 m, .slice A n c, .string s] 28 3)
    have c4 := hx1.cell (cell_new w #[.int .i64 3, .int .i64 o, .int .i64 m, .slice A n c, .string s] 28 4)
    have hx2 : Ext w w1 := (Ext.alloc w _).trans hx1
    clear hx1
    cases r with
    | false =>
      have hvf : Hid (v = false) := by have b := HV.out; rwa [Bool.false_and] at b
      go_wp2_with fail
      go_ret
      exact ⟨ret_bool hvf.out.symm, hx2⟩
    | true =>
      go_wp2_with (first | (go_at_call 66; refine (event_span _ _ _).mono ?_; rintro e w2 ⟨rfl, rfl⟩) | (go_at_call 45; refine (event_Name _ _ hs).mono ?_; rintro e w2 ⟨rfl, rfl⟩))
      all_goals (go_ret; refine ⟨ret_bool ?_, hx2⟩; ((repeat (rename_i x; first | (have _t := fun (a : Act) (w : World) => x a w; clear _t x) | (have _t := fun (e : Exit) (a : Act) (w : World) => x e a w; clear _t x) | revert x)); intros); have b := HV.out; rw [Bool.true_and] at b; refine Eq.trans ?_ b.symm; clear c0 c1 c2 c3 c4 hx2 HV HS b hln; first | rfl | (simp [*]; done) | (simp [*]; omega))
  by_cases k4 : k = 4
  · subst k4
    obtain ⟨r, hr⟩ : ∃ r, sameE 4 o m l s 4 0 m [] ⟨#[]⟩ = r := ⟨_, rfl⟩
    have HS := Lib.hid hr
    obtain ⟨v, hv⟩ : ∃ v, rightE 4 o m n s = v := ⟨_, rfl⟩
    have HV : Hid (v = (r && (decide (0 ≤ m) && decide (m ≤ 512)))) := by
      unfold Hid
      rw [← hv, ← hr, ← hln]
      exact right_4 o m l s
    rw [hv]
    clear hr hv
    go_enter Try.func35, Try.ntmps35
    go_wp2_with fail
    refine (event_Same_at (w0 := w.alloc (.cells #[.int .i64 4, .int .i64 o, .int .i64 m, .slice A n c, .string s] 28)) ?hx (h1.ext (Ext.alloc _ _)) (Sl.nil _) HS).mono ?_
    case hx => first | exact Ext.alloc _ _ | exact Below.setCell (Ext.alloc _ _) (Nat.le_refl _) _ | exact Below.setCell (Below.setCell (Ext.alloc _ _) (Nat.le_refl _) _) (Nat.le_refl _) _ | exact (Ext.alloc _ _).trans (Ext.drew _)
    rintro e w1 ⟨rfl, hx1⟩
    have c0 := hx1.cell (cell_new w #[.int .i64 4, .int .i64 o, .int .i64 m, .slice A n c, .string s] 28 0)
    have c1 := hx1.cell (cell_new w #[.int .i64 4, .int .i64 o, .int .i64 m, .slice A n c, .string s] 28 1)
    have c2 := hx1.cell (cell_new w #[.int .i64 4, .int .i64 o, .int .i64 m, .slice A n c, .string s] 28 2)
    have c3 := hx1.cell (cell_new w #[.int .i64 4, .int .i64 o, .int .i64 m, .slice A n c, .string s] 28 3)
    have c4 := hx1.cell (cell_new w #[.int .i64 4, .int .i64 o, .int .i64 m, .slice A n c, .string s] 28 4)
    have hx2 : Ext w w1 := (Ext.alloc w _).trans hx1
    clear hx1
    cases r with
    | false =>
      have hvf : Hid (v = false) := by have b := HV.out; rwa [Bool.false_and] at b
      go_wp2_with fail
      go_ret
      exact ⟨ret_bool hvf.out.symm, hx2⟩
    | true =>
      go_wp2_with (first | (go_at_call 66; refine (event_span _ _ _).mono ?_; rintro e w2 ⟨rfl, rfl⟩) | (go_at_call 45; refine (event_Name _ _ hs).mono ?_; rintro e w2 ⟨rfl, rfl⟩))
      all_goals (go_ret; refine ⟨ret_bool ?_, hx2⟩; ((repeat (rename_i x; first | (have _t := fun (a : Act) (w : World) => x a w; clear _t x) | (have _t := fun (e : Exit) (a : Act) (w : World) => x e a w; clear _t x) | revert x)); intros); have b := HV.out; rw [Bool.true_and] at b; refine Eq.trans ?_ b.symm; clear c0 c1 c2 c3 c4 hx2 HV HS b hln; first | rfl | (simp [*]; done) | (simp [*]; omega))
  by_cases k5 : k = 5
  · subst k5
    obtain ⟨r, hr⟩ : ∃ r, sameE 5 o m l s 5 0 0 [] s = r := ⟨_, rfl⟩
    have HS := Lib.hid hr
    obtain ⟨v, hv⟩ : ∃ v, rightE 5 o m n s = v := ⟨_, rfl⟩
    have HV : Hid (v = (r && nameB s)) := by
      unfold Hid
      rw [← hv, ← hr, ← hln]
      exact right_567 5 o m (by omega) l s
    rw [hv]
    clear hr hv
    go_enter Try.func35, Try.ntmps35
    go_wp2_with fail
    refine (event_Same_at (w0 := w.alloc (.cells #[.int .i64 5, .int .i64 o, .int .i64 m, .slice A n c, .string s] 28)) ?hx (h1.ext (Ext.alloc _ _)) (Sl.nil _) HS).mono ?_
    case hx => first | exact Ext.alloc _ _ | exact Below.setCell (Ext.alloc _ _) (Nat.le_refl _) _ | exact Below.setCell (Below.setCell (Ext.alloc _ _) (Nat.le_refl _) _) (Nat.le_refl _) _ | exact (Ext.alloc _ _).trans (Ext.drew _)
    rintro e w1 ⟨rfl, hx1⟩
    have c0 := hx1.cell (cell_new w #[.int .i64 5, .int .i64 o, .int .i64 m, .slice A n c, .string s] 28 0)
    have c1 := hx1.cell (cell_new w #[.int .i64 5, .int .i64 o, .int .i64 m, .slice A n c, .string s] 28 1)
    have c2 := hx1.cell (cell_new w #[.int .i64 5, .int .i64 o, .int .i64 m, .slice A n c, .string s] 28 2)
    have c3 := hx1.cell (cell_new w #[.int .i64 5, .int .i64 o, .int .i64 m, .slice A n c, .string s] 28 3)
    have c4 := hx1.cell (cell_new w #[.int .i64 5, .int .i64 o, .int .i64 m, .slice A n c, .string s] 28 4)
    have hx2 : Ext w w1 := (Ext.alloc w _).trans hx1
    clear hx1
    cases r with
    | false =>
      have hvf : Hid (v = false) := by have b := HV.out; rwa [Bool.false_and] at b
      go_wp2_with fail
      go_ret
      exact ⟨ret_bool hvf.out.symm, hx2⟩
    | true =>
      go_wp2_with (first | (go_at_call 66; refine (event_span _ _ _).mono ?_; rintro e w2 ⟨rfl, rfl⟩) | (go_at_call 45; refine (event_Name _ _ hs).mono ?_; rintro e w2 ⟨rfl, rfl⟩))
      all_goals (go_ret; refine ⟨ret_bool ?_, hx2⟩; ((repeat (rename_i x; first | (have _t := fun (a : Act) (w : World) => x a w; clear _t x) | (have _t := fun (e : Exit) (a : Act) (w : World) => x e a w; clear _t x) | revert x)); intros); have b := HV.out; rw [Bool.true_and] at b; refine Eq.trans ?_ b.symm; clear c0 c1 c2 c3 c4 hx2 HV HS b hln; first | rfl | (simp [*]; done) | (simp [*]; omega))
  by_cases k6 : k = 6
  · subst k6
    obtain ⟨r, hr⟩ : ∃ r, sameE 6 o m l s 6 0 0 [] s = r := ⟨_, rfl⟩
    have HS := Lib.hid hr
    obtain ⟨v, hv⟩ : ∃ v, rightE 6 o m n s = v := ⟨_, rfl⟩
    have HV : Hid (v = (r && nameB s)) := by
      unfold Hid
      rw [← hv, ← hr, ← hln]
      exact right_567 6 o m (by omega) l s
    rw [hv]
    clear hr hv
    go_enter Try.func35, Try.ntmps35
    go_wp2_with fail
    refine (event_Same_at (w0 := w.alloc (.cells #[.int .i64 6, .int .i64 o, .int .i64 m, .slice A n c, .string s] 28)) ?hx (h1.ext (Ext.alloc _ _)) (Sl.nil _) HS).mono ?_
    case hx => first | exact Ext.alloc _ _ | exact Below.setCell (Ext.alloc _ _) (Nat.le_refl _) _ | exact Below.setCell (Below.setCell (Ext.alloc _ _) (Nat.le_refl _) _) (Nat.le_refl _) _ | exact (Ext.alloc _ _).trans (Ext.drew _)
    rintro e w1 ⟨rfl, hx1⟩
    have c0 := hx1.cell (cell_new w #[.int .i64 6, .int .i64 o, .int .i64 m, .slice A n c, .string s] 28 0)
    have c1 := hx1.cell (cell_new w #[.int .i64 6, .int .i64 o, .int .i64 m, .slice A n c, .string s] 28 1)
    have c2 := hx1.cell (cell_new w #[.int .i64 6, .int .i64 o, .int .i64 m, .slice A n c, .string s] 28 2)
    have c3 := hx1.cell (cell_new w #[.int .i64 6, .int .i64 o, .int .i64 m, .slice A n c, .string s] 28 3)
    have c4 := hx1.cell (cell_new w #[.int .i64 6, .int .i64 o, .int .i64 m, .slice A n c, .string s] 28 4)
    have hx2 : Ext w w1 := (Ext.alloc w _).trans hx1
    clear hx1
    cases r with
    | false =>
      have hvf : Hid (v = false) := by have b := HV.out; rwa [Bool.false_and] at b
      go_wp2_with fail
      go_ret
      exact ⟨ret_bool hvf.out.symm, hx2⟩
    | true =>
      go_wp2_with (first | (go_at_call 66; refine (event_span _ _ _).mono ?_; rintro e w2 ⟨rfl, rfl⟩) | (go_at_call 45; refine (event_Name _ _ hs).mono ?_; rintro e w2 ⟨rfl, rfl⟩))
      all_goals (go_ret; refine ⟨ret_bool ?_, hx2⟩; ((repeat (rename_i x; first | (have _t := fun (a : Act) (w : World) => x a w; clear _t x) | (have _t := fun (e : Exit) (a : Act) (w : World) => x e a w; clear _t x) | revert x)); intros); have b := HV.out; rw [Bool.true_and] at b; refine Eq.trans ?_ b.symm; clear c0 c1 c2 c3 c4 hx2 HV HS b hln; first | rfl | (simp [*]; done) | (simp [*]; omega))
  by_cases k7 : k = 7
  · subst k7
    obtain ⟨r, hr⟩ : ∃ r, sameE 7 o m l s 7 0 0 [] s = r := ⟨_, rfl⟩
    have HS := Lib.hid hr
    obtain ⟨v, hv⟩ : ∃ v, rightE 7 o m n s = v := ⟨_, rfl⟩
    have HV : Hid (v = (r && nameB s)) := by
      unfold Hid
      rw [← hv, ← hr, ← hln]
      exact right_567 7 o m (by omega) l s
    rw [hv]
    clear hr hv
    go_enter Try.func35, Try.ntmps35
    go_wp2_with fail
    refine (event_Same_at (w0 := w.alloc (.cells #[.int .i64 7, .int .i64 o, .int .i64 m, .slice A n c, .string s] 28)) ?hx (h1.ext (Ext.alloc _ _)) (Sl.nil _) HS).mono ?_
    case hx => first | exact Ext.alloc _ _ | exact Below.setCell (Ext.alloc _ _) (Nat.le_refl _) _ | exact Below.setCell (Below.setCell (Ext.alloc _ _) (Nat.le_refl _) _) (Nat.le_refl _) _ | exact (Ext.alloc _ _).trans (Ext.drew _)
    rintro e w1 ⟨rfl, hx1⟩
    have c0 := hx1.cell (cell_new w #[.int .i64 7, .int .i64 o, .int .i64 m, .slice A n c, .string s] 28 0)
    have c1 := hx1.cell (cell_new w #[.int .i64 7, .int .i64 o, .int .i64 m, .slice A n c, .string s] 28 1)
    have c2 := hx1.cell (cell_new w #[.int .i64 7, .int .i64 o, .int .i64 m, .slice A n c, .string s] 28 2)
    have c3 := hx1.cell (cell_new w #[.int .i64 7, .int .i64 o, .int .i64 m, .slice A n c, .string s] 28 3)
    have c4 := hx1.cell (cell_new w #[.int .i64 7, .int .i64 o, .int .i64 m, .slice A n c, .string s] 28 4)
    have hx2 : Ext w w1 := (Ext.alloc w _).trans hx1
    clear hx1
    cases r with
    | false =>
      have hvf : Hid (v = false) := by have b := HV.out; rwa [Bool.false_and] at b
      go_wp2_with fail
      go_ret
      exact ⟨ret_bool hvf.out.symm, hx2⟩
    | true =>
      go_wp2_with (first | (go_at_call 66; refine (event_span _ _ _).mono ?_; rintro e w2 ⟨rfl, rfl⟩) | (go_at_call 45; refine (event_Name _ _ hs).mono ?_; rintro e w2 ⟨rfl, rfl⟩))
      all_goals (go_ret; refine ⟨ret_bool ?_, hx2⟩; ((repeat (rename_i x; first | (have _t := fun (a : Act) (w : World) => x a w; clear _t x) | (have _t := fun (e : Exit) (a : Act) (w : World) => x e a w; clear _t x) | revert x)); intros); have b := HV.out; rw [Bool.true_and] at b; refine Eq.trans ?_ b.symm; clear c0 c1 c2 c3 c4 hx2 HV HS b hln; first | rfl | (simp [*]; done) | (simp [*]; omega))
  by_cases k8 : k = 8
  · subst k8
    obtain ⟨r, hr⟩ : ∃ r, sameE 8 o m l s 8 0 0 [] ⟨#[]⟩ = r := ⟨_, rfl⟩
    have HS := Lib.hid hr
    obtain ⟨v, hv⟩ : ∃ v, rightE 8 o m n s = v := ⟨_, rfl⟩
    have HV : Hid (v = (r && true)) := by
      unfold Hid
      rw [← hv, ← hr, ← hln]
      exact right_8 o m l s
    rw [hv]
    clear hr hv
    go_enter Try.func35, Try.ntmps35
    go_wp2_with fail
    refine (event_Same_at (w0 := w.alloc (.cells #[.int .i64 8, .int .i64 o, .int .i64 m, .slice A n c, .string s] 28)) ?hx (h1.ext (Ext.alloc _ _)) (Sl.nil _) HS).mono ?_
    case hx => first | exact Ext.alloc _ _ | exact Below.setCell (Ext.alloc _ _) (Nat.le_refl _) _ | exact Below.setCell (Below.setCell (Ext.alloc _ _) (Nat.le_refl _) _) (Nat.le_refl _) _ | exact (Ext.alloc _ _).trans (Ext.drew _)
    rintro e w1 ⟨rfl, hx1⟩
    have c0 := hx1.cell (cell_new w #[.int .i64 8, .int .i64 o, .int .i64 m, .slice A n c, .string s] 28 0)
    have c1 := hx1.cell (cell_new w #[.int .i64 8, .int .i64 o, .int .i64 m, .slice A n c, .string s] 28 1)
    have c2 := hx1.cell (cell_new w #[.int .i64 8, .int .i64 o, .int .i64 m, .slice A n c, .string s] 28 2)
    have c3 := hx1.cell (cell_new w #[.int .i64 8, .int .i64 o, .int .i64 m, .slice A n c, .string s] 28 3)
    have c4 := hx1.cell (cell_new w #[.int .i64 8, .int .i64 o, .int .i64 m, .slice A n c, .string s] 28 4)
    have hx2 : Ext w w1 := (Ext.alloc w _).trans hx1
    clear hx1
    cases r with
    | false =>
      have hvf : Hid (v = false) := by have b := HV.out; rwa [Bool.false_and] at b
      go_wp2_with fail
      go_ret
      exact ⟨ret_bool hvf.out.symm, hx2⟩
    | true =>
      go_wp2_with (first | (go_at_call 66; refine (event_span _ _ _).mono ?_; rintro e w2 ⟨rfl, rfl⟩) | (go_at_call 45; refine (event_Name _ _ hs).mono ?_; rintro e w2 ⟨rfl, rfl⟩))
      all_goals (go_ret; refine ⟨ret_bool ?_, hx2⟩; ((repeat (rename_i x; first | (have _t := fun (a : Act) (w : World) => x a w; clear _t x) | (have _t := fun (e : Exit) (a : Act) (w : World) => x e a w; clear _t x) | revert x)); intros); have b := HV.out; rw [Bool.true_and] at b; refine Eq.trans ?_ b.symm; clear c0 c1 c2 c3 c4 hx2 HV HS b hln; first | rfl | (simp [*]; done) | (simp [*]; omega))
  have q1 : (k == 1) = false := by simp; omega
  have q2 : (k == 2) = false := by simp; omega
  have q3 : (k == 3) = false := by simp; omega
  have q4 : (k == 4) = false := by simp; omega
  have q5 : (k == 5) = false := by simp; omega
  have q6 : (k == 6) = false := by simp; omega
  have q7 : (k == 7) = false := by simp; omega
  have q8 : (k == 8) = false := by simp; omega
  have HR : Hid (rightE k o m n s = false) := by unfold Hid rightE; simp [*]
  go_enter Try.func35, Try.ntmps35
  go_wp2_with fail
  go_ret
  exact ⟨ret_bool HR.out.symm, (Ext.alloc w _).trans (Ext.alloc _ _)⟩
end Go.Proofs.Ytcklkjklepmabaa
