/-
  Names: contracts of the program's and of the reference's Name, where nothing of spans is there.
-/
import Derived.Test.YtoeknbogaclfdaaZCore
namespace Go.Proofs.Ytoeknbogaclfdaa
open Go.RowKit
set_option linter.unusedVariables false
set_option linter.unusedSimpArgs false
set_option linter.unnecessarySimpa false
set_option maxRecDepth 100000

def nameC (b : UInt8) : Bool := decide (97 ≤ b.toNat ∧ b.toNat ≤ 122 ∨ 48 ≤ b.toNat ∧ b.toNat ≤ 57 ∨ b.toNat = 45)
def nameB (s : ByteArray) : Bool := decide (1 ≤ s.size) && decide (s.size ≤ 12) && s.data.toList.all nameC

theorem ret_bool {a b : Bool} (h : a = b) : Ending.returned (.bool a) = .returned (.bool b) := by rw [h]
theorem nameC_yes {b : UInt8} (h : 97 ≤ (b.toNat : Int) ∧ (b.toNat : Int) ≤ 122 ∨ 48 ≤ (b.toNat : Int) ∧ (b.toNat : Int) ≤ 57 ∨ (b.toNat : Int) = 45) : nameC b = true := by
  unfold nameC
  simp only [decide_eq_true_eq]
  omega
theorem nameC_no {b : UInt8} (h : ¬(97 ≤ (b.toNat : Int) ∧ (b.toNat : Int) ≤ 122 ∨ 48 ≤ (b.toNat : Int) ∧ (b.toNat : Int) ≤ 57 ∨ (b.toNat : Int) = 45)) : nameC b = false := by
  unfold nameC
  simp only [decide_eq_false_iff_not]
  omega
theorem nameB_no {s : ByteArray} (k : Nat) (hk : k < s.size) (h : nameC s[k] = false) : nameB s = false := by
  unfold nameB
  have : s.data.toList.all nameC = false := by
    rw [List.all_eq_false]
    refine ⟨s[k], ?_, by rw [h]; simp⟩
    exact Array.mem_toList_iff.2 (Array.getElem_mem (xs := s.data) hk)
  rw [this, Bool.and_false]
theorem nameB_all {s : ByteArray} (h : ∀ j (hj : j < s.size), nameC s[j] = true) : nameB s = (decide (1 ≤ s.size) && decide (s.size ≤ 12)) := by
  unfold nameB
  have : s.data.toList.all nameC = true := by
    rw [List.all_eq_true]
    intro x hx
    obtain ⟨j, hj, rfl⟩ := List.getElem_of_mem hx
    exact h j (by simpa using hj)
  rw [this, Bool.and_true]

theorem ref_Name (s : ByteArray) (w : World) (hs : s.size ≤ maxLen) :
    Calls Try.prog 93 #[.string s] w fun e w' => e = .returned (.bool (nameB s)) ∧ w = w' := by
  unfold maxLen at hs
  go_enter Try.func93, Try.ntmps93
  go_wp2
  go_loop [3] (fun i => ∃ k : Nat, k ≤ s.size ∧ i = .int .i64 k ∧ Hid (∀ j (hj : j < s.size), j < k → nameC s[j] = true)) (fun i => s.size - (intOf i).toNat)
  case atStart => exact ⟨0, by omega, rfl, by intro j hj hj2; omega⟩
  case round =>
    obtain ⟨k, hk, rfl, hall⟩ := hrel
    by_cases hlt : k < s.size
    · cases hc : nameC s[k] with
      | true =>
        have hc2 := Lib.hid hc
        unfold nameC at hc
        simp only [decide_eq_true_eq] at hc
        go_wp2
        all_goals first
          | (go_round
             case rel => exact ⟨k + 1, by omega, by go_num, by
               intro j hj hj2
               by_cases e : j = k
               · subst e; exact hc2.out
               · exact hall j hj (by omega)⟩
             case measure => simp [intOf]; omega)
          | (exfalso; simp at *; omega)
      | false =>
        have hn := Lib.hid (nameB_no k hlt hc)
        unfold nameC at hc
        simp only [decide_eq_false_iff_not] at hc
        go_wp2
        all_goals first
          | (go_ret; exact ⟨ret_bool hn.out.symm, rfl⟩)
          | (exfalso; simp at *; omega)
    · have hv := Lib.hid (nameB_all fun j hj => hall j hj (by omega))
      clear hall
      go_wp2
      all_goals (go_ret; exact ⟨ret_bool (by rw [hv.out]; by_cases q1 : 1 ≤ s.size <;> by_cases q2 : s.size ≤ 12 <;> simp_all <;> omega), rfl⟩)
theorem event_Name (s : ByteArray) (w : World) (hs : s.size ≤ maxLen) :
    Calls Try.prog 103 #[.string s] w fun e w' => e = .returned (.bool (nameB s)) ∧ w = w' := by
  unfold maxLen at hs
  by_cases h1 : s.size < 1
  · have hn : Hid (nameB s = false) := by unfold Hid nameB; simp; omega
    go_enter Try.func103, Try.ntmps103
    go_wp2
    go_ret
    exact ⟨ret_bool hn.out.symm, rfl⟩
  by_cases h2 : 12 < s.size
  · have hn : Hid (nameB s = false) := by unfold Hid nameB; simp; omega
    go_enter Try.func103, Try.ntmps103
    go_wp2
    go_ret
    exact ⟨ret_bool hn.out.symm, rfl⟩
  go_enter Try.func103, Try.ntmps103
  go_wp2
  go_loop [15] (fun i => ∃ k : Nat, k ≤ s.size ∧ i = .int .i64 k ∧ Hid (∀ j (hj : j < s.size), j < k → nameC s[j] = true)) (fun i => s.size - (intOf i).toNat)
  case atStart => exact ⟨0, by omega, rfl, by intro j hj hj2; omega⟩
  case round =>
    obtain ⟨k, hk, rfl, hall⟩ := hrel
    by_cases hlt : k < s.size
    · cases hc : nameC s[k] with
      | true =>
        have hc2 := Lib.hid hc
        unfold nameC at hc
        simp only [decide_eq_true_eq] at hc
        go_wp2
        all_goals first
          | (go_round
             case rel => exact ⟨k + 1, by omega, by go_num, by
               intro j hj hj2
               by_cases e : j = k
               · subst e; exact hc2.out
               · exact hall j hj (by omega)⟩
             case measure => simp [intOf]; omega)
          | (exfalso; simp at *; omega)
      | false =>
        have hn := Lib.hid (nameB_no k hlt hc)
        unfold nameC at hc
        simp only [decide_eq_false_iff_not] at hc
        go_wp2
        all_goals first
          | (go_ret; exact ⟨ret_bool hn.out.symm, rfl⟩)
          | (exfalso; simp at *; omega)
    · have hv := Lib.hid (nameB_all fun j hj => hall j hj (by omega))
      clear hall
      go_wp2
      go_ret
      exact ⟨ret_bool (by rw [hv.out]; simp; omega), rfl⟩
end Go.Proofs.Ytoeknbogaclfdaa
