/-
  Events: contracts of the program's span, Name, and of both texts' Same.
-/
import Derived.Test.YtcklkjklepmabaaZCore
namespace Go.Proofs.Ytcklkjklepmabaa
open Go.RowKit
set_option linter.unusedVariables false
set_option linter.unusedSimpArgs false
set_option linter.unnecessarySimpa false
set_option maxRecDepth 100000

theorem event_span (a n : Int) (w : World) :
    Calls Try.prog 66 #[.int .i64 a, .int .i64 n] w fun e w' => e = .returned (.bool (within a n)) ∧ w = w' := by
  go_enter Try.func66, Try.ntmps66
  go_wp2
  all_goals (go_ret; exact ⟨ret_bool (by unfold within; by_cases q1 : 0 ≤ a <;> by_cases q2 : 1 ≤ n <;> by_cases q3 : n ≤ 512 <;> by_cases q4 : a ≤ 512 - n <;> simp_all <;> omega), rfl⟩)

theorem event_Name (s : ByteArray) (w : World) (hs : s.size ≤ maxLen) :
    Calls Try.prog 45 #[.string s] w fun e w' => e = .returned (.bool (nameB s)) ∧ w = w' := by
  unfold maxLen at hs
  by_cases h1 : s.size < 1
  · have hn : Hid (nameB s = false) := by unfold Hid nameB; simp; omega
    go_enter Try.func45, Try.ntmps45
    go_wp2
    go_ret
    exact ⟨ret_bool hn.out.symm, rfl⟩
  by_cases h2 : 12 < s.size
  · have hn : Hid (nameB s = false) := by unfold Hid nameB; simp; omega
    go_enter Try.func45, Try.ntmps45
    go_wp2
    go_ret
    exact ⟨ret_bool hn.out.symm, rfl⟩
  go_enter Try.func45, Try.ntmps45
  go_wp2
  go_loop [15] (fun i => ∃ k : Nat, k ≤ s.size ∧ i = .int .i64 k ∧ Hid (∀ j (hj : j < s.size), j < k → nameC s[j] = true)) (fun i => s.size - (intOf i).toNat)
  case atStart => exact ⟨0, by omega, rfl, by intro j hj hj2; omega⟩
  case round =>
    obtain ⟨k, hk, rfl, hall⟩ := hrel
    by_cases hlt : k < s.size
    · cases hc : nameC s[k] with
      | true =>
        have hc2 := Lib.hid hc
        unfold nameC at hc
        simp only [decide_eq_true_eq] at hc
        go_wp2
        all_goals first
          | (go_round
             case rel => exact ⟨k + 1, by omega, by go_num, by
               intro j hj hj2
               by_cases e : j = k
               · subst e; exact hc2.out
               · exact hall j hj (by omega)⟩
             case measure => simp [intOf]; omega)
          | (exfalso; simp at *; omega)
      | false =>
        have hn := Lib.hid (nameB_no k hlt hc)
        unfold nameC at hc
        simp only [decide_eq_false_iff_not] at hc
        go_wp2
        all_goals first
          | (go_ret; exact ⟨ret_bool hn.out.symm, rfl⟩)
          | (exfalso; simp at *; omega)
    · have hv := Lib.hid (nameB_all fun j hj => hall j hj (by omega))
      clear hall
      go_wp2
      go_ret
      exact ⟨ret_bool (by rw [hv.out]; simp; omega), rfl⟩
end Go.Proofs.Ytcklkjklepmabaa
