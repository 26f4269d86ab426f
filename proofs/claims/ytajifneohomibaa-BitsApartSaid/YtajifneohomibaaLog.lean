/-
  Contracts of the highest bit's place.
-/
import Derived.Test.YtajifneohomibaaVarPlain
import Derived.Test.YtajifneohomibaaLib
import Derived.Test.YtajifneohomibaaLen64
namespace Go.Proofs.Ytajifneohomibaa
open Go.RowKit
set_option linter.unusedVariables false
set_option maxRecDepth 100000
theorem ret_num' {k : IntKind} {a b : Int} (h : a = b) : Ending.returned (.int k a) = .returned (.int k b) := by rw [h]
def logI (n : Int) : Int := if n < 1 then -1 else (Nat.log2 n.toNat : Nat)
theorem bitLen_log2 : ∀ (x : Nat), 0 < x → x < 2 ^ 64 → Lib.bitLen x = Nat.log2 x + 1 := by
  intro x
  induction x using Nat.strongRecOn with
  | _ x ih =>
    intro h0 h64
    rw [Lib.bitLen_half x (by omega) h64, Nat.log2_def]
    by_cases h2 : 2 ≤ x
    · rw [if_pos h2, ih (x / 2) (by omega) (by omega) (by omega)]
      omega
    · have hx : x = 1 := by omega
      subst hx
      rfl

theorem bits_Log (n : Int) (w : World) (h1 : n ≤ 9223372036854775807) :
    Calls Try.prog 26 #[.int .i64 n] w fun e w' => e = .returned (.int .i64 (logI n)) ∧ w = w' := by
  obtain ⟨r, hr⟩ : ∃ r, logI n = r := ⟨_, rfl⟩
  rw [hr]
  by_cases hn : n < 1
  · have HR : Hid (r = -1) := by rw [← hr]; unfold logI; rw [if_pos hn]; rfl
    clear hr
    go_enter Try.func26, Try.ntmps26
    go_wp2
    go_ret
    rw [HR.out]
    exact ⟨rfl, rfl⟩
  · obtain ⟨m, rfl⟩ := Int.eq_ofNat_of_zero_le (by omega : 0 ≤ n)
    have hm : 1 ≤ m := by omega
    have hm2 : m < 9223372036854775808 := by omega
    obtain ⟨b, hb⟩ : ∃ b, Nat.log2 m = b := ⟨_, rfl⟩
    have HB : Hid (Lib.bitLen m = b + 1) := by rw [← hb]; exact bitLen_log2 m hm (by omega)
    have HR : Hid (r = (b : Int)) := by rw [← hr, ← hb]; unfold logI; rw [if_neg hn]; rfl
    have hb63 : b < 64 := by
      rw [← hb]
      exact (Nat.log2_lt (by omega)).2 (by omega)
    clear hr hb h1
    go_enter Try.func26, Try.ntmps26
    go_wp2_with fail
    refine (math_Len64 (m : Int) _ (by omega) (by omega)).mono ?_
    rintro e w1 ⟨rfl, rfl⟩
    rw [Int.toNat_natCast, HB.out]
    go_wp2_with fail
    go_ret
    rw [HR.out]
    exact ⟨ret_num' (by omega), rfl⟩

theorem ref_Log (n : Int) (w : World) (h1 : n ≤ 9223372036854775807) :
    Calls Try.prog 37 #[.int .i64 n] w fun e w' => e = .returned (.int .i64 (logI n)) ∧ w = w' := by
  obtain ⟨r, hr⟩ : ∃ r, logI n = r := ⟨_, rfl⟩
  rw [hr]
  by_cases hn : n < 1
  · have HR : Hid (r = -1) := by rw [← hr]; unfold logI; rw [if_pos hn]; rfl
    clear hr
    go_enter Try.func37, Try.ntmps37
    go_wp2
    go_loop [0, 3] (fun v i => v = .int .i64 n ∧ i = .int .i64 (-1)) (fun _ _ => 0)
    case atStart => exact ⟨rfl, rfl⟩
    case round =>
      obtain ⟨rfl, rfl⟩ := hrel
      go_wp2
      go_ret
      rw [HR.out]
      exact ⟨rfl, rfl⟩
  · obtain ⟨m, rfl⟩ := Int.eq_ofNat_of_zero_le (by omega : 0 ≤ n)
    have hm : 1 ≤ m := by omega
    have hm2 : m < 9223372036854775808 := by omega
    have HR : Hid (r = (Nat.log2 m : Int)) := by rw [← hr]; unfold logI; rw [if_neg hn]; rfl
    clear hr h1
    go_enter Try.func37, Try.ntmps37
    go_wp2
    go_loop [0, 3] (fun v i => ∃ (j q : Nat), j ≤ 64 ∧ q < 9223372036854775808 ∧ i = .int .i64 ((j : Int) - 1) ∧ v = .int .i64 q ∧ Hid (q = m / 2 ^ j) ∧ Hid (0 < j → 2 ^ (j - 1) ≤ m)) (fun v _ => (intOf v).toNat)
    case atStart => exact ⟨0, m, by omega, hm2, rfl, rfl, by simp [Hid], fun h => by omega⟩
    case round =>
      obtain ⟨j, q, hj, hq63, rfl, rfl, hq, hlow⟩ := hrel
      by_cases hq0 : 0 < q
      · have hle : 2 ^ j ≤ m := by
          have h1 := hq.out
          have h2 := Nat.two_pow_pos j
          rcases Nat.lt_or_ge m (2 ^ j) with h3 | h3
          · rw [Nat.div_eq_of_lt h3] at h1
            omega
          · exact h3
        have hj63 : j < 63 := by
          rcases Nat.lt_or_ge j 63 with h3 | h3
          · exact h3
          · have := Nat.pow_le_pow_right (n := 2) (by omega) h3
            omega
        have hle' := Lib.hid hle
        clear hle
        go_wp2
        go_round
        case rel =>
          refine ⟨j + 1, q / 2, by omega, by omega, by go_num, by simp, ?_, fun _ => hle'.out⟩
          unfold Hid
          rw [hq.out, Nat.div_div_eq_div_mul, Nat.pow_succ]
        case measure => simp [intOf]; omega
      · have hj0 : 0 < j := by
          rcases Nat.eq_zero_or_pos j with h3 | h3
          · have h1 := hq.out
            rw [h3] at h1
            simp at h1
            omega
          · exact h3
        have hlog : Hid (Nat.log2 m = j - 1) := by
          have h1 := hq.out
          have h2 : m < 2 ^ j := by
            have h3 : q = 0 := by omega
            rw [h3] at h1
            exact (Nat.div_eq_zero_iff_lt (Nat.two_pow_pos j)).1 h1.symm
          unfold Hid
          refine (Nat.log2_eq_iff (by omega)).2 ⟨hlow.out hj0, ?_⟩
          rw [show j - 1 + 1 = j by omega]
          exact h2
        go_wp2
        go_ret
        rw [HR.out, hlog.out]
        exact ⟨ret_num' (by omega), rfl⟩
end Go.Proofs.Ytajifneohomibaa
