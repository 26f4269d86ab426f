/-
  The walk of one statement of chapter 1.
-/
import Derived.Test.YtajifneohomibaaBitsLaws
namespace Go.Proofs.Ytajifneohomibaa
open Go.RowKit
set_option linter.unusedVariables false
set_option maxRecDepth 100000

theorem mask_nat {n s : Nat} (hs : s ≤ 64) : maskN (s : Int) = 2 ^ s - 1 := by
  have : clamp (s : Int) = s := by unfold clamp; omega
  unfold maskN
  rw [this]
theorem i64_and63 (a : Int) : ∃ s : Nat, s ≤ 63 ∧ bits .and .i64 a 63 = (s : Int) := by
  show ∃ s : Nat, s ≤ 63 ∧ IntKind.i64.wrap ((BitVec.ofInt 64 a &&& BitVec.ofInt 64 63).toNat : Int) = (s : Int)
  have h : (BitVec.ofInt 64 a &&& BitVec.ofInt 64 63).toNat ≤ 63 := by
    rw [BitVec.toNat_and]
    exact Nat.and_le_right
  refine ⟨_, h, ?_⟩
  rw [IntKind.wrap_i64]
  omega

theorem law_BitsParts (n a : Int) (w : World) (h0 : 0 ≤ n) (h1 : n ≤ 18446744073709551615) (h2 : -9223372036854775808 ≤ a) (h3 : a ≤ 9223372036854775807) :
    Calls Try.prog 12 #[.int .u64 n, .int .i64 a] w fun e w' => e = .returned (.bool true) ∧ Ext w w' := by
  obtain ⟨n, rfl⟩ := Int.eq_ofNat_of_zero_le h0
  have hn : n < 18446744073709551616 := by omega
  obtain ⟨s, hs, hand⟩ := i64_and63 a
  have hc0 : clamp 0 = 0 := rfl
  have hcs : clamp (s : Int) = s := by unfold clamp; omega
  have hc64 : clamp 64 = 64 := rfl
  have hcn : clamp (-1) = 0 := rfl
  have hp := Nat.two_pow_pos s
  have m64 : maskN 64 = 2 ^ 64 - 1 := rfl
  have ms : maskN (s : Int) = 2 ^ s - 1 := by unfold maskN; rw [hcs]
  have e1 : cutN n 0 (s : Int) = n % 2 ^ s := by
    unfold cutN
    rw [hc0, ms, Nat.pow_zero, Nat.div_one, Nat.and_two_pow_sub_one_eq_mod]
  have e2 : cutN n (s : Int) 64 = n / 2 ^ s := by
    unfold cutN
    rw [hcs, m64, Nat.and_two_pow_sub_one_eq_mod, Nat.mod_eq_of_lt]
    exact Nat.lt_of_le_of_lt (Nat.div_le_self _ _) hn
  have e3 : Hid (cutN n 64 64 = 0) := by
    unfold Hid cutN
    rw [hc64, Nat.div_eq_of_lt hn, Nat.zero_and]
  have e4 : Hid (cutN n (-1) 64 = n) := by
    unfold Hid cutN
    rw [hcn, m64, Nat.pow_zero, Nat.div_one, Nat.and_two_pow_sub_one_eq_mod, Nat.mod_eq_of_lt hn]
  obtain ⟨lo, hlo⟩ : ∃ x, n % 2 ^ s = x := ⟨_, rfl⟩
  obtain ⟨hi, hhi⟩ : ∃ x, n / 2 ^ s = x := ⟨_, rfl⟩
  obtain ⟨mk, hmk⟩ : ∃ x, maskN (s : Int) = x := ⟨_, rfl⟩
  have hlt : lo < 2 ^ s := by rw [← hlo]; exact Nat.mod_lt _ hp
  have hle : (lo : Int) ≤ (mk : Int) := by rw [← hmk, ms]; omega
  have hsum : n = hi * 2 ^ s + lo := by rw [← hlo, ← hhi, Nat.mul_comm]; exact (Nat.div_add_mod n (2 ^ s)).symm
  have hor : (bits .or .u64 (lo : Int) (IntKind.u64.wrap ((hi : Int) * 2 ^ s)) == (n : Int)) = true := by
    have e : (hi : Int) * 2 ^ s = ((hi * 2 ^ s : Nat) : Int) := by simp
    have hb : hi * 2 ^ s < 18446744073709551616 := by omega
    have e5 : ((hi * 2 ^ s : Nat) : Int) % 18446744073709551616 = ((hi * 2 ^ s : Nat) : Int) := by omega
    rw [e, IntKind.wrap_u64, e5, u64_or_nat lo _ (by omega) hb, Nat.or_comm, nat_join s _ lo (Nat.mul_mod_left _ _) hlt, ← hsum]
    simp
  have H1 : Hid (cutN n 0 (s : Int) = lo) := e1.trans hlo
  have H2 : Hid (cutN n (s : Int) 64 = hi) := e2.trans hhi
  have H3 : Hid (maskN (s : Int) = mk) := hmk
  have HA := Lib.hid hand
  clear h0 h1 h2 h3 hc0 hcs hc64 hcn m64 ms e1 e2 hlo hhi hmk hand hsum hlt hp
  have hand := HA.out
  go_enter Try.func12, Try.ntmps12
  go_wp2_with fail
  refine (bits_Cut' hn H1).mono ?_
  rintro e w1 ⟨rfl, hx1⟩
  go_wp2_with fail
  refine (bits_Cut' hn H2).mono ?_
  rintro e w2 ⟨rfl, hx2⟩
  go_wp2_with fail
  refine (bits_Mask' H3).mono ?_
  rintro e w3 ⟨rfl, rfl⟩
  go_wp2_with fail
  refine (bits_Cut' hn e3).mono ?_
  rintro e w4 ⟨rfl, hx4⟩
  go_wp2_with fail
  refine (bits_Cut' hn e4).mono ?_
  rintro e w5 ⟨rfl, hx5⟩
  go_wp2_with fail
  refine (law1_known _).mono ?_
  rintro e w6 ⟨rfl, hx6⟩
  go_wp2_with fail
  go_ret
  exact ⟨rfl, hx1.trans (hx2.trans (hx4.trans (hx5.trans hx6)))⟩
end Go.Proofs.Ytajifneohomibaa
