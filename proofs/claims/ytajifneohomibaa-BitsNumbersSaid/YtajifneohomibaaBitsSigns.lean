/-
  The walk of one statement of chapter 1.
-/
import Derived.Test.YtajifneohomibaaBitsLaws
namespace Go.Proofs.Ytajifneohomibaa
open Go.RowKit
set_option linter.unusedVariables false
set_option maxRecDepth 100000

theorem zagI_zigN (n : Int) : zagI (zigN n) = n := by
  unfold zagI zigN
  split <;> split <;> omega
theorem zigN_zagI (u : Nat) : zigN (zagI u) = u := by
  unfold zagI zigN
  split <;> split <;> omega
theorem zagI_bounds (u : Nat) (hu : u < 18446744073709551616) : -9223372036854775808 ≤ zagI u ∧ zagI u ≤ 9223372036854775807 := by
  unfold zagI
  split <;> omega
theorem zigN_lt (n : Int) (h0 : -9223372036854775808 ≤ n) (h1 : n ≤ 9223372036854775807) : zigN n < 18446744073709551616 := by
  unfold zigN
  split <;> omega

set_option maxHeartbeats 1000000 in
theorem law_BitsSigns (n m u : Int) (w : World) (hn0 : -9223372036854775808 ≤ n) (hn1 : n ≤ 9223372036854775807) (hm0 : -9223372036854775808 ≤ m) (hm1 : m ≤ 9223372036854775807) (hu0 : 0 ≤ u) (hu1 : u ≤ 18446744073709551615) :
    Calls Try.prog 11 #[.int .i64 n, .int .i64 m, .int .u64 u] w fun e w' => e = .returned (.bool true) ∧ Ext w w' := by
  obtain ⟨u, rfl⟩ := Int.eq_ofNat_of_zero_le hu0
  have hu : u < 18446744073709551616 := by omega
  obtain ⟨a, ha⟩ : ∃ x, zigN n = x := ⟨_, rfl⟩
  obtain ⟨b, hb⟩ : ∃ x, zigN m = x := ⟨_, rfl⟩
  obtain ⟨z, hz⟩ : ∃ x, zagI u = x := ⟨_, rfl⟩
  have hal : a < 18446744073709551616 := by rw [← ha]; exact zigN_lt n hn0 hn1
  have k1 : Hid (zigN n = a) := ha
  have k2 : Hid (zigN m = b) := hb
  have k3 : Hid (zagI a = n) := by rw [← ha]; exact zagI_zigN n
  have k4 : Hid (zagI u = z) := hz
  have k5 : Hid (zigN z = u) := by rw [← hz]; exact zigN_zagI u
  have hz0 := zagI_bounds u hu
  rw [hz] at hz0
  have HN : Hid (-9223372036854775808 ≤ n ∧ n ≤ 9223372036854775807) := ⟨hn0, hn1⟩
  have HM : Hid (-9223372036854775808 ≤ m ∧ m ≤ 9223372036854775807) := ⟨hm0, hm1⟩
  have HZ := Lib.hid hz0
  have f0 : (n != n) = false := by simp
  have f1 : ((u : Int) != (u : Int)) = false := by simp
  obtain ⟨e, he⟩ : ∃ e : Bool, (n == m) = e := ⟨_, rfl⟩
  have f2 : ((a : Int) == (b : Int)) = e := by
    rw [← he, Bool.eq_iff_iff, beq_iff_eq, beq_iff_eq]
    constructor
    · intro h
      have h' : a = b := by omega
      rw [← zagI_zigN n, ← zagI_zigN m, ha, hb, h']
    · intro h
      rw [← ha, ← hb, h]
  have hpar : (a % 2 = 1) ↔ n < 0 := by
    rw [← ha]; unfold zigN
    split <;> omega
  have hord1 : 0 ≤ n → n < m → ¬ (b : Int) ≤ (a : Int) := by
    intro h1 h2
    rw [← ha, ← hb]; unfold zigN
    rw [if_pos h1, if_pos (by omega)]
    omega
  have hord2 : n < 0 → m < n → ¬ (b : Int) ≤ (a : Int) := by
    intro h1 h2
    rw [← ha, ← hb]; unfold zigN
    rw [if_neg (by omega), if_neg (by omega)]
    omega
  clear ha hb hz hz0 hn0 hn1 hm0 hm1 hu0 hu1
  by_cases hneg : n < 0
  · have f3 : (bits .and .u64 (a : Int) 1 == 1) = true := by rw [and1_u64 a hal, hpar.2 hneg]; rfl
    have hx := hord2 hneg
    clear hord1 hord2 hpar
    by_cases hlt : m < n
    · have hx' := hx hlt
      clear hx
      go_enter Try.func11, Try.ntmps11
      go_wp2_with fail
      refine (bits_Zig' HN.out.1 HN.out.2 k1).mono ?_
      rintro e w1 ⟨rfl, rfl⟩
      go_wp2_with fail
      refine (bits_Zig' HM.out.1 HM.out.2 k2).mono ?_
      rintro e w1 ⟨rfl, rfl⟩
      go_wp2_with fail
      refine (bits_Zag' hal k3).mono ?_
      rintro e w1 ⟨rfl, rfl⟩
      go_wp2_with fail
      refine (bits_Zag' hu k4).mono ?_
      rintro e w1 ⟨rfl, rfl⟩
      go_wp2_with fail
      refine (bits_Zig' HZ.out.1 HZ.out.2 k5).mono ?_
      rintro e w1 ⟨rfl, rfl⟩
      go_wp2_with fail
      refine (law1_known _).mono ?_
      rintro e w1 ⟨rfl, hx5⟩
      go_wp2_with fail
      go_ret
      exact ⟨rfl, hx5⟩
    · clear hx
      go_enter Try.func11, Try.ntmps11
      go_wp2_with fail
      refine (bits_Zig' HN.out.1 HN.out.2 k1).mono ?_
      rintro e w1 ⟨rfl, rfl⟩
      go_wp2_with fail
      refine (bits_Zig' HM.out.1 HM.out.2 k2).mono ?_
      rintro e w1 ⟨rfl, rfl⟩
      go_wp2_with fail
      refine (bits_Zag' hal k3).mono ?_
      rintro e w1 ⟨rfl, rfl⟩
      go_wp2_with fail
      refine (bits_Zag' hu k4).mono ?_
      rintro e w1 ⟨rfl, rfl⟩
      go_wp2_with fail
      refine (bits_Zig' HZ.out.1 HZ.out.2 k5).mono ?_
      rintro e w1 ⟨rfl, rfl⟩
      go_wp2_with fail
      refine (law1_known _).mono ?_
      rintro e w1 ⟨rfl, hx5⟩
      go_wp2_with fail
      go_ret
      exact ⟨rfl, hx5⟩
  · have f3 : (bits .and .u64 (a : Int) 1 == 1) = false := by
      rw [and1_u64 a hal]
      have : a % 2 = 0 := by omega
      rw [this]
      rfl
    have hx := hord1 (by omega)
    have hpos : 0 ≤ n := by omega
    clear hord1 hord2 hpar
    by_cases hlt : n < m
    · have hx' := hx hlt
      clear hx
      go_enter Try.func11, Try.ntmps11
      go_wp2_with fail
      refine (bits_Zig' HN.out.1 HN.out.2 k1).mono ?_
      rintro e w1 ⟨rfl, rfl⟩
      go_wp2_with fail
      refine (bits_Zig' HM.out.1 HM.out.2 k2).mono ?_
      rintro e w1 ⟨rfl, rfl⟩
      go_wp2_with fail
      refine (bits_Zag' hal k3).mono ?_
      rintro e w1 ⟨rfl, rfl⟩
      go_wp2_with fail
      refine (bits_Zag' hu k4).mono ?_
      rintro e w1 ⟨rfl, rfl⟩
      go_wp2_with fail
      refine (bits_Zig' HZ.out.1 HZ.out.2 k5).mono ?_
      rintro e w1 ⟨rfl, rfl⟩
      go_wp2_with fail
      refine (law1_known _).mono ?_
      rintro e w1 ⟨rfl, hx5⟩
      go_wp2_with fail
      go_ret
      exact ⟨rfl, hx5⟩
    · clear hx
      go_enter Try.func11, Try.ntmps11
      go_wp2_with fail
      refine (bits_Zig' HN.out.1 HN.out.2 k1).mono ?_
      rintro e w1 ⟨rfl, rfl⟩
      go_wp2_with fail
      refine (bits_Zig' HM.out.1 HM.out.2 k2).mono ?_
      rintro e w1 ⟨rfl, rfl⟩
      go_wp2_with fail
      refine (bits_Zag' hal k3).mono ?_
      rintro e w1 ⟨rfl, rfl⟩
      go_wp2_with fail
      refine (bits_Zag' hu k4).mono ?_
      rintro e w1 ⟨rfl, rfl⟩
      go_wp2_with fail
      refine (bits_Zig' HZ.out.1 HZ.out.2 k5).mono ?_
      rintro e w1 ⟨rfl, rfl⟩
      go_wp2_with fail
      refine (law1_known _).mono ?_
      rintro e w1 ⟨rfl, hx5⟩
      go_wp2_with fail
      go_ret
      exact ⟨rfl, hx5⟩
end Go.Proofs.Ytajifneohomibaa
