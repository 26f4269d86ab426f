/-
  The walk of one statement of chapter 1.
-/
import Derived.Test.YtajifneohomibaaBitsLaws
namespace Go.Proofs.Ytajifneohomibaa
open Go.RowKit
set_option linter.unusedVariables false
set_option maxRecDepth 100000

theorem varF_log : ∀ (f u : Nat), 0 < u → u < 128 ^ (f + 1) → (varF f u).length = Nat.log2 u / 7 + 1 := by
  intro f
  induction f with
  | zero =>
    intro u h0 h
    have h7 : Nat.log2 u < 7 := (Nat.log2_lt (by omega)).2 (by simpa using h)
    simp [varF]
    omega
  | succ f ih =>
    intro u h0 h
    rw [varF]
    split
    · rename_i hs
      have h7 : Nat.log2 u < 7 := (Nat.log2_lt (by omega)).2 (by simpa using hs)
      simp
      omega
    · rename_i hs
      have hd : u / 128 < 128 ^ (f + 1) := by
        rw [Nat.pow_succ 128 (f + 1)] at h
        exact Nat.div_lt_of_lt_mul (by omega)
      rw [List.length_cons, ih (u / 128) (by omega) hd]
      have hl : Nat.log2 u = Nat.log2 (u / 128) + 7 := by
        refine (Nat.log2_eq_iff (by omega)).2 ⟨?_, ?_⟩
        · have := Nat.log2_self_le (n := u / 128) (by omega)
          rw [Nat.pow_add]
          omega
        · have := Nat.lt_log2_self (n := u / 128)
          rw [show Nat.log2 (u / 128) + 7 + 1 = (Nat.log2 (u / 128) + 1) + 7 by omega, Nat.pow_add]
          omega
      rw [hl]
      omega
theorem div_log2 (m : Nat) (h : 0 < m) : m / 2 ^ Nat.log2 m = 1 := by
  have h1 := Nat.log2_self_le (n := m) (by omega)
  have h2 := Nat.lt_log2_self (n := m)
  rw [Nat.pow_succ] at h2
  have h3 := Nat.two_pow_pos (Nat.log2 m)
  refine (Nat.div_eq_iff h3).2 ?_
  omega

theorem law_BitsLogs (n : Int) (w : World) (h0 : -9223372036854775808 ≤ n) (h1 : n ≤ 9223372036854775807) :
    Calls Try.prog 9 #[.int .i64 n] w fun e w' => e = .returned (.bool true) ∧ Ext w w' := by
  by_cases hn : n < 1
  · have hl : Hid (logI n = -1) := by unfold Hid logI; rw [if_pos hn]
    go_enter Try.func9, Try.ntmps9
    go_wp2_with fail
    refine (bits_Log' (by omega) hl).mono ?_
    rintro e w1 ⟨rfl, rfl⟩
    go_wp2_with fail
    refine (bits_Var none 0 0 [] n _ (Sl.nil _) (by omega) (by omega)).mono ?_
    rintro e w2 ⟨A2, n2, c2, rfl, hb2, hx2⟩
    have h2 : n2 = 1 := by
      have := hb2.len
      rw [show n.toNat = 0 by omega] at this
      exact this.symm
    subst h2
    clear hb2
    go_wp2_with fail
    refine (law1_known _).mono ?_
    rintro e w1 ⟨rfl, hx5⟩
    go_wp2_with fail
    go_ret
    exact ⟨rfl, hx2.trans hx5⟩
  · obtain ⟨m, rfl⟩ := Int.eq_ofNat_of_zero_le (by omega : 0 ≤ n)
    have hm : 1 ≤ m := by omega
    have hm2 : m < 9223372036854775808 := by omega
    obtain ⟨k, hk⟩ : ∃ k, Nat.log2 m = k := ⟨_, rfl⟩
    have hl : Hid (logI (m : Int) = (k : Int)) := by unfold Hid logI; rw [if_neg hn, ← hk]; rfl
    have hk62 : k ≤ 62 := by
      have : Nat.log2 m < 63 := (Nat.log2_lt (by omega)).2 (by omega)
      omega
    have hvl : Hid ((varl m).length = k / 7 + 1) := by rw [← hk]; exact varF_log 8 m (by omega) (by omega)
    have hd : (m : Int) / 2 ^ k = 1 := by
      have e : (m : Int) / 2 ^ k = ((m / 2 ^ k : Nat) : Int) := by simp
      rw [e, ← hk, div_log2 m (by omega)]
      rfl
    have HD := Lib.hid hd
    clear hk h0 h1 hn hd
    go_enter Try.func9, Try.ntmps9
    go_wp2_with fail
    refine (bits_Log' (by omega) hl).mono ?_
    rintro e w1 ⟨rfl, rfl⟩
    have hd := HD.out
    go_wp2_with fail
    refine (bits_Var none 0 0 [] (m : Int) _ (Sl.nil _) (by omega) (by omega)).mono ?_
    rintro e w2 ⟨A2, n2, c2, rfl, hb2, hx2⟩
    have h2 : n2 = k / 7 + 1 := by
      have := hb2.len
      rw [← this]
      exact hvl.out
    subst h2
    clear hb2
    go_wp2_with fail
    refine (law1_known _).mono ?_
    rintro e w1 ⟨rfl, hx5⟩
    go_wp2_with fail
    go_ret
    exact ⟨rfl, hx2.trans hx5⟩
end Go.Proofs.Ytajifneohomibaa
