/-
  Contracts of numbers: Mask, Cut, Log, Zig, Zag, of the program and of the reference.
-/
import Derived.Test.YtajifneohomibaaVarPlain
import Derived.Test.YtajifneohomibaaLib
namespace Go.Proofs.Ytajifneohomibaa
open Go.RowKit
set_option linter.unusedVariables false
set_option maxRecDepth 100000

def clamp (k : Int) : Nat := (min k 64).toNat
def maskN (k : Int) : Nat := 2 ^ clamp k - 1
theorem clamp_le (k : Int) : clamp k ≤ 64 := by unfold clamp; omega
theorem maskN_lt (k : Int) : maskN k < 18446744073709551616 := by
  have h1 := Nat.pow_le_pow_right (n := 2) (by omega) (clamp_le k)
  unfold maskN
  have := Nat.two_pow_pos (clamp k)
  omega

theorem bits_Mask (k : Int) (w : World) : Calls Try.prog 34 #[.int .i64 k] w fun e w' => e = .returned (.int .u64 (maskN k)) ∧ w = w' := by
  obtain ⟨r, hr⟩ : ∃ r, maskN k = r := ⟨_, rfl⟩
  rw [hr]
  by_cases h1 : k ≤ 0
  · have hv : (r : Int) = 0 := by
      rw [← hr]
      unfold maskN clamp
      have : (min k 64).toNat = 0 := by omega
      rw [this]
      rfl
    have HV := Lib.hid hv
    clear hv hr
    by_cases h0 : k = 0
    · subst h0
      go_enter Try.func34, Try.ntmps34
      go_wp2
      go_ret
      rw [HV.out]
      exact ⟨rfl, rfl⟩
    · have hneg : k < 0 := by omega
      have hz : (k == 64) = false := by simp; omega
      go_enter Try.func34, Try.ntmps34
      go_wp2
      go_ret
      rw [HV.out]
      exact ⟨rfl, rfl⟩
  by_cases h2 : 64 ≤ k
  · have hv : (r : Int) = IntKind.u64.max := by
      rw [← hr]
      unfold maskN clamp
      have : (min k 64).toNat = 64 := by omega
      rw [this]
      rfl
    have HV := Lib.hid hv
    clear hv hr
    by_cases h0 : k = 64
    · subst h0
      go_enter Try.func34, Try.ntmps34
      go_wp2
      go_ret
      rw [HV.out]
      exact ⟨rfl, rfl⟩
    · have hbig : 64 < k := by omega
      go_enter Try.func34, Try.ntmps34
      go_wp2
      go_ret
      rw [HV.out]
      exact ⟨rfl, rfl⟩
  obtain ⟨m, rfl⟩ := Int.eq_ofNat_of_zero_le (by omega : 0 ≤ k)
  have hm : m < 64 := by omega
  have hm0 : 0 < m := by omega
  have hz : ((m : Int) == 64) = false := by simp; omega
  have HR := Lib.hid hr
  clear hr h1 h2
  go_enter Try.func34, Try.ntmps34
  go_wp2
  go_ret
  rw [← HR.out]
  refine ⟨?_, rfl⟩
  have e : IntKind.u64.wrap (IntKind.u64.wrap (2 ^ m) - 1) = ((maskN (m : Int) : Nat) : Int) := by
    have h1 : 2 ^ m ≤ 2 ^ 63 := Nat.pow_le_pow_right (by omega) (by omega)
    have h2 := Nat.two_pow_pos m
    have h3 : (2 : Int) ^ m = ((2 ^ m : Nat) : Int) := by simp
    have h4 : clamp (m : Int) = m := by unfold clamp; omega
    unfold maskN
    rw [h4, h3, IntKind.wrap_u64, IntKind.wrap_u64]
    omega
  exact congrArg (fun z => Ending.returned (Value.int IntKind.u64 z)) e

theorem shl1_or (q : Nat) (hq : q < 9223372036854775808) : bits .or .u64 ((q : Int) * 2) 1 = ((2 * q + 1 : Nat) : Int) := by
  have e : (q : Int) * 2 = ((q * 2 : Nat) : Int) := by omega
  rw [e]
  have := u64_or_nat (q * 2) 1 (by omega) (by omega)
  rw [nat_join 1 (q * 2) 1 (by omega) (by omega)] at this
  refine Eq.trans this ?_
  omega

theorem ref_Mask (k : Int) (w : World) : Calls Try.prog 35 #[.int .i64 k] w fun e w' => e = .returned (.int .u64 (maskN k)) ∧ w = w' := by
  obtain ⟨r, hr⟩ : ∃ r, maskN k = r := ⟨_, rfl⟩
  rw [hr]
  have HR := Lib.hid hr
  have hc := clamp_le k
  have hck : Hid (∀ j : Nat, j < clamp k ↔ ((j : Int) < k ∧ j < 64)) := by intro j; unfold clamp; omega
  obtain ⟨m, hm⟩ : ∃ m, clamp k = m := ⟨_, rfl⟩
  rw [hm] at hck hc
  have HM := Lib.hid hm
  clear hr hm
  go_enter Try.func35, Try.ntmps35
  go_wp2
  go_loop [3, 4] (fun v i => ∃ j q : Nat, j ≤ m ∧ i = .int .i64 j ∧ v = .int .u64 q ∧ Hid (q = 2 ^ j - 1)) (fun _ i => (64 - (intOf i).toNat))
  case atStart => exact ⟨0, 0, by omega, rfl, rfl, rfl⟩
  case round =>
    obtain ⟨j, q, hj, rfl, rfl, hq⟩ := hrel
    have hkj := hck.out j
    by_cases hlt : j < m
    · obtain ⟨h1, h2⟩ := hkj.1 hlt
      have hq1 : q < 9223372036854775808 := by
        have h3 : 2 ^ j ≤ 2 ^ 63 := Nat.pow_le_pow_right (by omega) (by omega)
        have h4 := Nat.two_pow_pos j
        rw [hq.out]
        omega
      have hs := Lib.hid (shl1_or q hq1)
      clear hkj
      go_wp2
      go_round
      case rel =>
        refine ⟨j + 1, 2 * q + 1, by omega, by go_num, by rw [hs.out], ?_⟩
        have h4 := Nat.two_pow_pos j
        unfold Hid
        rw [hq.out, Nat.pow_succ]
        omega
      case measure => simp [intOf]; omega
    · have hno : ¬ ((j : Int) < k ∧ j < 64) := fun h => hlt (hkj.2 h)
      have hjm : j = m := by omega
      have hres : Hid (q = r) := by
        unfold Hid
        rw [hq.out, ← HR.out, maskN, HM.out, hjm]
      clear hkj hjm
      by_cases h1 : (j : Int) < k
      · have h2 : 64 ≤ j := by omega
        clear hno
        go_wp2
        go_ret
        rw [hres.out]
        exact ⟨rfl, rfl⟩
      · clear hno
        go_wp2
        go_ret
        rw [hres.out]
        exact ⟨rfl, rfl⟩

theorem ret_num {k : IntKind} {a b : Int} (h : a = b) : Ending.returned (.int k a) = .returned (.int k b) := by rw [h]
def zigN (n : Int) : Nat := if 0 ≤ n then 2 * n.toNat else 2 * (-(n + 1)).toNat + 1
def zagI (u : Nat) : Int := if u % 2 = 0 then (u / 2 : Nat) else -(u / 2 : Nat) - 1

theorem bits_Zig (n : Int) (w : World) (h0 : -9223372036854775808 ≤ n) (h1 : n ≤ 9223372036854775807) :
    Calls Try.prog 31 #[.int .i64 n] w fun e w' => e = .returned (.int .u64 (zigN n)) ∧ w = w' := by
  obtain ⟨r, hr⟩ : ∃ r, zigN n = r := ⟨_, rfl⟩
  rw [hr]
  by_cases hn : 0 ≤ n
  · obtain ⟨m, rfl⟩ := Int.eq_ofNat_of_zero_le hn
    have hm : m < 9223372036854775808 := by omega
    have HR : Hid (r = 2 * m) := by rw [← hr]; unfold zigN; rw [if_pos hn]; rfl
    clear hr h0 h1
    go_enter Try.func31, Try.ntmps31
    go_wp2
    go_ret
    rw [HR.out]
    exact ⟨ret_num (by omega), rfl⟩
  · obtain ⟨m, rfl⟩ : ∃ m : Nat, n = -(m : Int) - 1 := ⟨(-(n + 1)).toNat, by omega⟩
    have hm : m < 9223372036854775808 := by omega
    have HR : Hid (r = 2 * m + 1) := by
      rw [← hr]; unfold zigN Hid; rw [if_neg hn]; omega
    clear hr h0 h1
    go_enter Try.func31, Try.ntmps31
    go_wp2
    go_ret
    rw [HR.out]
    exact ⟨ret_num (shl1_or m hm), rfl⟩

theorem ref_Zig (n : Int) (w : World) (h0 : -9223372036854775808 ≤ n) (h1 : n ≤ 9223372036854775807) :
    Calls Try.prog 47 #[.int .i64 n] w fun e w' => e = .returned (.int .u64 (zigN n)) ∧ w = w' := by
  obtain ⟨r, hr⟩ : ∃ r, zigN n = r := ⟨_, rfl⟩
  rw [hr]
  by_cases hn : 0 ≤ n
  · obtain ⟨m, rfl⟩ := Int.eq_ofNat_of_zero_le hn
    have hm : m < 9223372036854775808 := by omega
    have HR : Hid (r = 2 * m) := by rw [← hr]; unfold zigN; rw [if_pos hn]; rfl
    clear hr h0 h1
    go_enter Try.func47, Try.ntmps47
    go_wp2
    go_ret
    rw [HR.out]
    exact ⟨ret_num (by omega), rfl⟩
  · obtain ⟨m, rfl⟩ : ∃ m : Nat, n = -(m : Int) - 1 := ⟨(-(n + 1)).toNat, by omega⟩
    have hm : m < 9223372036854775808 := by omega
    have HR : Hid (r = 2 * m + 1) := by
      rw [← hr]; unfold zigN Hid; rw [if_neg hn]; omega
    clear hr h0 h1
    go_enter Try.func47, Try.ntmps47
    go_wp2
    go_ret
    rw [HR.out]
    exact ⟨ret_num (by omega), rfl⟩

theorem and1_u64 (u : Nat) (hu : u < 18446744073709551616) : bits .and .u64 (u : Int) 1 = ((u % 2 : Nat) : Int) := by
  have := u64_and_nat u 1 hu (by omega)
  rw [nat_mask1] at this
  exact this

theorem bits_Zag (u : Nat) (w : World) (hu : u < 18446744073709551616) :
    Calls Try.prog 32 #[.int .u64 u] w fun e w' => e = .returned (.int .i64 (zagI u)) ∧ w = w' := by
  obtain ⟨r, hr⟩ : ∃ r, zagI u = r := ⟨_, rfl⟩
  rw [hr]
  rcases Nat.mod_two_eq_zero_or_one u with h2 | h2
  · have hb : (bits .and .u64 (u : Int) 1 == 0) = true := by rw [and1_u64 u hu, h2]; rfl
    have HR : Hid (r = ((u / 2 : Nat) : Int)) := by rw [← hr]; unfold zagI; rw [if_pos h2]; rfl
    clear hr h2
    go_enter Try.func32, Try.ntmps32
    go_wp2
    go_ret
    rw [HR.out]
    exact ⟨ret_num (by omega), rfl⟩
  · have hb : (bits .and .u64 (u : Int) 1 == 0) = false := by rw [and1_u64 u hu, h2]; rfl
    have HR : Hid (r = -((u / 2 : Nat) : Int) - 1) := by rw [← hr]; unfold zagI; rw [if_neg (by omega)]; rfl
    clear hr h2
    go_enter Try.func32, Try.ntmps32
    go_wp2
    go_ret
    rw [HR.out]
    exact ⟨ret_num (by omega), rfl⟩

theorem ref_Zag (u : Nat) (w : World) (hu : u < 18446744073709551616) :
    Calls Try.prog 48 #[.int .u64 u] w fun e w' => e = .returned (.int .i64 (zagI u)) ∧ w = w' := by
  obtain ⟨r, hr⟩ : ∃ r, zagI u = r := ⟨_, rfl⟩
  rw [hr]
  rcases Nat.mod_two_eq_zero_or_one u with h2 | h2
  · have hb : (bits .and .u64 (u : Int) 1 == 0) = true := by rw [and1_u64 u hu, h2]; rfl
    have HR : Hid (r = ((u / 2 : Nat) : Int)) := by rw [← hr]; unfold zagI; rw [if_pos h2]; rfl
    clear hr h2
    go_enter Try.func48, Try.ntmps48
    go_wp2
    go_ret
    rw [HR.out]
    exact ⟨ret_num (by omega), rfl⟩
  · have hb : (bits .and .u64 (u : Int) 1 == 0) = false := by rw [and1_u64 u hu, h2]; rfl
    have HR : Hid (r = -((u / 2 : Nat) : Int) - 1) := by rw [← hr]; unfold zagI; rw [if_neg (by omega)]; rfl
    clear hr h2
    go_enter Try.func48, Try.ntmps48
    go_wp2
    go_ret
    rw [HR.out]
    exact ⟨ret_num (by omega), rfl⟩

def cutN (n : Nat) (a wd : Int) : Nat := (n / 2 ^ clamp a) &&& maskN wd
theorem bits_Mask' {k : Int} {w : World} {r : Nat} (hr : Hid (maskN k = r)) : Calls Try.prog 34 #[.int .i64 k] w fun e w' => e = .returned (.int .u64 r) ∧ w = w' := by
  have := bits_Mask k w
  rwa [hr.out] at this
theorem ref_Mask' {k : Int} {w : World} {r : Nat} (hr : Hid (maskN k = r)) : Calls Try.prog 35 #[.int .i64 k] w fun e w' => e = .returned (.int .u64 r) ∧ w = w' := by
  have := ref_Mask k w
  rwa [hr.out] at this
theorem and_mask {n q m : Nat} (k : Nat) (hn : n < 18446744073709551616) (hm : m < 18446744073709551616) : bits .and .u64 ((n : Int) / 2 ^ k) (m : Int) = ((n / 2 ^ k &&& m : Nat) : Int) := by
  have h1 : n / 2 ^ k < 18446744073709551616 := Nat.lt_of_le_of_lt (Nat.div_le_self _ _) hn
  have e : (n : Int) / 2 ^ k = ((n / 2 ^ k : Nat) : Int) := by simp
  rw [e]
  exact u64_and_nat _ _ h1 hm

theorem bits_Cut (n : Nat) (a wd : Int) (w : World) (hn : n < 18446744073709551616) :
    Calls Try.prog 33 #[.int .u64 n, .int .i64 a, .int .i64 wd] w fun e w' => e = .returned (.int .u64 (cutN n a wd)) ∧ Ext w w' := by
  obtain ⟨r, hr⟩ : ∃ r, cutN n a wd = r := ⟨_, rfl⟩
  rw [hr]
  obtain ⟨m, hm⟩ : ∃ m, maskN wd = m := ⟨_, rfl⟩
  have hml : m < 18446744073709551616 := by rw [← hm]; exact maskN_lt _
  unfold cutN at hr
  rw [hm] at hr
  have HM := Lib.hid hm
  clear hm
  by_cases h0 : a ≤ 0
  · have HF : Hid (bits .and .u64 (n : Int) (m : Int) = (r : Int)) := by
      have hc : clamp a = 0 := by unfold clamp; omega
      rw [hc, Nat.pow_zero, Nat.div_one] at hr
      rw [← hr]
      exact u64_and_nat n m hn hml
    clear hr
    by_cases hneg : a < 0
    · skip
      go_enter Try.func33, Try.ntmps33
      go_wp2_with fail
      refine wp_region_typed Ext.steady rfl 16 rfl (by kernel_rfl) ?_
      -- 0: Op.move t0
      apply Stage.step (Is _) [] (Is.keeps _) (by kernel_rfl)
      · intro w1 h1
        simp only [Given]
        go_wp2_with fail
        exact Post.isv (Ext.refl _) rfl rfl rfl
      -- 1: Op.move t1
      apply Stage.step (Is _) [] (Is.keeps _) (by kernel_rfl)
      · intro w1 h1
        simp only [Given]
        go_wp2_with fail
        exact Post.isv (Ext.refl _) rfl rfl rfl
      -- 2: Op.binOp BinOp.shr 40 t10 t11 3
      apply Stage.step (Is _) [true, true] (Is.keeps _) (by kernel_rfl)
      · intro w1 h1
        simp only [List.nil_append, List.cons_append, Given]
        rintro _ rfl
        rintro _ rfl
        go_wp2_with fail
        exact Post.isv (Ext.refl _) rfl rfl rfl
      -- 3: Op.move t2
      apply Stage.step (Is _) [] (Is.keeps _) (by kernel_rfl)
      · intro w1 h1
        simp only [Given]
        go_wp2_with fail
        exact Post.isv (Ext.refl _) rfl rfl rfl
      -- 4: Op.call { value (Operand.func 34), args := #[t13], argTypes := #[3] }
      apply Stage.step (Is (.int .u64 m)) [false, false, false, true] (Is.keeps _) (by kernel_rfl)
      · intro w1 h1
        simp only [List.nil_append, List.cons_append, Given]
        rintro _ rfl
        go_wp2_with fail
        refine (bits_Mask' HM).mono ?_
        rintro e w2 ⟨rfl, rfl⟩
        go_wp2_with fail
        exact Post.isv (Ext.refl _) rfl rfl rfl
      -- 5: Op.binOp BinOp.and 40 t12 t14 40
      apply Stage.step (Is (.int .u64 r)) [false, false, true, false, true] (Is.keeps _) (by kernel_rfl)
      · intro w1 h1
        simp only [List.nil_append, List.cons_append, Given]
        rintro _ rfl
        rintro _ rfl
        have hf := HF.out
        go_wp2_with fail
        exact Post.isv (Ext.refl _) rfl rfl rfl
      -- 6: Op.assign t15
      apply Stage.step (Is _) [false, false, false, false, false, true] (Is.keeps _) (by kernel_rfl)
      · intro w1 h1
        simp only [List.nil_append, List.cons_append, Given]
        rintro _ rfl
        go_wp2_with fail
        exact Post.isv (Ext.refl _) rfl rfl rfl
      apply Stage.nil
      intro w1 h1
      simp only [List.nil_append, List.cons_append]
      refine Fin.is_ ?_
      refine Fin.is_ ?_
      refine Fin.is_ ?_
      refine Fin.is_ ?_
      refine Fin.is_ ?_
      refine Fin.is_ ?_
      refine Fin.is_ ?_
      refine Fin.nil_ ?_
      go_simp
      go_wp2_with fail
      go_ret
      exact ⟨rfl, h1⟩
    · obtain rfl : a = 0 := by omega
      clear h0 hneg
      go_enter Try.func33, Try.ntmps33
      go_wp2_with fail
      refine wp_region_typed Ext.steady rfl 16 rfl (by kernel_rfl) ?_
      -- 0: Op.move t0
      apply Stage.step (Is _) [] (Is.keeps _) (by kernel_rfl)
      · intro w1 h1
        simp only [Given]
        go_wp2_with fail
        exact Post.isv (Ext.refl _) rfl rfl rfl
      -- 1: Op.move t1
      apply Stage.step (Is _) [] (Is.keeps _) (by kernel_rfl)
      · intro w1 h1
        simp only [Given]
        go_wp2_with fail
        exact Post.isv (Ext.refl _) rfl rfl rfl
      -- 2: Op.binOp BinOp.shr 40 t10 t11 3
      apply Stage.step (Is _) [true, true] (Is.keeps _) (by kernel_rfl)
      · intro w1 h1
        simp only [List.nil_append, List.cons_append, Given]
        rintro _ rfl
        rintro _ rfl
        go_wp2_with fail
        exact Post.isv (Ext.refl _) rfl rfl rfl
      -- 3: Op.move t2
      apply Stage.step (Is _) [] (Is.keeps _) (by kernel_rfl)
      · intro w1 h1
        simp only [Given]
        go_wp2_with fail
        exact Post.isv (Ext.refl _) rfl rfl rfl
      -- 4: Op.call { value (Operand.func 34), args := #[t13], argTypes := #[3] }
      apply Stage.step (Is (.int .u64 m)) [false, false, false, true] (Is.keeps _) (by kernel_rfl)
      · intro w1 h1
        simp only [List.nil_append, List.cons_append, Given]
        rintro _ rfl
        go_wp2_with fail
        refine (bits_Mask' HM).mono ?_
        rintro e w2 ⟨rfl, rfl⟩
        go_wp2_with fail
        exact Post.isv (Ext.refl _) rfl rfl rfl
      -- 5: Op.binOp BinOp.and 40 t12 t14 40
      apply Stage.step (Is (.int .u64 r)) [false, false, true, false, true] (Is.keeps _) (by kernel_rfl)
      · intro w1 h1
        simp only [List.nil_append, List.cons_append, Given]
        rintro _ rfl
        rintro _ rfl
        have hf := HF.out
        go_wp2_with fail
        exact Post.isv (Ext.refl _) rfl rfl rfl
      -- 6: Op.assign t15
      apply Stage.step (Is _) [false, false, false, false, false, true] (Is.keeps _) (by kernel_rfl)
      · intro w1 h1
        simp only [List.nil_append, List.cons_append, Given]
        rintro _ rfl
        go_wp2_with fail
        exact Post.isv (Ext.refl _) rfl rfl rfl
      apply Stage.nil
      intro w1 h1
      simp only [List.nil_append, List.cons_append]
      refine Fin.is_ ?_
      refine Fin.is_ ?_
      refine Fin.is_ ?_
      refine Fin.is_ ?_
      refine Fin.is_ ?_
      refine Fin.is_ ?_
      refine Fin.is_ ?_
      refine Fin.nil_ ?_
      go_simp
      go_wp2_with fail
      go_ret
      exact ⟨rfl, h1⟩
  by_cases h64 : 64 ≤ a
  · have HF : Hid (bits .and .u64 ((n : Int) / 18446744073709551616) (m : Int) = (r : Int)) := by
      have hz0 : (n : Int) / 18446744073709551616 = 0 := by omega
      rw [hz0]
      have hc : clamp a = 64 := by unfold clamp; omega
      have hz : n / 2 ^ 64 = 0 := Nat.div_eq_of_lt hn
      rw [hc, hz] at hr
      rw [← hr]
      exact u64_and_nat 0 m (by omega) hml
    clear hr
    by_cases hb : 64 < a
    · skip
      go_enter Try.func33, Try.ntmps33
      go_wp2_with fail
      refine wp_region_typed Ext.steady rfl 16 rfl (by kernel_rfl) ?_
      -- 0: Op.move t0
      apply Stage.step (Is _) [] (Is.keeps _) (by kernel_rfl)
      · intro w1 h1
        simp only [Given]
        go_wp2_with fail
        exact Post.isv (Ext.refl _) rfl rfl rfl
      -- 1: Op.move t1
      apply Stage.step (Is _) [] (Is.keeps _) (by kernel_rfl)
      · intro w1 h1
        simp only [Given]
        go_wp2_with fail
        exact Post.isv (Ext.refl _) rfl rfl rfl
      -- 2: Op.binOp BinOp.shr 40 t10 t11 3
      apply Stage.step (Is _) [true, true] (Is.keeps _) (by kernel_rfl)
      · intro w1 h1
        simp only [List.nil_append, List.cons_append, Given]
        rintro _ rfl
        rintro _ rfl
        go_wp2_with fail
        exact Post.isv (Ext.refl _) rfl rfl rfl
      -- 3: Op.move t2
      apply Stage.step (Is _) [] (Is.keeps _) (by kernel_rfl)
      · intro w1 h1
        simp only [Given]
        go_wp2_with fail
        exact Post.isv (Ext.refl _) rfl rfl rfl
      -- 4: Op.call { value (Operand.func 34), args := #[t13], argTypes := #[3] }
      apply Stage.step (Is (.int .u64 m)) [false, false, false, true] (Is.keeps _) (by kernel_rfl)
      · intro w1 h1
        simp only [List.nil_append, List.cons_append, Given]
        rintro _ rfl
        go_wp2_with fail
        refine (bits_Mask' HM).mono ?_
        rintro e w2 ⟨rfl, rfl⟩
        go_wp2_with fail
        exact Post.isv (Ext.refl _) rfl rfl rfl
      -- 5: Op.binOp BinOp.and 40 t12 t14 40
      apply Stage.step (Is (.int .u64 r)) [false, false, true, false, true] (Is.keeps _) (by kernel_rfl)
      · intro w1 h1
        simp only [List.nil_append, List.cons_append, Given]
        rintro _ rfl
        rintro _ rfl
        have hf := HF.out
        go_wp2_with fail
        exact Post.isv (Ext.refl _) rfl rfl rfl
      -- 6: Op.assign t15
      apply Stage.step (Is _) [false, false, false, false, false, true] (Is.keeps _) (by kernel_rfl)
      · intro w1 h1
        simp only [List.nil_append, List.cons_append, Given]
        rintro _ rfl
        go_wp2_with fail
        exact Post.isv (Ext.refl _) rfl rfl rfl
      apply Stage.nil
      intro w1 h1
      simp only [List.nil_append, List.cons_append]
      refine Fin.is_ ?_
      refine Fin.is_ ?_
      refine Fin.is_ ?_
      refine Fin.is_ ?_
      refine Fin.is_ ?_
      refine Fin.is_ ?_
      refine Fin.is_ ?_
      refine Fin.nil_ ?_
      go_simp
      go_wp2_with fail
      go_ret
      exact ⟨rfl, h1⟩
    · obtain rfl : a = 64 := by omega
      clear h0 hb h64
      go_enter Try.func33, Try.ntmps33
      go_wp2_with fail
      refine wp_region_typed Ext.steady rfl 16 rfl (by kernel_rfl) ?_
      -- 0: Op.move t0
      apply Stage.step (Is _) [] (Is.keeps _) (by kernel_rfl)
      · intro w1 h1
        simp only [Given]
        go_wp2_with fail
        exact Post.isv (Ext.refl _) rfl rfl rfl
      -- 1: Op.move t1
      apply Stage.step (Is _) [] (Is.keeps _) (by kernel_rfl)
      · intro w1 h1
        simp only [Given]
        go_wp2_with fail
        exact Post.isv (Ext.refl _) rfl rfl rfl
      -- 2: Op.binOp BinOp.shr 40 t10 t11 3
      apply Stage.step (Is _) [true, true] (Is.keeps _) (by kernel_rfl)
      · intro w1 h1
        simp only [List.nil_append, List.cons_append, Given]
        rintro _ rfl
        rintro _ rfl
        go_wp2_with fail
        exact Post.isv (Ext.refl _) rfl rfl rfl
      -- 3: Op.move t2
      apply Stage.step (Is _) [] (Is.keeps _) (by kernel_rfl)
      · intro w1 h1
        simp only [Given]
        go_wp2_with fail
        exact Post.isv (Ext.refl _) rfl rfl rfl
      -- 4: Op.call { value (Operand.func 34), args := #[t13], argTypes := #[3] }
      apply Stage.step (Is (.int .u64 m)) [false, false, false, true] (Is.keeps _) (by kernel_rfl)
      · intro w1 h1
        simp only [List.nil_append, List.cons_append, Given]
        rintro _ rfl
        go_wp2_with fail
        refine (bits_Mask' HM).mono ?_
        rintro e w2 ⟨rfl, rfl⟩
        go_wp2_with fail
        exact Post.isv (Ext.refl _) rfl rfl rfl
      -- 5: Op.binOp BinOp.and 40 t12 t14 40
      apply Stage.step (Is (.int .u64 r)) [false, false, true, false, true] (Is.keeps _) (by kernel_rfl)
      · intro w1 h1
        simp only [List.nil_append, List.cons_append, Given]
        rintro _ rfl
        rintro _ rfl
        have hf := HF.out
        go_wp2_with fail
        exact Post.isv (Ext.refl _) rfl rfl rfl
      -- 6: Op.assign t15
      apply Stage.step (Is _) [false, false, false, false, false, true] (Is.keeps _) (by kernel_rfl)
      · intro w1 h1
        simp only [List.nil_append, List.cons_append, Given]
        rintro _ rfl
        go_wp2_with fail
        exact Post.isv (Ext.refl _) rfl rfl rfl
      apply Stage.nil
      intro w1 h1
      simp only [List.nil_append, List.cons_append]
      refine Fin.is_ ?_
      refine Fin.is_ ?_
      refine Fin.is_ ?_
      refine Fin.is_ ?_
      refine Fin.is_ ?_
      refine Fin.is_ ?_
      refine Fin.is_ ?_
      refine Fin.nil_ ?_
      go_simp
      go_wp2_with fail
      go_ret
      exact ⟨rfl, h1⟩
  obtain ⟨s, rfl⟩ := Int.eq_ofNat_of_zero_le (by omega : 0 ≤ a)
  have hs : s < 64 := by omega
  have hs0 : 0 < s := by omega
  have HF : Hid (bits .and .u64 ((n : Int) / 2 ^ s) (m : Int) = (r : Int)) := by
    have hc : clamp (s : Int) = s := by unfold clamp; omega
    rw [hc] at hr
    rw [← hr]
    exact and_mask (q := 0) s hn hml
  clear hr h0 h64
  go_enter Try.func33, Try.ntmps33
  go_wp2_with fail
  refine wp_region_typed Ext.steady rfl 16 rfl (by kernel_rfl) ?_
  -- 0: Op.move t0
  apply Stage.step (Is _) [] (Is.keeps _) (by kernel_rfl)
  · intro w1 h1
    simp only [Given]
    go_wp2_with fail
    exact Post.isv (Ext.refl _) rfl rfl rfl
  -- 1: Op.move t1
  apply Stage.step (Is _) [] (Is.keeps _) (by kernel_rfl)
  · intro w1 h1
    simp only [Given]
    go_wp2_with fail
    exact Post.isv (Ext.refl _) rfl rfl rfl
  -- 2: Op.binOp BinOp.shr 40 t10 t11 3
  apply Stage.step (Is _) [true, true] (Is.keeps _) (by kernel_rfl)
  · intro w1 h1
    simp only [List.nil_append, List.cons_append, Given]
    rintro _ rfl
    rintro _ rfl
    go_wp2_with fail
    exact Post.isv (Ext.refl _) rfl rfl rfl
  -- 3: Op.move t2
  apply Stage.step (Is _) [] (Is.keeps _) (by kernel_rfl)
  · intro w1 h1
    simp only [Given]
    go_wp2_with fail
    exact Post.isv (Ext.refl _) rfl rfl rfl
  -- 4: Op.call { value (Operand.func 34), args := #[t13], argTypes := #[3] }
  apply Stage.step (Is (.int .u64 m)) [false, false, false, true] (Is.keeps _) (by kernel_rfl)
  · intro w1 h1
    simp only [List.nil_append, List.cons_append, Given]
    rintro _ rfl
    go_wp2_with fail
    refine (bits_Mask' HM).mono ?_
    rintro e w2 ⟨rfl, rfl⟩
    go_wp2_with fail
    exact Post.isv (Ext.refl _) rfl rfl rfl
  -- 5: Op.binOp BinOp.and 40 t12 t14 40
  apply Stage.step (Is (.int .u64 r)) [false, false, true, false, true] (Is.keeps _) (by kernel_rfl)
  · intro w1 h1
    simp only [List.nil_append, List.cons_append, Given]
    rintro _ rfl
    rintro _ rfl
    have hf := HF.out
    go_wp2_with fail
    exact Post.isv (Ext.refl _) rfl rfl rfl
  -- 6: Op.assign t15
  apply Stage.step (Is _) [false, false, false, false, false, true] (Is.keeps _) (by kernel_rfl)
  · intro w1 h1
    simp only [List.nil_append, List.cons_append, Given]
    rintro _ rfl
    go_wp2_with fail
    exact Post.isv (Ext.refl _) rfl rfl rfl
  apply Stage.nil
  intro w1 h1
  simp only [List.nil_append, List.cons_append]
  refine Fin.is_ ?_
  refine Fin.is_ ?_
  refine Fin.is_ ?_
  refine Fin.is_ ?_
  refine Fin.is_ ?_
  refine Fin.is_ ?_
  refine Fin.is_ ?_
  refine Fin.nil_ ?_
  go_simp
  go_wp2_with fail
  go_ret
  exact ⟨rfl, h1⟩

theorem ref_Cut (n : Nat) (a wd : Int) (w : World) (hn : n < 18446744073709551616) :
    Calls Try.prog 46 #[.int .u64 n, .int .i64 a, .int .i64 wd] w fun e w' => e = .returned (.int .u64 (cutN n a wd)) ∧ w = w' := by
  obtain ⟨r, hr⟩ : ∃ r, cutN n a wd = r := ⟨_, rfl⟩
  rw [hr]
  obtain ⟨m, hm⟩ : ∃ m, maskN wd = m := ⟨_, rfl⟩
  have hml : m < 18446744073709551616 := by rw [← hm]; exact maskN_lt _
  unfold cutN at hr
  rw [hm] at hr
  have hck : Hid (∀ j : Nat, j < clamp a ↔ ((j : Int) < a ∧ j < 64)) := by intro j; unfold clamp; omega
  obtain ⟨s, hs⟩ : ∃ s, clamp a = s := ⟨_, rfl⟩
  have hs64 : s ≤ 64 := by rw [← hs]; exact clamp_le _
  rw [hs] at hck hr
  have HM := Lib.hid hm
  have HR := Lib.hid hr
  clear hm hs hr
  go_enter Try.func46, Try.ntmps46
  go_wp2
  go_loop [0, 7] (fun v i => ∃ j q : Nat, j ≤ s ∧ i = .int .i64 j ∧ v = .int .u64 q ∧ q < 18446744073709551616 ∧ Hid (q = n / 2 ^ j)) (fun _ i => (64 - (intOf i).toNat))
  case atStart => exact ⟨0, n, by omega, rfl, rfl, hn, by simp [Hid]⟩
  case round =>
    obtain ⟨j, q, hj, rfl, rfl, hql, hq⟩ := hrel
    have hkj := hck.out j
    by_cases hlt : j < s
    · obtain ⟨h1, h2⟩ := hkj.1 hlt
      clear hkj
      go_wp2
      go_round
      case rel =>
        refine ⟨j + 1, q / 2, by omega, by go_num, by simp, by omega, ?_⟩
        unfold Hid
        rw [hq.out, Nat.div_div_eq_div_mul, Nat.pow_succ]
      case measure => simp [intOf]; omega
    · have hno : ¬ ((j : Int) < a ∧ j < 64) := fun h => hlt (hkj.2 h)
      have hjs : j = s := by omega
      have HF : Hid (bits .and .u64 (q : Int) (m : Int) = (r : Int)) := by
        unfold Hid
        rw [u64_and_nat q m hql hml, ← HR.out, hq.out, hjs]
      clear hkj hjs
      by_cases h1 : (j : Int) < a
      · have h2 : 64 ≤ j := by omega
        clear hno
        go_wp2_with fail
        refine (ref_Mask' HM).mono ?_
        rintro e w1 ⟨rfl, rfl⟩
        have hf := HF.out
        go_wp2_with fail
        go_ret
        exact ⟨rfl, rfl⟩
      · clear hno
        go_wp2_with fail
        refine (ref_Mask' HM).mono ?_
        rintro e w1 ⟨rfl, rfl⟩
        have hf := HF.out
        go_wp2_with fail
        go_ret
        exact ⟨rfl, rfl⟩

end Go.Proofs.Ytajifneohomibaa
