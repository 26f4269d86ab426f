/-
  One bit of an integer by a mask. No program in sight.
-/
import Derived.Test.YtkoknleopmlhcaaMask
namespace Go.Proofs.Ytkoknleopmlhcaa
open Go

theorem nat_and_two_pow (x k : Nat) : x &&& 2 ^ k = x / 2 ^ k % 2 * 2 ^ k := by
  rw [← Nat.toNat_testBit]
  refine Nat.eq_of_testBit_eq fun i => ?_
  rw [Nat.testBit_and, Nat.testBit_two_pow]
  cases h : x.testBit k
  · by_cases hk : k = i
    · subst hk
      simp [h]
    · simp [hk]
  · by_cases hk : k = i
    · subst hk
      simp [h, Nat.testBit_two_pow_self]
    · simp [hk, Nat.testBit_two_pow]
theorem i64_bit (n m : Int) (k : Nat) (hk : k ≤ 61) (hm : (BitVec.ofInt 64 m).toNat = 2 ^ k) : bits .and .i64 n m = (((n % 18446744073709551616).toNat / 2 ^ k % 2 * 2 ^ k : Nat) : Int) := by
  have key : (BitVec.ofInt 64 n &&& BitVec.ofInt 64 m).toNat = (n % 18446744073709551616).toNat / 2 ^ k % 2 * 2 ^ k := by
    rw [BitVec.toNat_and, BitVec.toNat_ofInt, hm, nat_and_two_pow]
    rfl
  show IntKind.i64.wrap ((BitVec.ofInt 64 n &&& BitVec.ofInt 64 m).toNat : Nat) = _
  rw [key, IntKind.wrap_i64]
  have hp : 2 ^ k ≤ 2 ^ 61 := Nat.pow_le_pow_right (by omega) hk
  have h1 : (n % 18446744073709551616).toNat / 2 ^ k % 2 < 2 := Nat.mod_lt _ (by omega)
  have h2 : (n % 18446744073709551616).toNat / 2 ^ k % 2 * 2 ^ k ≤ 1 * 2 ^ k := Nat.mul_le_mul_right _ (by omega)
  omega
theorem and4 (n : Int) : bits .and .i64 n 4 = n / 4 % 2 * 4 := by
  rw [i64_bit n 4 2 (by omega) (by decide)]
  omega
theorem and16 (n : Int) : bits .and .i64 n 16 = n / 16 % 2 * 16 := by
  rw [i64_bit n 16 4 (by omega) (by decide)]
  omega
end Go.Proofs.Ytkoknleopmlhcaa
