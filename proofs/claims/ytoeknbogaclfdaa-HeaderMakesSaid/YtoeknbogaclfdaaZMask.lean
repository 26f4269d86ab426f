/-
  Low bits of an integer by a mask. No program in sight.
-/
import Derived.Laws.BitsLemmas
namespace Go.Proofs.Ytoeknbogaclfdaa
open Go

theorem i64_low (n m : Int) (k : Nat) (hk : k ≤ 62) (hm : (BitVec.ofInt 64 m).toNat = 2 ^ k - 1) : bits .and .i64 n m = n % ((2 ^ k : Nat) : Int) := by
  have key : (BitVec.ofInt 64 n &&& BitVec.ofInt 64 m).toNat = (n % ((2 ^ 64 : Nat) : Int)).toNat % 2 ^ k := by
    rw [BitVec.toNat_and, BitVec.toNat_ofInt, hm, Nat.and_two_pow_sub_one_eq_mod]
  show IntKind.i64.wrap ((BitVec.ofInt 64 n &&& BitVec.ofInt 64 m).toNat : Nat) = n % ((2 ^ k : Nat) : Int)
  rw [key, IntKind.wrap_i64]
  have hp : 2 ^ k ≤ 2 ^ 62 := Nat.pow_le_pow_right (by omega) hk
  have h0 := Nat.two_pow_pos k
  have hd : (2 : Nat) ^ 64 = 2 ^ k * 2 ^ (64 - k) := by rw [← Nat.pow_add]; congr 1; omega
  have h1 : (n % ((2 ^ 64 : Nat) : Int)).toNat % 2 ^ k < 2 ^ k := Nat.mod_lt _ h0
  have h2 : (((n % ((2 ^ 64 : Nat) : Int)).toNat % 2 ^ k : Nat) : Int) = n % ((2 ^ k : Nat) : Int) := by
    rw [Int.natCast_emod, Int.toNat_of_nonneg (Int.emod_nonneg _ (by omega)), hd]
    push_cast
    rw [Int.emod_emod_of_dvd _ ⟨_, rfl⟩]
  rw [h2]
  generalize n % ((2 ^ k : Nat) : Int) = y at *
  omega
theorem and3 (n : Int) : bits .and .i64 n 3 = n % 4 := i64_low n 3 2 (by omega) (by decide)
theorem and15 (n : Int) : bits .and .i64 n 15 = n % 16 := i64_low n 15 4 (by omega) (by decide)
theorem and63 (n : Int) : bits .and .i64 n 63 = n % 64 := i64_low n 63 6 (by omega) (by decide)
theorem and255 (n : Int) : bits .and .i64 n 255 = n % 256 := i64_low n 255 8 (by omega) (by decide)
theorem and511 (n : Int) : bits .and .i64 n 511 = n % 512 := i64_low n 511 9 (by omega) (by decide)
theorem and65535 (n : Int) : bits .and .i64 n 65535 = n % 65536 := i64_low n 65535 16 (by omega) (by decide)
theorem and1 (n : Int) : bits .and .i64 n 1 = n % 2 := i64_low n 1 1 (by omega) (by decide)
end Go.Proofs.Ytoeknbogaclfdaa
