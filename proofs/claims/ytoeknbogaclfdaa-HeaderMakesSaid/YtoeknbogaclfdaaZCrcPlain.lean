/-
  The plain law of sums: what the program's sums are, as functions of numbers and lists. No program in sight.
-/
import Derived.Laws.BitsAllLaws
namespace Go.Proofs.Ytoeknbogaclfdaa

def crcStep (c : Nat) : Nat := if c % 2 = 1 then (c / 2) ^^^ 2197175160 else c / 2
def crcSteps : Nat → Nat → Nat
  | 0, c => c
  | n + 1, c => crcStep (crcSteps n c)
def crcNext (c x : Nat) : Nat := crcSteps 8 (c ^^^ x)
def crcRun (c : Nat) (l : List UInt8) : Nat := l.foldl (fun c b => crcNext c b.toNat) c
def crcOf (l : List UInt8) : Nat := 4294967295 - crcRun 4294967295 l

theorem crcStep_lt {c : Nat} (h : c < 4294967296) : crcStep c < 4294967296 := by
  unfold crcStep
  split
  · exact Nat.xor_lt_two_pow (n := 32) (by omega) (by omega)
  · omega
theorem crcSteps_lt (n : Nat) {c : Nat} (h : c < 4294967296) : crcSteps n c < 4294967296 := by
  induction n with
  | zero => exact h
  | succ n ih => exact crcStep_lt ih
theorem xor_byte_lt {c x : Nat} (hc : c < 4294967296) (hx : x < 256) : c ^^^ x < 4294967296 := Nat.xor_lt_two_pow (n := 32) (by omega) (by omega)
theorem crcNext_lt {c x : Nat} (hc : c < 4294967296) (hx : x < 256) : crcNext c x < 4294967296 := crcSteps_lt 8 (xor_byte_lt hc hx)
theorem crcRun_lt (l : List UInt8) : ∀ {c : Nat}, c < 4294967296 → crcRun c l < 4294967296 := by
  induction l with
  | nil => intro c h; exact h
  | cons b l ih => intro c h; exact ih (crcNext_lt h b.toNat_lt)
theorem crcRun_append (c : Nat) (a b : List UInt8) : crcRun c (a ++ b) = crcRun (crcRun c a) b := by simp [crcRun]
theorem crcOf_lt (l : List UInt8) : crcOf l < 4294967296 := by unfold crcOf; omega
theorem crcRun_take {l : List UInt8} {k : Nat} (c : Nat) (h : k < l.length) : crcRun c (l.take (k + 1)) = crcNext (crcRun c (l.take k)) (l.getD k 0).toNat := by
  rw [List.take_succ_eq_append_getElem h, crcRun_append, List.getD_eq_getElem?_getD, List.getElem?_eq_getElem h]
  rfl
theorem odd_and (c : Nat) (hc : c < 4294967296) : bits .and .u32 (c : Int) 1 = ((c % 2 : Nat) : Int) := by
  have := u32_and_nat c 1 hc (by omega)
  rw [nat_mask1] at this
  exact this
theorem xor_poly (c : Nat) (hc : c < 4294967296) : bits .xor .u32 ((c : Int) / 2) 2197175160 = (((c / 2) ^^^ 2197175160 : Nat) : Int) := by
  have := u32_xor_nat (c / 2) 2197175160 (by omega) (by omega)
  rw [← this]
  rfl
theorem crcStep_odd {c : Nat} (h : c % 2 = 1) : crcStep c = (c / 2) ^^^ 2197175160 := by simp [crcStep, h]
theorem crcStep_even {c : Nat} (h : c % 2 = 0) : crcStep c = c / 2 := by simp [crcStep, h]
theorem ones_xor (q : Nat) (h : q < 4294967296) : 4294967295 ^^^ q = 4294967295 - q := by
  have h1 : (BitVec.allOnes 32 ^^^ BitVec.ofNat 32 q).toNat = 4294967295 ^^^ q := by
    rw [BitVec.toNat_xor, BitVec.toNat_ofNat, Nat.mod_eq_of_lt (by omega)]
    rfl
  have h2 : (BitVec.allOnes 32 ^^^ BitVec.ofNat 32 q).toNat = 4294967295 - q := by
    rw [BitVec.allOnes_xor, BitVec.toNat_not, BitVec.toNat_ofNat, Nat.mod_eq_of_lt (by omega)]
  rw [← h1, h2]
theorem not_u32 (q : Nat) (h : q < 4294967296) : bits .xor .u32 IntKind.u32.max (q : Int) = ((4294967295 - q : Nat) : Int) := by
  have := u32_xor_nat 4294967295 q (by omega) h
  rw [ones_xor q h] at this
  exact this
theorem crcOf_nine : crcOf [49, 50, 51, 52, 53, 54, 55, 56, 57] = 3808858755 := by decide +kernel
theorem crcOf_nil : crcOf [] = 0 := by decide +kernel
/-- a sum goes on over n noughts -/
def crcZeros : Nat → Nat → Nat
  | 0, c => c
  | n + 1, c => crcNext (crcZeros n c) 0
theorem crcZeros_lt (n : Nat) {c : Nat} (h : c < 4294967296) : crcZeros n c < 4294967296 := by
  induction n with
  | zero => exact h
  | succ n ih => exact crcNext_lt ih (by omega)
def crcJoin (a b n : Nat) : Nat := crcZeros n a ^^^ b
end Go.Proofs.Ytoeknbogaclfdaa
