/-
  May an entry be: plain. No program in sight.
-/
import Derived.Test.YtcchlkialgjamaaBase
namespace Go.Proofs.Ytcchlkialgjamaa
def rightN (t s : Int) (n : Nat) : Bool := decide (1 ≤ t ∧ t ≤ 1073741824 ∧ 1 ≤ s ∧ s ≤ 1099511627776 ∧ 1 ≤ n ∧ n ≤ 90)
theorem rightN_iff {t s : Int} {n : Nat} : rightN t s n = true ↔ 1 ≤ t ∧ t ≤ 1073741824 ∧ 1 ≤ s ∧ s ≤ 1099511627776 ∧ 1 ≤ n ∧ n ≤ 90 := by unfold rightN; simp
end Go.Proofs.Ytcchlkialgjamaa
