/-
  Slices of integers and of tags that came in, opened.
-/
import Derived.Test.YtcchlkialgjamaaOpenLst
import Derived.Test.YtcchlkialgjamaaInts
namespace Go.Proofs.Ytcchlkialgjamaa
open Go.ChangeShapes Go.WideShapes Go.ChangeAt Go.RowKit Go.Deep
set_option linter.unusedVariables false
set_option maxRecDepth 100000
section
variable {H : Type} {enc : TypeId × Value → H} {w : World} {base : Nat} {spare : Nat → Bool} {held : Bool}
/-- an integer that came in -/
def inB (x : Int) : Prop := -9223372036854775808 ≤ x ∧ x ≤ 9223372036854775807
theorem open_i64s {r : Reach} {b0 : Nat} {v : Value} {d : DataW H} {p : List MemPlace} (hv : Value.okWide Try.prog w r b0 46 v) (h : DataW.Trod enc Try.prog w base spare held 46 v d p) :
    ∃ A n c xs, v = .slice A n c ∧ Lst 1 intR w A n c xs ∧ ∀ a ∈ xs, inB a := by
  refine open_lst (e := 3) (by kernel_rfl) (by kernel_rfl) int_rep (fun fuel cs x hx => ?_) hv h
  obtain ⟨k, hcs, _, hwf⟩ := DataW.trod_int under_i64 hx
  exact ⟨k, hcs, bounds_i64 hwf⟩
end
end Go.Proofs.Ytcchlkialgjamaa
