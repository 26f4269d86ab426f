/-
  A slice of entries that came in, opened.
-/
import Derived.Test.YtkoknleopmlhcaaOpenLst
import Derived.Test.YtkoknleopmlhcaaOpenEn
import Derived.Test.YtkoknleopmlhcaaLst
namespace Go.Proofs.Ytkoknleopmlhcaa
open Go.ChangeShapes Go.WideShapes Go.ChangeAt Go.RowKit Go.Deep
set_option linter.unusedVariables false
set_option maxRecDepth 100000
section
variable {H : Type} {enc : TypeId × Value → H} {w : World} {base : Nat} {spare : Nat → Bool} {held : Bool}
/-- the numbers of an entry that came in -/
def enB (x : En) : Prop := (-9223372036854775808 ≤ x.t ∧ x.t ≤ 9223372036854775807) ∧ (-9223372036854775808 ≤ x.s ∧ x.s ≤ 9223372036854775807)
theorem open_entries {r : Reach} {b0 : Nat} {v : Value} {d : DataW H} {p : List MemPlace} (hv : Value.okWide Try.prog w r b0 32 v) (h : DataW.Trod enc Try.prog w base spare held 32 v d p) :
    ∃ A n c xs, v = .slice A n c ∧ Lst 3 enR w A n c xs ∧ ∀ a ∈ xs, enB a := by
  refine open_lst (e := 39) (by kernel_rfl) (by kernel_rfl) en_rep (fun fuel cs x hx => ?_) hv h
  obtain ⟨t, s, A, n, c, l, rfl, hsl, b0, b1⟩ := entry_cells hx
  exact ⟨⟨t, s, l⟩, ⟨A, n, c, rfl, hsl⟩, b0, b1⟩
end
end Go.Proofs.Ytkoknleopmlhcaa
