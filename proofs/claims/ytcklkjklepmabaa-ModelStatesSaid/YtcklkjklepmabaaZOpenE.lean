/-
  One event that came in, opened.
-/
import Derived.Test.YtcklkjklepmabaaZOpenEvs
namespace Go.Proofs.Ytcklkjklepmabaa
open Go.ChangeShapes Go.WideShapes Go.ChangeAt Go.RowKit Go.Deep
set_option linter.unusedVariables false
set_option maxRecDepth 100000
section
variable {H : Type} {enc : TypeId × Value → H} {w : World} {base : Nat} {spare : Nat → Bool} {held : Bool}
theorem open_event {r : Reach} {b0 : Nat} {v : Value} {d : DataW H} {p : List MemPlace} (hv : Value.okWide Try.prog w r b0 28 v) (h : DataW.Trod enc Try.prog w base spare held 28 v d p) :
    ∃ (k o m : Int) (A : Option Addr) (n c : Nat) (l : List UInt8) (s : ByteArray), v = evV k o m A n c s ∧ Sl w A n c l ∧ s.size ≤ maxLen ∧
      (-9223372036854775808 ≤ k ∧ k ≤ 9223372036854775807) ∧ (-9223372036854775808 ≤ o ∧ o ≤ 9223372036854775807) ∧ (-9223372036854775808 ≤ m ∧ m ≤ 9223372036854775807) := by
  obtain ⟨fs, hs, _⟩ := under_event
  obtain ⟨cs, rfl, _⟩ := okWide_struct hs hv
  obtain ⟨fuel, hf⟩ := h
  obtain ⟨k, o, m, A, n, c, l, s, hcs, h1⟩ := event_cells hf
  refine ⟨k, o, m, A, n, c, l, s, ?_, h1⟩
  have : cs.toList = [.int .i64 k, .int .i64 o, .int .i64 m, .slice A n c, .string s] := by simpa [Value.cells] using hcs
  rw [← Array.toArray_toList (xs := cs), this]
end
end Go.Proofs.Ytcklkjklepmabaa
