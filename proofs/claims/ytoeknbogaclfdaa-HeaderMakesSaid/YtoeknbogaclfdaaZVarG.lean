/-
  GetVar's contracts with named answers.
-/
import Derived.Test.YtoeknbogaclfdaaZVar
namespace Go.Proofs.Ytoeknbogaclfdaa
open Go.RowKit
set_option linter.unusedVariables false

theorem gvN_bd {l : List UInt8} {a : Int} {p : Nat × Nat} (h : gvN l a = some p) : 0 ≤ a ∧ p.1 < 9223372036854775808 ∧ 1 ≤ p.2 ∧ p.2 ≤ 9 ∧ a.toNat + p.2 ≤ l.length := by
  unfold gvN at h
  split at h
  · have := gvF_lt 9 0 _ p h
    rw [List.length_drop] at this
    omega
  · cases h
/-- what GetVar tells is small -/
theorem gv_small (l : List UInt8) (a : Int) (ha : 0 ≤ a) : 0 ≤ gvA l a ∧ gvA l a ≤ 9223372036854775807 ∧ 0 ≤ gvB l a ∧ gvB l a ≤ l.length ∧ (gvC l a = true → a < gvB l a) ∧ (gvC l a = false → gvA l a = 0 ∧ gvB l a = 0) := by
  unfold gvA gvB gvC
  cases h : gvN l a with
  | none => simp
  | some p =>
    have := gvN_bd h
    simp only [Option.isSome_some, Bool.true_eq_false, false_implies, and_true, true_implies]
    omega
theorem bits_GetVar_h {A : Option Addr} {n c : Nat} {l : List UInt8} {a : Int} {w : World} (hs : Sl w A n c l) {ga gb : Int} {gc : Bool} (h : Hid (gvA l a = ga ∧ gvB l a = gb ∧ gvC l a = gc)) :
    Calls Try.prog 84 #[.slice A n c, .int .i64 a] w fun e w' => e = .returned (.tuple #[.int .i64 ga, .int .i64 gb, .bool gc]) ∧ w = w' := by
  have := bits_GetVar A n c l a w hs
  rwa [h.out.1, h.out.2.1, h.out.2.2] at this
theorem ref_GetVar_h {A : Option Addr} {n c : Nat} {l : List UInt8} {a : Int} {w : World} (hs : Sl w A n c l) (hn6 : n ≤ 1000000) {ga gb : Int} {gc : Bool} (h : Hid (gvA l a = ga ∧ gvB l a = gb ∧ gvC l a = gc)) :
    Calls Try.prog 96 #[.slice A n c, .int .i64 a] w fun e w' => e = .returned (.tuple #[.int .i64 ga, .int .i64 gb, .bool gc]) ∧ w = w' := by
  have := ref_GetVar A n c l a w hs hn6
  rwa [h.out.1, h.out.2.1, h.out.2.2] at this
end Go.Proofs.Ytoeknbogaclfdaa
