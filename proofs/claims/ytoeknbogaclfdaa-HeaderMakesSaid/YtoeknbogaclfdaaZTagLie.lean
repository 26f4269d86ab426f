/-
  Chains: how two lie to each other: contracts of the program's Begins, Compare, Fork.
-/
import Derived.Test.YtoeknbogaclfdaaZTag
namespace Go.Proofs.Ytoeknbogaclfdaa
open Go.RowKit
set_option linter.unusedVariables false
set_option linter.unusedSimpArgs false
set_option linter.unnecessarySimpa false
set_option maxRecDepth 100000

theorem alikeN_le : ∀ (xs ys : List Tg), alikeN xs ys ≤ xs.length ∧ alikeN xs ys ≤ ys.length
  | [], ys => by unfold alikeN; simp
  | x :: xs, [] => by unfold alikeN; simp
  | x :: xs, y :: ys => by
    have := alikeN_le xs ys
    unfold alikeN
    split <;> simp <;> omega
/-- where the part behind the first ones alike begins -/
def nextPt (ys : List Tg) (k : Nat) (be : Int) : Int := match ys[k]? with | some y => y.pt | none => be
theorem nextPt_some {ys : List Tg} {k : Nat} {y : Tg} (h : ys[k]? = some y) (be : Int) : nextPt ys k be = y.pt := by unfold nextPt; rw [h]
theorem nextPt_none {ys : List Tg} {k : Nat} (h : ys.length ≤ k) (be : Int) : nextPt ys k be = be := by unfold nextPt; rw [List.getElem?_eq_none h]
def beginsB (xs : List Tg) (ae : Int) (ys : List Tg) (be : Int) : Bool := if alikeN xs ys < xs.length then false else decide (ae ≤ nextPt ys (alikeN xs ys) be)
def compareI (xs : List Tg) (ae : Int) (ys : List Tg) (be : Int) : Int :=
  if beginsB xs ae ys be = true ∧ beginsB ys be xs ae = true then 0 else if beginsB xs ae ys be = true then -1 else if beginsB ys be xs ae = true then 1 else 2
def capPt (ys : List Tg) (k : Nat) (e : Int) : Int := match ys[k]? with | some y => min e y.pt | none => e
def forkI (xs : List Tg) (ae : Int) (ys : List Tg) (be : Int) : Int := max (capPt ys (alikeN xs ys) (capPt xs (alikeN xs ys) (min ae be))) 0

end Go.Proofs.Ytoeknbogaclfdaa
