/-
  The way from one image to another: what it is; plain.
-/
import Derived.Test.YtcklkjklepmabaaZFoldLaws
import Derived.Test.YtcklkjklepmabaaZDiffPlain
namespace Go.Proofs.Ytcklkjklepmabaa
open Go.RowKit
set_option linter.unusedVariables false

def alikeL : List Ol → List Ol → Nat
  | x :: xs, y :: ys => if x = y then alikeL xs ys + 1 else 0
  | [], _ => 0
  | _ :: _, [] => 0
def snapsW : List UInt8 → List Ol → List UInt8 → List Ev
  | now, [], last => bytesL now last
  | now, x :: xs, last => bytesL now x.d ++ ⟨5, 0, 0, [], x.nm⟩ :: snapsW x.d xs last
def unE (x : Ol) : Ev := ⟨6, 0, 0, [], x.nm⟩
def wayS (a b : St) : List Ev := if rightS a && rightS b then (a.sn.drop (alikeL a.sn b.sn)).reverse.map unE ++ snapsW a.d (b.sn.drop (alikeL a.sn b.sn)) b.d else []
theorem alike_le : ∀ (xs ys : List Ol), alikeL xs ys ≤ xs.length ∧ alikeL xs ys ≤ ys.length
  | [], ys => by simp [alikeL]
  | x :: xs, [] => by simp [alikeL]
  | x :: xs, y :: ys => by
    have := alike_le xs ys
    rw [alikeL]
    split
    · simp; omega
    · simp
end Go.Proofs.Ytcklkjklepmabaa
