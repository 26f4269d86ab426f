/-
  Events: contracts of the reference's Plain, Span, SameEvent.
-/
import Derived.Test.YtkoknleopmlhcaaCell
import Derived.Test.YtkoknleopmlhcaaEvRight
namespace Go.Proofs.Ytkoknleopmlhcaa
open Go.RowKit
set_option linter.unusedVariables false
set_option linter.unusedSimpArgs false
set_option linter.unnecessarySimpa false
set_option maxRecDepth 100000

def plainE (k o m : Int) (n : Nat) (s : ByteArray) : Bool := rightE k o m n s && decide (k = 1 ∨ k = 2 ∨ k = 3)
def spanO (k o m : Int) (n : Nat) (s : ByteArray) : Int := if plainE k o m n s then o else 0
def spanN (k o m : Int) (n : Nat) (s : ByteArray) : Int := if plainE k o m n s then (if k = 1 then (n : Int) else m) else 0
end Go.Proofs.Ytkoknleopmlhcaa
