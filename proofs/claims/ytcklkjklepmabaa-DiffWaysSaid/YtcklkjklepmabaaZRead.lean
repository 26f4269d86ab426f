/-
  Images with snapshots: contract of the program's Read.
-/
import Derived.Test.YtcklkjklepmabaaZFoldPlain
namespace Go.Proofs.Ytcklkjklepmabaa
open Go.RowKit
set_option linter.unusedVariables false
set_option maxRecDepth 100000

def readD (st : St) (nm : ByteArray) : List UInt8 := if nm = ⟨#[]⟩ then st.d else (st.sn.getD (findN st nm) ⟨nm, []⟩).d
def readN (st : St) (nm : ByteArray) (o n : Int) : Nat :=
  if nm ≠ ⟨#[]⟩ ∧ findI st.sn nm < 0 then 4 else if n < 0 then 1
  else if o < 0 ∨ ((readD st nm).length : Int) < o ∨ ((readD st nm).length : Int) - o < n then 3 else 0
def readL (st : St) (nm : ByteArray) (o n : Int) : List UInt8 := if readN st nm o n = 0 then ((readD st nm).drop o.toNat).take n.toNat else []
end Go.Proofs.Ytcklkjklepmabaa
