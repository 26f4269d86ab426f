/-
  No cell of these rows narrows 'for every input' (looked for: loops, veiled, ifaces, maps, wideKeys, modest, calm, conditions, laid).
  DERIVED. THE GIVEN ROWS OF THIS SEAT. 17 by the template 'for every input the law returns true; each argument reads behind the call as it read before'; 0 by the template 'total and deterministic' (their statements: YtcklkjklepmabaaTotals.lean).
  GIVEN WITH THE SEED: the statements are not yours to turn. If you find one false, say at which input.
  Laid BY PROGRAM, IN A SANDBOX (cutbox-rows.mjs): the forced cells as the released guide's own fill.sh prints them over the translation d5d9dbbfcff7c6ee… (all of the seat's roots in one cut). By AI agents, Wed Nov 11 2026. No macro, syntax, notation, axiom, sorry.
-/
import Derived.Test.YtcklkjklepmabaaChecked
import GoSem.Claim
import GoSem.ClaimJoined
import GoSem.ClaimMapViews
import Derived.JoinedTies
import Derived.KernelRfl
namespace Go.Proofs.Ytcklkjklepmabaa
/- THE CELL 'sum', in the pinned program and in every row, IS THE sha256 OF THE DUMP (.gsa) THAT YtcklkjklepmabaaProg.lean LOADS. Nothing in Lean hashes anything: it is a label: what it is worth is what the hold of that sum in a sandbox is worth. -/
noncomputable def Try.pinned : Pinned := { name := "ytcklkjklepmabaa", sum := "d5d9dbbfcff7c6ee13900b0975eafb57d366adfc1921422e1f2c82e6d24efd21", checked := Try.checked }
namespace Rows
def none {H : Type} : Left H := { results := [], args := [] }

/-- 'hectographlaw15.DiffLeast': WHATEVER THE INPUT: true; the input reads as it did. -/
def diffLeastSpec : ChangeSpec := { name := "diffLeast", fn := fun _ => fun
  | [d1, d2] => { results := [.lit (.bool true)], args := [d1, d2] }
  | _ => none }
def diffLeastRow : OpenClaim := { program := "ytcklkjklepmabaa", sum := "d5d9dbbfcff7c6ee13900b0975eafb57d366adfc1921422e1f2c82e6d24efd21", func := "hectograph/hectographlaw15.DiffLeast", spec := "diffLeast", apart := false }
def DiffLeastSaid : Prop := diffLeastRow.holds Try.pinned (OpenSpec.ofChange diffLeastSpec)

/-- ITS FALSE NEIGHBOUR: 'it returns false'. Refute it at one input. -/
def diffLeastWrong : ChangeSpec := { name := "diffLeast", fn := fun _ => fun
  | [d1, d2] => { results := [.lit (.bool false)], args := [d1, d2] }
  | _ => none }
def DiffLeastWrongFalsely : Prop := diffLeastRow.holds Try.pinned (OpenSpec.ofChange diffLeastWrong)

/-- 'hectographlaw15.DiffWays': WHATEVER THE INPUT: true; the input reads as it did. -/
def diffWaysSpec : ChangeSpec := { name := "diffWays", fn := fun _ => fun
  | [d1, d2, d3, d4, d5] => { results := [.lit (.bool true)], args := [d1, d2, d3, d4, d5] }
  | _ => none }
def diffWaysRow : OpenClaim := { program := "ytcklkjklepmabaa", sum := "d5d9dbbfcff7c6ee13900b0975eafb57d366adfc1921422e1f2c82e6d24efd21", func := "hectograph/hectographlaw15.DiffWays", spec := "diffWays", apart := false }
def DiffWaysSaid : Prop := diffWaysRow.holds Try.pinned (OpenSpec.ofChange diffWaysSpec)

/-- ITS FALSE NEIGHBOUR: 'it returns false'. Refute it at one input. -/
def diffWaysWrong : ChangeSpec := { name := "diffWays", fn := fun _ => fun
  | [d1, d2, d3, d4, d5] => { results := [.lit (.bool false)], args := [d1, d2, d3, d4, d5] }
  | _ => none }
def DiffWaysWrongFalsely : Prop := diffWaysRow.holds Try.pinned (OpenSpec.ofChange diffWaysWrong)

/-- 'hectographlaw15.DiffStates': WHATEVER THE INPUT: true; the input reads as it did. -/
def diffStatesSpec : ChangeSpec := { name := "diffStates", fn := fun _ => fun
  | [d1, d2] => { results := [.lit (.bool true)], args := [d1, d2] }
  | _ => none }
def diffStatesRow : OpenClaim := { program := "ytcklkjklepmabaa", sum := "d5d9dbbfcff7c6ee13900b0975eafb57d366adfc1921422e1f2c82e6d24efd21", func := "hectograph/hectographlaw15.DiffStates", spec := "diffStates", apart := false }
def DiffStatesSaid : Prop := diffStatesRow.holds Try.pinned (OpenSpec.ofChange diffStatesSpec)

/-- ITS FALSE NEIGHBOUR: 'it returns false'. Refute it at one input. -/
def diffStatesWrong : ChangeSpec := { name := "diffStates", fn := fun _ => fun
  | [d1, d2] => { results := [.lit (.bool false)], args := [d1, d2] }
  | _ => none }
def DiffStatesWrongFalsely : Prop := diffStatesRow.holds Try.pinned (OpenSpec.ofChange diffStatesWrong)

/-- 'hectographlaw15.DiffBytes': WHATEVER THE INPUT: true; the input reads as it did. -/
def diffBytesSpec : ChangeSpec := { name := "diffBytes", fn := fun _ => fun
  | [d1, d2, d3] => { results := [.lit (.bool true)], args := [d1, d2, d3] }
  | _ => none }
def diffBytesRow : OpenClaim := { program := "ytcklkjklepmabaa", sum := "d5d9dbbfcff7c6ee13900b0975eafb57d366adfc1921422e1f2c82e6d24efd21", func := "hectograph/hectographlaw15.DiffBytes", spec := "diffBytes", apart := false }
def DiffBytesSaid : Prop := diffBytesRow.holds Try.pinned (OpenSpec.ofChange diffBytesSpec)

/-- ITS FALSE NEIGHBOUR: 'it returns false'. Refute it at one input. -/
def diffBytesWrong : ChangeSpec := { name := "diffBytes", fn := fun _ => fun
  | [d1, d2, d3] => { results := [.lit (.bool false)], args := [d1, d2, d3] }
  | _ => none }
def DiffBytesWrongFalsely : Prop := diffBytesRow.holds Try.pinned (OpenSpec.ofChange diffBytesWrong)

/-- 'hectographlaw5.EventBack': WHATEVER THE INPUT: true; the input reads as it did. -/
def eventBackSpec : ChangeSpec := { name := "eventBack", fn := fun _ => fun
  | [d] => { results := [.lit (.bool true)], args := [d] }
  | _ => none }
def eventBackRow : OpenClaim := { program := "ytcklkjklepmabaa", sum := "d5d9dbbfcff7c6ee13900b0975eafb57d366adfc1921422e1f2c82e6d24efd21", func := "hectograph/hectographlaw5.EventBack", spec := "eventBack", apart := false }
def EventBackSaid : Prop := eventBackRow.holds Try.pinned (OpenSpec.ofChange eventBackSpec)

/-- ITS FALSE NEIGHBOUR: 'it returns false'. Refute it at one input. -/
def eventBackWrong : ChangeSpec := { name := "eventBack", fn := fun _ => fun
  | [d] => { results := [.lit (.bool false)], args := [d] }
  | _ => none }
def EventBackWrongFalsely : Prop := eventBackRow.holds Try.pinned (OpenSpec.ofChange eventBackWrong)

/-- 'hectographlaw5.EventOne': WHATEVER THE INPUT: true; the input reads as it did. -/
def eventOneSpec : ChangeSpec := { name := "eventOne", fn := fun _ => fun
  | [d1, d2] => { results := [.lit (.bool true)], args := [d1, d2] }
  | _ => none }
def eventOneRow : OpenClaim := { program := "ytcklkjklepmabaa", sum := "d5d9dbbfcff7c6ee13900b0975eafb57d366adfc1921422e1f2c82e6d24efd21", func := "hectograph/hectographlaw5.EventOne", spec := "eventOne", apart := false }
def EventOneSaid : Prop := eventOneRow.holds Try.pinned (OpenSpec.ofChange eventOneSpec)

/-- ITS FALSE NEIGHBOUR: 'it returns false'. Refute it at one input. -/
def eventOneWrong : ChangeSpec := { name := "eventOne", fn := fun _ => fun
  | [d1, d2] => { results := [.lit (.bool false)], args := [d1, d2] }
  | _ => none }
def EventOneWrongFalsely : Prop := eventOneRow.holds Try.pinned (OpenSpec.ofChange eventOneWrong)

/-- 'hectographlaw5.EventBounds': WHATEVER THE INPUT: true; the input reads as it did. -/
def eventBoundsSpec : ChangeSpec := { name := "eventBounds", fn := fun _ => fun
  | [d1, d2] => { results := [.lit (.bool true)], args := [d1, d2] }
  | _ => none }
def eventBoundsRow : OpenClaim := { program := "ytcklkjklepmabaa", sum := "d5d9dbbfcff7c6ee13900b0975eafb57d366adfc1921422e1f2c82e6d24efd21", func := "hectograph/hectographlaw5.EventBounds", spec := "eventBounds", apart := false }
def EventBoundsSaid : Prop := eventBoundsRow.holds Try.pinned (OpenSpec.ofChange eventBoundsSpec)

/-- ITS FALSE NEIGHBOUR: 'it returns false'. Refute it at one input. -/
def eventBoundsWrong : ChangeSpec := { name := "eventBounds", fn := fun _ => fun
  | [d1, d2] => { results := [.lit (.bool false)], args := [d1, d2] }
  | _ => none }
def EventBoundsWrongFalsely : Prop := eventBoundsRow.holds Try.pinned (OpenSpec.ofChange eventBoundsWrong)

/-- 'hectographlaw5.EventTurns': WHATEVER THE INPUT: true; the input reads as it did. -/
def eventTurnsSpec : ChangeSpec := { name := "eventTurns", fn := fun _ => fun
  | [d1, d2] => { results := [.lit (.bool true)], args := [d1, d2] }
  | _ => none }
def eventTurnsRow : OpenClaim := { program := "ytcklkjklepmabaa", sum := "d5d9dbbfcff7c6ee13900b0975eafb57d366adfc1921422e1f2c82e6d24efd21", func := "hectograph/hectographlaw5.EventTurns", spec := "eventTurns", apart := false }
def EventTurnsSaid : Prop := eventTurnsRow.holds Try.pinned (OpenSpec.ofChange eventTurnsSpec)

/-- ITS FALSE NEIGHBOUR: 'it returns false'. Refute it at one input. -/
def eventTurnsWrong : ChangeSpec := { name := "eventTurns", fn := fun _ => fun
  | [d1, d2] => { results := [.lit (.bool false)], args := [d1, d2] }
  | _ => none }
def EventTurnsWrongFalsely : Prop := eventTurnsRow.holds Try.pinned (OpenSpec.ofChange eventTurnsWrong)

/-- 'hectographlaw5.EventTells': WHATEVER THE INPUT: true; the input reads as it did. -/
def eventTellsSpec : ChangeSpec := { name := "eventTells", fn := fun _ => fun
  | [d1, d2, d3] => { results := [.lit (.bool true)], args := [d1, d2, d3] }
  | _ => none }
def eventTellsRow : OpenClaim := { program := "ytcklkjklepmabaa", sum := "d5d9dbbfcff7c6ee13900b0975eafb57d366adfc1921422e1f2c82e6d24efd21", func := "hectograph/hectographlaw5.EventTells", spec := "eventTells", apart := false }
def EventTellsSaid : Prop := eventTellsRow.holds Try.pinned (OpenSpec.ofChange eventTellsSpec)

/-- ITS FALSE NEIGHBOUR: 'it returns false'. Refute it at one input. -/
def eventTellsWrong : ChangeSpec := { name := "eventTells", fn := fun _ => fun
  | [d1, d2, d3] => { results := [.lit (.bool false)], args := [d1, d2, d3] }
  | _ => none }
def EventTellsWrongFalsely : Prop := eventTellsRow.holds Try.pinned (OpenSpec.ofChange eventTellsWrong)

/-- 'hectographlaw14.ModelSnaps': WHATEVER THE INPUT: true; the input reads as it did. -/
def modelSnapsSpec : ChangeSpec := { name := "modelSnaps", fn := fun _ => fun
  | [d1, d2, d3] => { results := [.lit (.bool true)], args := [d1, d2, d3] }
  | _ => none }
def modelSnapsRow : OpenClaim := { program := "ytcklkjklepmabaa", sum := "d5d9dbbfcff7c6ee13900b0975eafb57d366adfc1921422e1f2c82e6d24efd21", func := "hectograph/hectographlaw14.ModelSnaps", spec := "modelSnaps", apart := false }
def ModelSnapsSaid : Prop := modelSnapsRow.holds Try.pinned (OpenSpec.ofChange modelSnapsSpec)

/-- ITS FALSE NEIGHBOUR: 'it returns false'. Refute it at one input. -/
def modelSnapsWrong : ChangeSpec := { name := "modelSnaps", fn := fun _ => fun
  | [d1, d2, d3] => { results := [.lit (.bool false)], args := [d1, d2, d3] }
  | _ => none }
def ModelSnapsWrongFalsely : Prop := modelSnapsRow.holds Try.pinned (OpenSpec.ofChange modelSnapsWrong)

/-- 'hectographlaw14.ModelPlays': WHATEVER THE INPUT: true; the input reads as it did. -/
def modelPlaysSpec : ChangeSpec := { name := "modelPlays", fn := fun _ => fun
  | [d1, d2, d3, d4, d5] => { results := [.lit (.bool true)], args := [d1, d2, d3, d4, d5] }
  | _ => none }
def modelPlaysRow : OpenClaim := { program := "ytcklkjklepmabaa", sum := "d5d9dbbfcff7c6ee13900b0975eafb57d366adfc1921422e1f2c82e6d24efd21", func := "hectograph/hectographlaw14.ModelPlays", spec := "modelPlays", apart := false }
def ModelPlaysSaid : Prop := modelPlaysRow.holds Try.pinned (OpenSpec.ofChange modelPlaysSpec)

/-- ITS FALSE NEIGHBOUR: 'it returns false'. Refute it at one input. -/
def modelPlaysWrong : ChangeSpec := { name := "modelPlays", fn := fun _ => fun
  | [d1, d2, d3, d4, d5] => { results := [.lit (.bool false)], args := [d1, d2, d3, d4, d5] }
  | _ => none }
def ModelPlaysWrongFalsely : Prop := modelPlaysRow.holds Try.pinned (OpenSpec.ofChange modelPlaysWrong)

/-- 'hectographlaw14.ModelRefuses': WHATEVER THE INPUT: true; the input reads as it did. -/
def modelRefusesSpec : ChangeSpec := { name := "modelRefuses", fn := fun _ => fun
  | [d1, d2] => { results := [.lit (.bool true)], args := [d1, d2] }
  | _ => none }
def modelRefusesRow : OpenClaim := { program := "ytcklkjklepmabaa", sum := "d5d9dbbfcff7c6ee13900b0975eafb57d366adfc1921422e1f2c82e6d24efd21", func := "hectograph/hectographlaw14.ModelRefuses", spec := "modelRefuses", unfollowed := true, recurses := true, apart := false }
def ModelRefusesSaid : Prop := modelRefusesRow.holds Try.pinned (OpenSpec.ofChange modelRefusesSpec)

/-- ITS FALSE NEIGHBOUR: 'it returns false'. Refute it at one input. -/
def modelRefusesWrong : ChangeSpec := { name := "modelRefuses", fn := fun _ => fun
  | [d1, d2] => { results := [.lit (.bool false)], args := [d1, d2] }
  | _ => none }
def ModelRefusesWrongFalsely : Prop := modelRefusesRow.holds Try.pinned (OpenSpec.ofChange modelRefusesWrong)

/-- 'hectographlaw14.ModelNoughts': WHATEVER THE INPUT: true; the input reads as it did. -/
def modelNoughtsSpec : ChangeSpec := { name := "modelNoughts", fn := fun _ => fun
  | [d1, d2, d3, d4] => { results := [.lit (.bool true)], args := [d1, d2, d3, d4] }
  | _ => none }
def modelNoughtsRow : OpenClaim := { program := "ytcklkjklepmabaa", sum := "d5d9dbbfcff7c6ee13900b0975eafb57d366adfc1921422e1f2c82e6d24efd21", func := "hectograph/hectographlaw14.ModelNoughts", spec := "modelNoughts", unfollowed := true, recurses := true, apart := false }
def ModelNoughtsSaid : Prop := modelNoughtsRow.holds Try.pinned (OpenSpec.ofChange modelNoughtsSpec)

/-- ITS FALSE NEIGHBOUR: 'it returns false'. Refute it at one input. -/
def modelNoughtsWrong : ChangeSpec := { name := "modelNoughts", fn := fun _ => fun
  | [d1, d2, d3, d4] => { results := [.lit (.bool false)], args := [d1, d2, d3, d4] }
  | _ => none }
def ModelNoughtsWrongFalsely : Prop := modelNoughtsRow.holds Try.pinned (OpenSpec.ofChange modelNoughtsWrong)

/-- 'hectographlaw14.ModelStates': WHATEVER THE INPUT: true; the input reads as it did. -/
def modelStatesSpec : ChangeSpec := { name := "modelStates", fn := fun _ => fun
  | [d1, d2, d3, d4, d5, d6] => { results := [.lit (.bool true)], args := [d1, d2, d3, d4, d5, d6] }
  | _ => none }
def modelStatesRow : OpenClaim := { program := "ytcklkjklepmabaa", sum := "d5d9dbbfcff7c6ee13900b0975eafb57d366adfc1921422e1f2c82e6d24efd21", func := "hectograph/hectographlaw14.ModelStates", spec := "modelStates", unfollowed := true, recurses := true, apart := false }
def ModelStatesSaid : Prop := modelStatesRow.holds Try.pinned (OpenSpec.ofChange modelStatesSpec)

/-- ITS FALSE NEIGHBOUR: 'it returns false'. Refute it at one input. -/
def modelStatesWrong : ChangeSpec := { name := "modelStates", fn := fun _ => fun
  | [d1, d2, d3, d4, d5, d6] => { results := [.lit (.bool false)], args := [d1, d2, d3, d4, d5, d6] }
  | _ => none }
def ModelStatesWrongFalsely : Prop := modelStatesRow.holds Try.pinned (OpenSpec.ofChange modelStatesWrong)

/-- 'hectographlaw14.ModelFolds': WHATEVER THE INPUT: true; the input reads as it did. -/
def modelFoldsSpec : ChangeSpec := { name := "modelFolds", fn := fun _ => fun
  | [d1, d2, d3] => { results := [.lit (.bool true)], args := [d1, d2, d3] }
  | _ => none }
def modelFoldsRow : OpenClaim := { program := "ytcklkjklepmabaa", sum := "d5d9dbbfcff7c6ee13900b0975eafb57d366adfc1921422e1f2c82e6d24efd21", func := "hectograph/hectographlaw14.ModelFolds", spec := "modelFolds", unfollowed := true, recurses := true, apart := false }
def ModelFoldsSaid : Prop := modelFoldsRow.holds Try.pinned (OpenSpec.ofChange modelFoldsSpec)

/-- ITS FALSE NEIGHBOUR: 'it returns false'. Refute it at one input. -/
def modelFoldsWrong : ChangeSpec := { name := "modelFolds", fn := fun _ => fun
  | [d1, d2, d3] => { results := [.lit (.bool false)], args := [d1, d2, d3] }
  | _ => none }
def ModelFoldsWrongFalsely : Prop := modelFoldsRow.holds Try.pinned (OpenSpec.ofChange modelFoldsWrong)

/-- 'hectographlaw15.DiffLeads': WHATEVER THE INPUT: true; the input reads as it did. -/
def diffLeadsSpec : ChangeSpec := { name := "diffLeads", fn := fun _ => fun
  | [d1, d2, d3, d4, d5] => { results := [.lit (.bool true)], args := [d1, d2, d3, d4, d5] }
  | _ => none }
def diffLeadsRow : OpenClaim := { program := "ytcklkjklepmabaa", sum := "d5d9dbbfcff7c6ee13900b0975eafb57d366adfc1921422e1f2c82e6d24efd21", func := "hectograph/hectographlaw15.DiffLeads", spec := "diffLeads", unfollowed := true, recurses := true, apart := false }
def DiffLeadsSaid : Prop := diffLeadsRow.holds Try.pinned (OpenSpec.ofChange diffLeadsSpec)

/-- ITS FALSE NEIGHBOUR: 'it returns false'. Refute it at one input. -/
def diffLeadsWrong : ChangeSpec := { name := "diffLeads", fn := fun _ => fun
  | [d1, d2, d3, d4, d5] => { results := [.lit (.bool false)], args := [d1, d2, d3, d4, d5] }
  | _ => none }
def DiffLeadsWrongFalsely : Prop := diffLeadsRow.holds Try.pinned (OpenSpec.ofChange diffLeadsWrong)

/-- 'hectographlaw15.DiffTurns': WHATEVER THE INPUT: true; the input reads as it did. -/
def diffTurnsSpec : ChangeSpec := { name := "diffTurns", fn := fun _ => fun
  | [d1, d2, d3, d4] => { results := [.lit (.bool true)], args := [d1, d2, d3, d4] }
  | _ => none }
def diffTurnsRow : OpenClaim := { program := "ytcklkjklepmabaa", sum := "d5d9dbbfcff7c6ee13900b0975eafb57d366adfc1921422e1f2c82e6d24efd21", func := "hectograph/hectographlaw15.DiffTurns", spec := "diffTurns", unfollowed := true, recurses := true, apart := false }
def DiffTurnsSaid : Prop := diffTurnsRow.holds Try.pinned (OpenSpec.ofChange diffTurnsSpec)

/-- ITS FALSE NEIGHBOUR: 'it returns false'. Refute it at one input. -/
def diffTurnsWrong : ChangeSpec := { name := "diffTurns", fn := fun _ => fun
  | [d1, d2, d3, d4] => { results := [.lit (.bool false)], args := [d1, d2, d3, d4] }
  | _ => none }
def DiffTurnsWrongFalsely : Prop := diffTurnsRow.holds Try.pinned (OpenSpec.ofChange diffTurnsWrong)

/- THE SECOND FORM. 'bulk': how many values and letters a reading holds, each counted each time it is reached (what is shared counts as often as it is met; a slice's spare places count too). A statement '..UptoSaid' is the law's where the arguments, and the package variables that the reading takes, are together of bulk at most 1048576: NARROWER than '..Said'. Prove '..Said' where nothing that the law and all that it calls make is longer than what came in: it says more and counts as full. Else prove '..UptoSaid'. A law counts once. -/
mutual
def uptoBulk {H : Type} : DataW H → Nat
  | .lit (.string bytes) => bytes.length + 1
  | .lit _ => 1
  | .nil => 1
  | .ptr d => uptoBulk d + 1
  | .slice elems spare => uptoBulkAll elems + uptoBulkAll spare + 1
  | .agg parts => uptoBulkAll parts + 1
  | .iface _ d => uptoBulk d + 1
  | .map entries => uptoBulkEntries entries + 1
  | .held _ => 1
def uptoBulkAll {H : Type} : List (DataW H) → Nat
  | [] => 0
  | d :: r => uptoBulk d + uptoBulkAll r
def uptoBulkEntries {H : Type} : List (Lit × DataW H) → Nat
  | [] => 0
  | x :: r => uptoBulkEntry x + uptoBulkEntries r
def uptoBulkEntry {H : Type} : Lit × DataW H → Nat
  | (.string bytes, d) => bytes.length + uptoBulk d + 1
  | (_, d) => uptoBulk d + 1
 end
def uptoSmall : (H : Type) → List (DataW H) → Bool := fun _ ds => decide (uptoBulkAll ds ≤ 1048576)
def OpenSpec.upto (s : _root_.Go.ChangeSpec) : _root_.Go.OpenSpec := { _root_.Go.OpenSpec.ofChange s with cond := some uptoSmall }

/-- 'hectographlaw15.DiffLeast', WHERE WHAT IT READS IS OF BULK AT MOST 1048576: true; the input reads as it did. -/
def diffLeastUptoRow : OpenClaim := { program := "ytcklkjklepmabaa", sum := "d5d9dbbfcff7c6ee13900b0975eafb57d366adfc1921422e1f2c82e6d24efd21", func := "hectograph/hectographlaw15.DiffLeast", spec := "diffLeast", apart := false, narrowed := true }
def DiffLeastUptoSaid : Prop := diffLeastUptoRow.holds Try.pinned (OpenSpec.upto diffLeastSpec)

/-- 'hectographlaw15.DiffWays', WHERE WHAT IT READS IS OF BULK AT MOST 1048576: true; the input reads as it did. -/
def diffWaysUptoRow : OpenClaim := { program := "ytcklkjklepmabaa", sum := "d5d9dbbfcff7c6ee13900b0975eafb57d366adfc1921422e1f2c82e6d24efd21", func := "hectograph/hectographlaw15.DiffWays", spec := "diffWays", apart := false, narrowed := true }
def DiffWaysUptoSaid : Prop := diffWaysUptoRow.holds Try.pinned (OpenSpec.upto diffWaysSpec)

/-- 'hectographlaw15.DiffStates', WHERE WHAT IT READS IS OF BULK AT MOST 1048576: true; the input reads as it did. -/
def diffStatesUptoRow : OpenClaim := { program := "ytcklkjklepmabaa", sum := "d5d9dbbfcff7c6ee13900b0975eafb57d366adfc1921422e1f2c82e6d24efd21", func := "hectograph/hectographlaw15.DiffStates", spec := "diffStates", apart := false, narrowed := true }
def DiffStatesUptoSaid : Prop := diffStatesUptoRow.holds Try.pinned (OpenSpec.upto diffStatesSpec)

/-- 'hectographlaw15.DiffBytes', WHERE WHAT IT READS IS OF BULK AT MOST 1048576: true; the input reads as it did. -/
def diffBytesUptoRow : OpenClaim := { program := "ytcklkjklepmabaa", sum := "d5d9dbbfcff7c6ee13900b0975eafb57d366adfc1921422e1f2c82e6d24efd21", func := "hectograph/hectographlaw15.DiffBytes", spec := "diffBytes", apart := false, narrowed := true }
def DiffBytesUptoSaid : Prop := diffBytesUptoRow.holds Try.pinned (OpenSpec.upto diffBytesSpec)

/-- 'hectographlaw5.EventBack', WHERE WHAT IT READS IS OF BULK AT MOST 1048576: true; the input reads as it did. -/
def eventBackUptoRow : OpenClaim := { program := "ytcklkjklepmabaa", sum := "d5d9dbbfcff7c6ee13900b0975eafb57d366adfc1921422e1f2c82e6d24efd21", func := "hectograph/hectographlaw5.EventBack", spec := "eventBack", apart := false, narrowed := true }
def EventBackUptoSaid : Prop := eventBackUptoRow.holds Try.pinned (OpenSpec.upto eventBackSpec)

/-- 'hectographlaw5.EventOne', WHERE WHAT IT READS IS OF BULK AT MOST 1048576: true; the input reads as it did. -/
def eventOneUptoRow : OpenClaim := { program := "ytcklkjklepmabaa", sum := "d5d9dbbfcff7c6ee13900b0975eafb57d366adfc1921422e1f2c82e6d24efd21", func := "hectograph/hectographlaw5.EventOne", spec := "eventOne", apart := false, narrowed := true }
def EventOneUptoSaid : Prop := eventOneUptoRow.holds Try.pinned (OpenSpec.upto eventOneSpec)

/-- 'hectographlaw5.EventBounds', WHERE WHAT IT READS IS OF BULK AT MOST 1048576: true; the input reads as it did. -/
def eventBoundsUptoRow : OpenClaim := { program := "ytcklkjklepmabaa", sum := "d5d9dbbfcff7c6ee13900b0975eafb57d366adfc1921422e1f2c82e6d24efd21", func := "hectograph/hectographlaw5.EventBounds", spec := "eventBounds", apart := false, narrowed := true }
def EventBoundsUptoSaid : Prop := eventBoundsUptoRow.holds Try.pinned (OpenSpec.upto eventBoundsSpec)

/-- 'hectographlaw5.EventTurns', WHERE WHAT IT READS IS OF BULK AT MOST 1048576: true; the input reads as it did. -/
def eventTurnsUptoRow : OpenClaim := { program := "ytcklkjklepmabaa", sum := "d5d9dbbfcff7c6ee13900b0975eafb57d366adfc1921422e1f2c82e6d24efd21", func := "hectograph/hectographlaw5.EventTurns", spec := "eventTurns", apart := false, narrowed := true }
def EventTurnsUptoSaid : Prop := eventTurnsUptoRow.holds Try.pinned (OpenSpec.upto eventTurnsSpec)

/-- 'hectographlaw5.EventTells', WHERE WHAT IT READS IS OF BULK AT MOST 1048576: true; the input reads as it did. -/
def eventTellsUptoRow : OpenClaim := { program := "ytcklkjklepmabaa", sum := "d5d9dbbfcff7c6ee13900b0975eafb57d366adfc1921422e1f2c82e6d24efd21", func := "hectograph/hectographlaw5.EventTells", spec := "eventTells", apart := false, narrowed := true }
def EventTellsUptoSaid : Prop := eventTellsUptoRow.holds Try.pinned (OpenSpec.upto eventTellsSpec)

/-- 'hectographlaw14.ModelSnaps', WHERE WHAT IT READS IS OF BULK AT MOST 1048576: true; the input reads as it did. -/
def modelSnapsUptoRow : OpenClaim := { program := "ytcklkjklepmabaa", sum := "d5d9dbbfcff7c6ee13900b0975eafb57d366adfc1921422e1f2c82e6d24efd21", func := "hectograph/hectographlaw14.ModelSnaps", spec := "modelSnaps", apart := false, narrowed := true }
def ModelSnapsUptoSaid : Prop := modelSnapsUptoRow.holds Try.pinned (OpenSpec.upto modelSnapsSpec)

/-- 'hectographlaw14.ModelPlays', WHERE WHAT IT READS IS OF BULK AT MOST 1048576: true; the input reads as it did. -/
def modelPlaysUptoRow : OpenClaim := { program := "ytcklkjklepmabaa", sum := "d5d9dbbfcff7c6ee13900b0975eafb57d366adfc1921422e1f2c82e6d24efd21", func := "hectograph/hectographlaw14.ModelPlays", spec := "modelPlays", apart := false, narrowed := true }
def ModelPlaysUptoSaid : Prop := modelPlaysUptoRow.holds Try.pinned (OpenSpec.upto modelPlaysSpec)

/-- 'hectographlaw14.ModelRefuses', WHERE WHAT IT READS IS OF BULK AT MOST 1048576: true; the input reads as it did. -/
def modelRefusesUptoRow : OpenClaim := { program := "ytcklkjklepmabaa", sum := "d5d9dbbfcff7c6ee13900b0975eafb57d366adfc1921422e1f2c82e6d24efd21", func := "hectograph/hectographlaw14.ModelRefuses", spec := "modelRefuses", unfollowed := true, recurses := true, apart := false, narrowed := true }
def ModelRefusesUptoSaid : Prop := modelRefusesUptoRow.holds Try.pinned (OpenSpec.upto modelRefusesSpec)

/-- 'hectographlaw14.ModelNoughts', WHERE WHAT IT READS IS OF BULK AT MOST 1048576: true; the input reads as it did. -/
def modelNoughtsUptoRow : OpenClaim := { program := "ytcklkjklepmabaa", sum := "d5d9dbbfcff7c6ee13900b0975eafb57d366adfc1921422e1f2c82e6d24efd21", func := "hectograph/hectographlaw14.ModelNoughts", spec := "modelNoughts", unfollowed := true, recurses := true, apart := false, narrowed := true }
def ModelNoughtsUptoSaid : Prop := modelNoughtsUptoRow.holds Try.pinned (OpenSpec.upto modelNoughtsSpec)

/-- 'hectographlaw14.ModelStates', WHERE WHAT IT READS IS OF BULK AT MOST 1048576: true; the input reads as it did. -/
def modelStatesUptoRow : OpenClaim := { program := "ytcklkjklepmabaa", sum := "d5d9dbbfcff7c6ee13900b0975eafb57d366adfc1921422e1f2c82e6d24efd21", func := "hectograph/hectographlaw14.ModelStates", spec := "modelStates", unfollowed := true, recurses := true, apart := false, narrowed := true }
def ModelStatesUptoSaid : Prop := modelStatesUptoRow.holds Try.pinned (OpenSpec.upto modelStatesSpec)

/-- 'hectographlaw14.ModelFolds', WHERE WHAT IT READS IS OF BULK AT MOST 1048576: true; the input reads as it did. -/
def modelFoldsUptoRow : OpenClaim := { program := "ytcklkjklepmabaa", sum := "d5d9dbbfcff7c6ee13900b0975eafb57d366adfc1921422e1f2c82e6d24efd21", func := "hectograph/hectographlaw14.ModelFolds", spec := "modelFolds", unfollowed := true, recurses := true, apart := false, narrowed := true }
def ModelFoldsUptoSaid : Prop := modelFoldsUptoRow.holds Try.pinned (OpenSpec.upto modelFoldsSpec)

/-- 'hectographlaw15.DiffLeads', WHERE WHAT IT READS IS OF BULK AT MOST 1048576: true; the input reads as it did. -/
def diffLeadsUptoRow : OpenClaim := { program := "ytcklkjklepmabaa", sum := "d5d9dbbfcff7c6ee13900b0975eafb57d366adfc1921422e1f2c82e6d24efd21", func := "hectograph/hectographlaw15.DiffLeads", spec := "diffLeads", unfollowed := true, recurses := true, apart := false, narrowed := true }
def DiffLeadsUptoSaid : Prop := diffLeadsUptoRow.holds Try.pinned (OpenSpec.upto diffLeadsSpec)

/-- 'hectographlaw15.DiffTurns', WHERE WHAT IT READS IS OF BULK AT MOST 1048576: true; the input reads as it did. -/
def diffTurnsUptoRow : OpenClaim := { program := "ytcklkjklepmabaa", sum := "d5d9dbbfcff7c6ee13900b0975eafb57d366adfc1921422e1f2c82e6d24efd21", func := "hectograph/hectographlaw15.DiffTurns", spec := "diffTurns", unfollowed := true, recurses := true, apart := false, narrowed := true }
def DiffTurnsUptoSaid : Prop := diffTurnsUptoRow.holds Try.pinned (OpenSpec.upto diffTurnsSpec)

end Rows
end Go.Proofs.Ytcklkjklepmabaa
