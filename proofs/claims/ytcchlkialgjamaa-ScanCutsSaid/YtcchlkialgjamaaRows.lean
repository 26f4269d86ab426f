/-
  No cell of these rows narrows 'for every input' (looked for: loops, veiled, ifaces, maps, wideKeys, modest, calm, conditions, laid).
  DERIVED. THE GIVEN ROWS OF THIS SEAT. 11 by the template 'for every input the law returns true; each argument reads behind the call as it read before'; 0 by the template 'total and deterministic' (their statements: YtcchlkialgjamaaTotals.lean).
  GIVEN WITH THE SEED: the statements are not yours to turn. If you find one false, say at which input.
  Laid BY PROGRAM, IN A SANDBOX (cutbox-rows.mjs): the forced cells as the released guide's own fill.sh prints them over the translation be4d3c6231056334… (all of the seat's roots in one cut). By AI agents, Wed Nov 11 2026. No macro, syntax, notation, axiom, sorry.
-/
import Derived.Test.YtcchlkialgjamaaChecked
import GoSem.Claim
import GoSem.ClaimJoined
import GoSem.ClaimMapViews
import Derived.JoinedTies
import Derived.KernelRfl
namespace Go.Proofs.Ytcchlkialgjamaa
/- THE CELL 'sum', in the pinned program and in every row, IS THE sha256 OF THE DUMP (.gsa) THAT YtcchlkialgjamaaProg.lean LOADS. Nothing in Lean hashes anything: it is a label: what it is worth is what the hold of that sum in a sandbox is worth. -/
noncomputable def Try.pinned : Pinned := { name := "ytcchlkialgjamaa", sum := "be4d3c6231056334e4e2cf48b17a1b3c8fe93b883682c341889c33de086f8950", checked := Try.checked }
namespace Rows
def none {H : Type} : Left H := { results := [], args := [] }

/-- 'hectographlaw4.FrameTells': WHATEVER THE INPUT: true; the input reads as it did. -/
def frameTellsSpec : ChangeSpec := { name := "frameTells", fn := fun _ => fun
  | [d1, d2, d3, d4] => { results := [.lit (.bool true)], args := [d1, d2, d3, d4] }
  | _ => none }
def frameTellsRow : OpenClaim := { program := "ytcchlkialgjamaa", sum := "be4d3c6231056334e4e2cf48b17a1b3c8fe93b883682c341889c33de086f8950", func := "hectograph/hectographlaw4.FrameTells", spec := "frameTells", apart := false }
def FrameTellsSaid : Prop := frameTellsRow.holds Try.pinned (OpenSpec.ofChange frameTellsSpec)

/-- ITS FALSE NEIGHBOUR: 'it returns false'. Refute it at one input. -/
def frameTellsWrong : ChangeSpec := { name := "frameTells", fn := fun _ => fun
  | [d1, d2, d3, d4] => { results := [.lit (.bool false)], args := [d1, d2, d3, d4] }
  | _ => none }
def FrameTellsWrongFalsely : Prop := frameTellsRow.holds Try.pinned (OpenSpec.ofChange frameTellsWrong)

/-- 'hectographlaw4.FrameTurns': WHATEVER THE INPUT: true; the input reads as it did. -/
def frameTurnsSpec : ChangeSpec := { name := "frameTurns", fn := fun _ => fun
  | [d1, d2, d3] => { results := [.lit (.bool true)], args := [d1, d2, d3] }
  | _ => none }
def frameTurnsRow : OpenClaim := { program := "ytcchlkialgjamaa", sum := "be4d3c6231056334e4e2cf48b17a1b3c8fe93b883682c341889c33de086f8950", func := "hectograph/hectographlaw4.FrameTurns", spec := "frameTurns", apart := false }
def FrameTurnsSaid : Prop := frameTurnsRow.holds Try.pinned (OpenSpec.ofChange frameTurnsSpec)

/-- ITS FALSE NEIGHBOUR: 'it returns false'. Refute it at one input. -/
def frameTurnsWrong : ChangeSpec := { name := "frameTurns", fn := fun _ => fun
  | [d1, d2, d3] => { results := [.lit (.bool false)], args := [d1, d2, d3] }
  | _ => none }
def FrameTurnsWrongFalsely : Prop := frameTurnsRow.holds Try.pinned (OpenSpec.ofChange frameTurnsWrong)

/-- 'hectographlaw4.FrameFields': WHATEVER THE INPUT: true; the input reads as it did. -/
def frameFieldsSpec : ChangeSpec := { name := "frameFields", fn := fun _ => fun
  | [d] => { results := [.lit (.bool true)], args := [d] }
  | _ => none }
def frameFieldsRow : OpenClaim := { program := "ytcchlkialgjamaa", sum := "be4d3c6231056334e4e2cf48b17a1b3c8fe93b883682c341889c33de086f8950", func := "hectograph/hectographlaw4.FrameFields", spec := "frameFields", apart := false }
def FrameFieldsSaid : Prop := frameFieldsRow.holds Try.pinned (OpenSpec.ofChange frameFieldsSpec)

/-- ITS FALSE NEIGHBOUR: 'it returns false'. Refute it at one input. -/
def frameFieldsWrong : ChangeSpec := { name := "frameFields", fn := fun _ => fun
  | [d] => { results := [.lit (.bool false)], args := [d] }
  | _ => none }
def FrameFieldsWrongFalsely : Prop := frameFieldsRow.holds Try.pinned (OpenSpec.ofChange frameFieldsWrong)

/-- 'hectographlaw4.FrameSeeks': WHATEVER THE INPUT: true; the input reads as it did. -/
def frameSeeksSpec : ChangeSpec := { name := "frameSeeks", fn := fun _ => fun
  | [d1, d2, d3] => { results := [.lit (.bool true)], args := [d1, d2, d3] }
  | _ => none }
def frameSeeksRow : OpenClaim := { program := "ytcchlkialgjamaa", sum := "be4d3c6231056334e4e2cf48b17a1b3c8fe93b883682c341889c33de086f8950", func := "hectograph/hectographlaw4.FrameSeeks", spec := "frameSeeks", apart := false }
def FrameSeeksSaid : Prop := frameSeeksRow.holds Try.pinned (OpenSpec.ofChange frameSeeksSpec)

/-- ITS FALSE NEIGHBOUR: 'it returns false'. Refute it at one input. -/
def frameSeeksWrong : ChangeSpec := { name := "frameSeeks", fn := fun _ => fun
  | [d1, d2, d3] => { results := [.lit (.bool false)], args := [d1, d2, d3] }
  | _ => none }
def FrameSeeksWrongFalsely : Prop := frameSeeksRow.holds Try.pinned (OpenSpec.ofChange frameSeeksWrong)

/-- 'hectographlaw4.FrameRows': WHATEVER THE INPUT: true; the input reads as it did. -/
def frameRowsSpec : ChangeSpec := { name := "frameRows", fn := fun _ => fun
  | [d1, d2, d3, d4, d5] => { results := [.lit (.bool true)], args := [d1, d2, d3, d4, d5] }
  | _ => none }
def frameRowsRow : OpenClaim := { program := "ytcchlkialgjamaa", sum := "be4d3c6231056334e4e2cf48b17a1b3c8fe93b883682c341889c33de086f8950", func := "hectograph/hectographlaw4.FrameRows", spec := "frameRows", apart := false }
def FrameRowsSaid : Prop := frameRowsRow.holds Try.pinned (OpenSpec.ofChange frameRowsSpec)

/-- ITS FALSE NEIGHBOUR: 'it returns false'. Refute it at one input. -/
def frameRowsWrong : ChangeSpec := { name := "frameRows", fn := fun _ => fun
  | [d1, d2, d3, d4, d5] => { results := [.lit (.bool false)], args := [d1, d2, d3, d4, d5] }
  | _ => none }
def FrameRowsWrongFalsely : Prop := frameRowsRow.holds Try.pinned (OpenSpec.ofChange frameRowsWrong)

/-- 'hectographlaw4.FrameBack': WHATEVER THE INPUT: true; the input reads as it did. -/
def frameBackSpec : ChangeSpec := { name := "frameBack", fn := fun _ => fun
  | [d1, d2] => { results := [.lit (.bool true)], args := [d1, d2] }
  | _ => none }
def frameBackRow : OpenClaim := { program := "ytcchlkialgjamaa", sum := "be4d3c6231056334e4e2cf48b17a1b3c8fe93b883682c341889c33de086f8950", func := "hectograph/hectographlaw4.FrameBack", spec := "frameBack", apart := false }
def FrameBackSaid : Prop := frameBackRow.holds Try.pinned (OpenSpec.ofChange frameBackSpec)

/-- ITS FALSE NEIGHBOUR: 'it returns false'. Refute it at one input. -/
def frameBackWrong : ChangeSpec := { name := "frameBack", fn := fun _ => fun
  | [d1, d2] => { results := [.lit (.bool false)], args := [d1, d2] }
  | _ => none }
def FrameBackWrongFalsely : Prop := frameBackRow.holds Try.pinned (OpenSpec.ofChange frameBackWrong)

/-- 'hectographlaw11.ScanWhole': WHATEVER THE INPUT: true; the input reads as it did. -/
def scanWholeSpec : ChangeSpec := { name := "scanWhole", fn := fun _ => fun
  | [d1, d2, d3, d4] => { results := [.lit (.bool true)], args := [d1, d2, d3, d4] }
  | _ => none }
def scanWholeRow : OpenClaim := { program := "ytcchlkialgjamaa", sum := "be4d3c6231056334e4e2cf48b17a1b3c8fe93b883682c341889c33de086f8950", func := "hectograph/hectographlaw11.ScanWhole", spec := "scanWhole", apart := false }
def ScanWholeSaid : Prop := scanWholeRow.holds Try.pinned (OpenSpec.ofChange scanWholeSpec)

/-- ITS FALSE NEIGHBOUR: 'it returns false'. Refute it at one input. -/
def scanWholeWrong : ChangeSpec := { name := "scanWhole", fn := fun _ => fun
  | [d1, d2, d3, d4] => { results := [.lit (.bool false)], args := [d1, d2, d3, d4] }
  | _ => none }
def ScanWholeWrongFalsely : Prop := scanWholeRow.holds Try.pinned (OpenSpec.ofChange scanWholeWrong)

/-- 'hectographlaw11.ScanGaps': WHATEVER THE INPUT: true; the input reads as it did. -/
def scanGapsSpec : ChangeSpec := { name := "scanGaps", fn := fun _ => fun
  | [d1, d2, d3, d4] => { results := [.lit (.bool true)], args := [d1, d2, d3, d4] }
  | _ => none }
def scanGapsRow : OpenClaim := { program := "ytcchlkialgjamaa", sum := "be4d3c6231056334e4e2cf48b17a1b3c8fe93b883682c341889c33de086f8950", func := "hectograph/hectographlaw11.ScanGaps", spec := "scanGaps", apart := false }
def ScanGapsSaid : Prop := scanGapsRow.holds Try.pinned (OpenSpec.ofChange scanGapsSpec)

/-- ITS FALSE NEIGHBOUR: 'it returns false'. Refute it at one input. -/
def scanGapsWrong : ChangeSpec := { name := "scanGaps", fn := fun _ => fun
  | [d1, d2, d3, d4] => { results := [.lit (.bool false)], args := [d1, d2, d3, d4] }
  | _ => none }
def ScanGapsWrongFalsely : Prop := scanGapsRow.holds Try.pinned (OpenSpec.ofChange scanGapsWrong)

/-- 'hectographlaw11.ScanTells': WHATEVER THE INPUT: true; the input reads as it did. -/
def scanTellsSpec : ChangeSpec := { name := "scanTells", fn := fun _ => fun
  | [d1, d2, d3] => { results := [.lit (.bool true)], args := [d1, d2, d3] }
  | _ => none }
def scanTellsRow : OpenClaim := { program := "ytcchlkialgjamaa", sum := "be4d3c6231056334e4e2cf48b17a1b3c8fe93b883682c341889c33de086f8950", func := "hectograph/hectographlaw11.ScanTells", spec := "scanTells", apart := false }
def ScanTellsSaid : Prop := scanTellsRow.holds Try.pinned (OpenSpec.ofChange scanTellsSpec)

/-- ITS FALSE NEIGHBOUR: 'it returns false'. Refute it at one input. -/
def scanTellsWrong : ChangeSpec := { name := "scanTells", fn := fun _ => fun
  | [d1, d2, d3] => { results := [.lit (.bool false)], args := [d1, d2, d3] }
  | _ => none }
def ScanTellsWrongFalsely : Prop := scanTellsRow.holds Try.pinned (OpenSpec.ofChange scanTellsWrong)

/-- 'hectographlaw11.ScanSpoils': WHATEVER THE INPUT: true; the input reads as it did. -/
def scanSpoilsSpec : ChangeSpec := { name := "scanSpoils", fn := fun _ => fun
  | [d1, d2, d3, d4, d5, d6, d7, d8] => { results := [.lit (.bool true)], args := [d1, d2, d3, d4, d5, d6, d7, d8] }
  | _ => none }
def scanSpoilsRow : OpenClaim := { program := "ytcchlkialgjamaa", sum := "be4d3c6231056334e4e2cf48b17a1b3c8fe93b883682c341889c33de086f8950", func := "hectograph/hectographlaw11.ScanSpoils", spec := "scanSpoils", apart := false }
def ScanSpoilsSaid : Prop := scanSpoilsRow.holds Try.pinned (OpenSpec.ofChange scanSpoilsSpec)

/-- ITS FALSE NEIGHBOUR: 'it returns false'. Refute it at one input. -/
def scanSpoilsWrong : ChangeSpec := { name := "scanSpoils", fn := fun _ => fun
  | [d1, d2, d3, d4, d5, d6, d7, d8] => { results := [.lit (.bool false)], args := [d1, d2, d3, d4, d5, d6, d7, d8] }
  | _ => none }
def ScanSpoilsWrongFalsely : Prop := scanSpoilsRow.holds Try.pinned (OpenSpec.ofChange scanSpoilsWrong)

/-- 'hectographlaw11.ScanCuts': WHATEVER THE INPUT: true; the input reads as it did. -/
def scanCutsSpec : ChangeSpec := { name := "scanCuts", fn := fun _ => fun
  | [d1, d2, d3, d4, d5] => { results := [.lit (.bool true)], args := [d1, d2, d3, d4, d5] }
  | _ => none }
def scanCutsRow : OpenClaim := { program := "ytcchlkialgjamaa", sum := "be4d3c6231056334e4e2cf48b17a1b3c8fe93b883682c341889c33de086f8950", func := "hectograph/hectographlaw11.ScanCuts", spec := "scanCuts", apart := false }
def ScanCutsSaid : Prop := scanCutsRow.holds Try.pinned (OpenSpec.ofChange scanCutsSpec)

/-- ITS FALSE NEIGHBOUR: 'it returns false'. Refute it at one input. -/
def scanCutsWrong : ChangeSpec := { name := "scanCuts", fn := fun _ => fun
  | [d1, d2, d3, d4, d5] => { results := [.lit (.bool false)], args := [d1, d2, d3, d4, d5] }
  | _ => none }
def ScanCutsWrongFalsely : Prop := scanCutsRow.holds Try.pinned (OpenSpec.ofChange scanCutsWrong)

/- THE SECOND FORM. 'bulk': how many values and letters a reading holds, each counted each time it is reached (what is shared counts as often as it is met; a slice's spare places count too). A statement '..UptoSaid' is the law's where the arguments, and the package variables that the reading takes, are together of bulk at most 1048576: NARROWER than '..Said'. Prove '..Said' where nothing that the law and all that it calls make is longer than what came in: it says more and counts as full. Else prove '..UptoSaid'. A law counts once. -/
mutual
def uptoBulk {H : Type} : DataW H → Nat
  | .lit (.string bytes) => bytes.length + 1
  | .lit _ => 1
  | .nil => 1
  | .ptr d => uptoBulk d + 1
  | .slice elems spare => uptoBulkAll elems + uptoBulkAll spare + 1
  | .agg parts => uptoBulkAll parts + 1
  | .iface _ d => uptoBulk d + 1
  | .map entries => uptoBulkEntries entries + 1
  | .held _ => 1
def uptoBulkAll {H : Type} : List (DataW H) → Nat
  | [] => 0
  | d :: r => uptoBulk d + uptoBulkAll r
def uptoBulkEntries {H : Type} : List (Lit × DataW H) → Nat
  | [] => 0
  | x :: r => uptoBulkEntry x + uptoBulkEntries r
def uptoBulkEntry {H : Type} : Lit × DataW H → Nat
  | (.string bytes, d) => bytes.length + uptoBulk d + 1
  | (_, d) => uptoBulk d + 1
 end
def uptoSmall : (H : Type) → List (DataW H) → Bool := fun _ ds => decide (uptoBulkAll ds ≤ 1048576)
def OpenSpec.upto (s : _root_.Go.ChangeSpec) : _root_.Go.OpenSpec := { _root_.Go.OpenSpec.ofChange s with cond := some uptoSmall }

/-- 'hectographlaw4.FrameTells', WHERE WHAT IT READS IS OF BULK AT MOST 1048576: true; the input reads as it did. -/
def frameTellsUptoRow : OpenClaim := { program := "ytcchlkialgjamaa", sum := "be4d3c6231056334e4e2cf48b17a1b3c8fe93b883682c341889c33de086f8950", func := "hectograph/hectographlaw4.FrameTells", spec := "frameTells", apart := false, narrowed := true }
def FrameTellsUptoSaid : Prop := frameTellsUptoRow.holds Try.pinned (OpenSpec.upto frameTellsSpec)

/-- 'hectographlaw4.FrameTurns', WHERE WHAT IT READS IS OF BULK AT MOST 1048576: true; the input reads as it did. -/
def frameTurnsUptoRow : OpenClaim := { program := "ytcchlkialgjamaa", sum := "be4d3c6231056334e4e2cf48b17a1b3c8fe93b883682c341889c33de086f8950", func := "hectograph/hectographlaw4.FrameTurns", spec := "frameTurns", apart := false, narrowed := true }
def FrameTurnsUptoSaid : Prop := frameTurnsUptoRow.holds Try.pinned (OpenSpec.upto frameTurnsSpec)

/-- 'hectographlaw4.FrameFields', WHERE WHAT IT READS IS OF BULK AT MOST 1048576: true; the input reads as it did. -/
def frameFieldsUptoRow : OpenClaim := { program := "ytcchlkialgjamaa", sum := "be4d3c6231056334e4e2cf48b17a1b3c8fe93b883682c341889c33de086f8950", func := "hectograph/hectographlaw4.FrameFields", spec := "frameFields", apart := false, narrowed := true }
def FrameFieldsUptoSaid : Prop := frameFieldsUptoRow.holds Try.pinned (OpenSpec.upto frameFieldsSpec)

/-- 'hectographlaw4.FrameSeeks', WHERE WHAT IT READS IS OF BULK AT MOST 1048576: true; the input reads as it did. -/
def frameSeeksUptoRow : OpenClaim := { program := "ytcchlkialgjamaa", sum := "be4d3c6231056334e4e2cf48b17a1b3c8fe93b883682c341889c33de086f8950", func := "hectograph/hectographlaw4.FrameSeeks", spec := "frameSeeks", apart := false, narrowed := true }
def FrameSeeksUptoSaid : Prop := frameSeeksUptoRow.holds Try.pinned (OpenSpec.upto frameSeeksSpec)

/-- 'hectographlaw4.FrameRows', WHERE WHAT IT READS IS OF BULK AT MOST 1048576: true; the input reads as it did. -/
def frameRowsUptoRow : OpenClaim := { program := "ytcchlkialgjamaa", sum := "be4d3c6231056334e4e2cf48b17a1b3c8fe93b883682c341889c33de086f8950", func := "hectograph/hectographlaw4.FrameRows", spec := "frameRows", apart := false, narrowed := true }
def FrameRowsUptoSaid : Prop := frameRowsUptoRow.holds Try.pinned (OpenSpec.upto frameRowsSpec)

/-- 'hectographlaw4.FrameBack', WHERE WHAT IT READS IS OF BULK AT MOST 1048576: true; the input reads as it did. -/
def frameBackUptoRow : OpenClaim := { program := "ytcchlkialgjamaa", sum := "be4d3c6231056334e4e2cf48b17a1b3c8fe93b883682c341889c33de086f8950", func := "hectograph/hectographlaw4.FrameBack", spec := "frameBack", apart := false, narrowed := true }
def FrameBackUptoSaid : Prop := frameBackUptoRow.holds Try.pinned (OpenSpec.upto frameBackSpec)

/-- 'hectographlaw11.ScanWhole', WHERE WHAT IT READS IS OF BULK AT MOST 1048576: true; the input reads as it did. -/
def scanWholeUptoRow : OpenClaim := { program := "ytcchlkialgjamaa", sum := "be4d3c6231056334e4e2cf48b17a1b3c8fe93b883682c341889c33de086f8950", func := "hectograph/hectographlaw11.ScanWhole", spec := "scanWhole", apart := false, narrowed := true }
def ScanWholeUptoSaid : Prop := scanWholeUptoRow.holds Try.pinned (OpenSpec.upto scanWholeSpec)

/-- 'hectographlaw11.ScanGaps', WHERE WHAT IT READS IS OF BULK AT MOST 1048576: true; the input reads as it did. -/
def scanGapsUptoRow : OpenClaim := { program := "ytcchlkialgjamaa", sum := "be4d3c6231056334e4e2cf48b17a1b3c8fe93b883682c341889c33de086f8950", func := "hectograph/hectographlaw11.ScanGaps", spec := "scanGaps", apart := false, narrowed := true }
def ScanGapsUptoSaid : Prop := scanGapsUptoRow.holds Try.pinned (OpenSpec.upto scanGapsSpec)

/-- 'hectographlaw11.ScanTells', WHERE WHAT IT READS IS OF BULK AT MOST 1048576: true; the input reads as it did. -/
def scanTellsUptoRow : OpenClaim := { program := "ytcchlkialgjamaa", sum := "be4d3c6231056334e4e2cf48b17a1b3c8fe93b883682c341889c33de086f8950", func := "hectograph/hectographlaw11.ScanTells", spec := "scanTells", apart := false, narrowed := true }
def ScanTellsUptoSaid : Prop := scanTellsUptoRow.holds Try.pinned (OpenSpec.upto scanTellsSpec)

/-- 'hectographlaw11.ScanSpoils', WHERE WHAT IT READS IS OF BULK AT MOST 1048576: true; the input reads as it did. -/
def scanSpoilsUptoRow : OpenClaim := { program := "ytcchlkialgjamaa", sum := "be4d3c6231056334e4e2cf48b17a1b3c8fe93b883682c341889c33de086f8950", func := "hectograph/hectographlaw11.ScanSpoils", spec := "scanSpoils", apart := false, narrowed := true }
def ScanSpoilsUptoSaid : Prop := scanSpoilsUptoRow.holds Try.pinned (OpenSpec.upto scanSpoilsSpec)

/-- 'hectographlaw11.ScanCuts', WHERE WHAT IT READS IS OF BULK AT MOST 1048576: true; the input reads as it did. -/
def scanCutsUptoRow : OpenClaim := { program := "ytcchlkialgjamaa", sum := "be4d3c6231056334e4e2cf48b17a1b3c8fe93b883682c341889c33de086f8950", func := "hectograph/hectographlaw11.ScanCuts", spec := "scanCuts", apart := false, narrowed := true }
def ScanCutsUptoSaid : Prop := scanCutsUptoRow.holds Try.pinned (OpenSpec.upto scanCutsSpec)

end Rows
end Go.Proofs.Ytcchlkialgjamaa
