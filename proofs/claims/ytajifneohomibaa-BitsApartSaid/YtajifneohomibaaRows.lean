/-
  No cell of these rows narrows 'for every input' (looked for: loops, veiled, ifaces, maps, wideKeys, modest, calm, conditions, laid).
  DERIVED. THE GIVEN ROWS OF THIS SEAT. 13 by the template 'for every input the law returns true; each argument reads behind the call as it read before'; 0 by the template 'total and deterministic' (their statements: YtajifneohomibaaTotals.lean).
  GIVEN WITH THE SEED: the statements are not yours to turn. If you find one false, say at which input.
  Laid BY PROGRAM, IN A SANDBOX (cutbox-rows.mjs): the forced cells as the released guide's own fill.sh prints them over the translation ac5509a833daf4f2… (all of the seat's roots in one cut). By AI agents, Wed Nov 11 2026. No macro, syntax, notation, axiom, sorry.
-/
import Derived.Test.YtajifneohomibaaChecked
import GoSem.Claim
import GoSem.ClaimJoined
import GoSem.ClaimMapViews
import Derived.JoinedTies
import Derived.KernelRfl
namespace Go.Proofs.Ytajifneohomibaa
/- THE CELL 'sum', in the pinned program and in every row, IS THE sha256 OF THE DUMP (.gsa) THAT YtajifneohomibaaProg.lean LOADS. Nothing in Lean hashes anything: it is a label: what it is worth is what the hold of that sum in a sandbox is worth. -/
noncomputable def Try.pinned : Pinned := { name := "ytajifneohomibaa", sum := "ac5509a833daf4f2d2ef2a0ee3a205f6c6d751c2e1ffba5df1ed277889dc07af", checked := Try.checked }
namespace Rows
def none {H : Type} : Left H := { results := [], args := [] }

/-- 'hectographlaw2.CrcNumbers': WHATEVER THE INPUT: true; the input reads as it did. -/
def crcNumbersSpec : ChangeSpec := { name := "crcNumbers", fn := fun _ => fun
  | [] => { results := [.lit (.bool true)], args := [] }
  | _ => none }
def crcNumbersRow : OpenClaim := { program := "ytajifneohomibaa", sum := "ac5509a833daf4f2d2ef2a0ee3a205f6c6d751c2e1ffba5df1ed277889dc07af", func := "hectograph/hectographlaw2.CrcNumbers", spec := "crcNumbers", apart := false }
def CrcNumbersSaid : Prop := crcNumbersRow.holds Try.pinned (OpenSpec.ofChange crcNumbersSpec)

/-- ITS FALSE NEIGHBOUR: 'it returns false'. Refute it at one input. -/
def crcNumbersWrong : ChangeSpec := { name := "crcNumbers", fn := fun _ => fun
  | [] => { results := [.lit (.bool false)], args := [] }
  | _ => none }
def CrcNumbersWrongFalsely : Prop := crcNumbersRow.holds Try.pinned (OpenSpec.ofChange crcNumbersWrong)

/-- 'hectographlaw2.CrcTurns': WHATEVER THE INPUT: true; the input reads as it did. -/
def crcTurnsSpec : ChangeSpec := { name := "crcTurns", fn := fun _ => fun
  | [d1, d2, d3] => { results := [.lit (.bool true)], args := [d1, d2, d3] }
  | _ => none }
def crcTurnsRow : OpenClaim := { program := "ytajifneohomibaa", sum := "ac5509a833daf4f2d2ef2a0ee3a205f6c6d751c2e1ffba5df1ed277889dc07af", func := "hectograph/hectographlaw2.CrcTurns", spec := "crcTurns", apart := false }
def CrcTurnsSaid : Prop := crcTurnsRow.holds Try.pinned (OpenSpec.ofChange crcTurnsSpec)

/-- ITS FALSE NEIGHBOUR: 'it returns false'. Refute it at one input. -/
def crcTurnsWrong : ChangeSpec := { name := "crcTurns", fn := fun _ => fun
  | [d1, d2, d3] => { results := [.lit (.bool false)], args := [d1, d2, d3] }
  | _ => none }
def CrcTurnsWrongFalsely : Prop := crcTurnsRow.holds Try.pinned (OpenSpec.ofChange crcTurnsWrong)

/-- 'hectographlaw2.CrcLinear': WHATEVER THE INPUT: true; the input reads as it did. -/
def crcLinearSpec : ChangeSpec := { name := "crcLinear", fn := fun _ => fun
  | [d1, d2, d3] => { results := [.lit (.bool true)], args := [d1, d2, d3] }
  | _ => none }
def crcLinearRow : OpenClaim := { program := "ytajifneohomibaa", sum := "ac5509a833daf4f2d2ef2a0ee3a205f6c6d751c2e1ffba5df1ed277889dc07af", func := "hectograph/hectographlaw2.CrcLinear", spec := "crcLinear", apart := false }
def CrcLinearSaid : Prop := crcLinearRow.holds Try.pinned (OpenSpec.ofChange crcLinearSpec)

/-- ITS FALSE NEIGHBOUR: 'it returns false'. Refute it at one input. -/
def crcLinearWrong : ChangeSpec := { name := "crcLinear", fn := fun _ => fun
  | [d1, d2, d3] => { results := [.lit (.bool false)], args := [d1, d2, d3] }
  | _ => none }
def CrcLinearWrongFalsely : Prop := crcLinearRow.holds Try.pinned (OpenSpec.ofChange crcLinearWrong)

/-- 'hectographlaw2.CrcSteps': WHATEVER THE INPUT: true; the input reads as it did. -/
def crcStepsSpec : ChangeSpec := { name := "crcSteps", fn := fun _ => fun
  | [d1, d2, d3, d4] => { results := [.lit (.bool true)], args := [d1, d2, d3, d4] }
  | _ => none }
def crcStepsRow : OpenClaim := { program := "ytajifneohomibaa", sum := "ac5509a833daf4f2d2ef2a0ee3a205f6c6d751c2e1ffba5df1ed277889dc07af", func := "hectograph/hectographlaw2.CrcSteps", spec := "crcSteps", apart := false }
def CrcStepsSaid : Prop := crcStepsRow.holds Try.pinned (OpenSpec.ofChange crcStepsSpec)

/-- ITS FALSE NEIGHBOUR: 'it returns false'. Refute it at one input. -/
def crcStepsWrong : ChangeSpec := { name := "crcSteps", fn := fun _ => fun
  | [d1, d2, d3, d4] => { results := [.lit (.bool false)], args := [d1, d2, d3, d4] }
  | _ => none }
def CrcStepsWrongFalsely : Prop := crcStepsRow.holds Try.pinned (OpenSpec.ofChange crcStepsWrong)

/-- 'hectographlaw2.CrcTells': WHATEVER THE INPUT: true; the input reads as it did. -/
def crcTellsSpec : ChangeSpec := { name := "crcTells", fn := fun _ => fun
  | [d1, d2, d3, d4] => { results := [.lit (.bool true)], args := [d1, d2, d3, d4] }
  | _ => none }
def crcTellsRow : OpenClaim := { program := "ytajifneohomibaa", sum := "ac5509a833daf4f2d2ef2a0ee3a205f6c6d751c2e1ffba5df1ed277889dc07af", func := "hectograph/hectographlaw2.CrcTells", spec := "crcTells", apart := false }
def CrcTellsSaid : Prop := crcTellsRow.holds Try.pinned (OpenSpec.ofChange crcTellsSpec)

/-- ITS FALSE NEIGHBOUR: 'it returns false'. Refute it at one input. -/
def crcTellsWrong : ChangeSpec := { name := "crcTells", fn := fun _ => fun
  | [d1, d2, d3, d4] => { results := [.lit (.bool false)], args := [d1, d2, d3, d4] }
  | _ => none }
def CrcTellsWrongFalsely : Prop := crcTellsRow.holds Try.pinned (OpenSpec.ofChange crcTellsWrong)

/-- 'hectographlaw2.CrcJoins': WHATEVER THE INPUT: true; the input reads as it did. -/
def crcJoinsSpec : ChangeSpec := { name := "crcJoins", fn := fun _ => fun
  | [d1, d2, d3] => { results := [.lit (.bool true)], args := [d1, d2, d3] }
  | _ => none }
def crcJoinsRow : OpenClaim := { program := "ytajifneohomibaa", sum := "ac5509a833daf4f2d2ef2a0ee3a205f6c6d751c2e1ffba5df1ed277889dc07af", func := "hectograph/hectographlaw2.CrcJoins", spec := "crcJoins", apart := false }
def CrcJoinsSaid : Prop := crcJoinsRow.holds Try.pinned (OpenSpec.ofChange crcJoinsSpec)

/-- ITS FALSE NEIGHBOUR: 'it returns false'. Refute it at one input. -/
def crcJoinsWrong : ChangeSpec := { name := "crcJoins", fn := fun _ => fun
  | [d1, d2, d3] => { results := [.lit (.bool false)], args := [d1, d2, d3] }
  | _ => none }
def CrcJoinsWrongFalsely : Prop := crcJoinsRow.holds Try.pinned (OpenSpec.ofChange crcJoinsWrong)

/-- 'hectographlaw1.BitsLogs': WHATEVER THE INPUT: true; the input reads as it did. -/
def bitsLogsSpec : ChangeSpec := { name := "bitsLogs", fn := fun _ => fun
  | [d] => { results := [.lit (.bool true)], args := [d] }
  | _ => none }
def bitsLogsRow : OpenClaim := { program := "ytajifneohomibaa", sum := "ac5509a833daf4f2d2ef2a0ee3a205f6c6d751c2e1ffba5df1ed277889dc07af", func := "hectograph/hectographlaw1.BitsLogs", spec := "bitsLogs", apart := false }
def BitsLogsSaid : Prop := bitsLogsRow.holds Try.pinned (OpenSpec.ofChange bitsLogsSpec)

/-- ITS FALSE NEIGHBOUR: 'it returns false'. Refute it at one input. -/
def bitsLogsWrong : ChangeSpec := { name := "bitsLogs", fn := fun _ => fun
  | [d] => { results := [.lit (.bool false)], args := [d] }
  | _ => none }
def BitsLogsWrongFalsely : Prop := bitsLogsRow.holds Try.pinned (OpenSpec.ofChange bitsLogsWrong)

/-- 'hectographlaw1.BitsApart': WHATEVER THE INPUT: true; the input reads as it did. -/
def bitsApartSpec : ChangeSpec := { name := "bitsApart", fn := fun _ => fun
  | [d1, d2, d3] => { results := [.lit (.bool true)], args := [d1, d2, d3] }
  | _ => none }
def bitsApartRow : OpenClaim := { program := "ytajifneohomibaa", sum := "ac5509a833daf4f2d2ef2a0ee3a205f6c6d751c2e1ffba5df1ed277889dc07af", func := "hectograph/hectographlaw1.BitsApart", spec := "bitsApart", apart := false }
def BitsApartSaid : Prop := bitsApartRow.holds Try.pinned (OpenSpec.ofChange bitsApartSpec)

/-- ITS FALSE NEIGHBOUR: 'it returns false'. Refute it at one input. -/
def bitsApartWrong : ChangeSpec := { name := "bitsApart", fn := fun _ => fun
  | [d1, d2, d3] => { results := [.lit (.bool false)], args := [d1, d2, d3] }
  | _ => none }
def BitsApartWrongFalsely : Prop := bitsApartRow.holds Try.pinned (OpenSpec.ofChange bitsApartWrong)

/-- 'hectographlaw1.BitsSigns': WHATEVER THE INPUT: true; the input reads as it did. -/
def bitsSignsSpec : ChangeSpec := { name := "bitsSigns", fn := fun _ => fun
  | [d1, d2, d3] => { results := [.lit (.bool true)], args := [d1, d2, d3] }
  | _ => none }
def bitsSignsRow : OpenClaim := { program := "ytajifneohomibaa", sum := "ac5509a833daf4f2d2ef2a0ee3a205f6c6d751c2e1ffba5df1ed277889dc07af", func := "hectograph/hectographlaw1.BitsSigns", spec := "bitsSigns", apart := false }
def BitsSignsSaid : Prop := bitsSignsRow.holds Try.pinned (OpenSpec.ofChange bitsSignsSpec)

/-- ITS FALSE NEIGHBOUR: 'it returns false'. Refute it at one input. -/
def bitsSignsWrong : ChangeSpec := { name := "bitsSigns", fn := fun _ => fun
  | [d1, d2, d3] => { results := [.lit (.bool false)], args := [d1, d2, d3] }
  | _ => none }
def BitsSignsWrongFalsely : Prop := bitsSignsRow.holds Try.pinned (OpenSpec.ofChange bitsSignsWrong)

/-- 'hectographlaw1.BitsParts': WHATEVER THE INPUT: true; the input reads as it did. -/
def bitsPartsSpec : ChangeSpec := { name := "bitsParts", fn := fun _ => fun
  | [d1, d2] => { results := [.lit (.bool true)], args := [d1, d2] }
  | _ => none }
def bitsPartsRow : OpenClaim := { program := "ytajifneohomibaa", sum := "ac5509a833daf4f2d2ef2a0ee3a205f6c6d751c2e1ffba5df1ed277889dc07af", func := "hectograph/hectographlaw1.BitsParts", spec := "bitsParts", apart := false }
def BitsPartsSaid : Prop := bitsPartsRow.holds Try.pinned (OpenSpec.ofChange bitsPartsSpec)

/-- ITS FALSE NEIGHBOUR: 'it returns false'. Refute it at one input. -/
def bitsPartsWrong : ChangeSpec := { name := "bitsParts", fn := fun _ => fun
  | [d1, d2] => { results := [.lit (.bool false)], args := [d1, d2] }
  | _ => none }
def BitsPartsWrongFalsely : Prop := bitsPartsRow.holds Try.pinned (OpenSpec.ofChange bitsPartsWrong)

/-- 'hectographlaw1.BitsNumbers': WHATEVER THE INPUT: true; the input reads as it did. -/
def bitsNumbersSpec : ChangeSpec := { name := "bitsNumbers", fn := fun _ => fun
  | [] => { results := [.lit (.bool true)], args := [] }
  | _ => none }
def bitsNumbersRow : OpenClaim := { program := "ytajifneohomibaa", sum := "ac5509a833daf4f2d2ef2a0ee3a205f6c6d751c2e1ffba5df1ed277889dc07af", func := "hectograph/hectographlaw1.BitsNumbers", spec := "bitsNumbers", apart := false }
def BitsNumbersSaid : Prop := bitsNumbersRow.holds Try.pinned (OpenSpec.ofChange bitsNumbersSpec)

/-- ITS FALSE NEIGHBOUR: 'it returns false'. Refute it at one input. -/
def bitsNumbersWrong : ChangeSpec := { name := "bitsNumbers", fn := fun _ => fun
  | [] => { results := [.lit (.bool false)], args := [] }
  | _ => none }
def BitsNumbersWrongFalsely : Prop := bitsNumbersRow.holds Try.pinned (OpenSpec.ofChange bitsNumbersWrong)

/-- 'hectographlaw1.BitsBack': WHATEVER THE INPUT: true; the input reads as it did. -/
def bitsBackSpec : ChangeSpec := { name := "bitsBack", fn := fun _ => fun
  | [d1, d2, d3, d4, d5, d6] => { results := [.lit (.bool true)], args := [d1, d2, d3, d4, d5, d6] }
  | _ => none }
def bitsBackRow : OpenClaim := { program := "ytajifneohomibaa", sum := "ac5509a833daf4f2d2ef2a0ee3a205f6c6d751c2e1ffba5df1ed277889dc07af", func := "hectograph/hectographlaw1.BitsBack", spec := "bitsBack", apart := false }
def BitsBackSaid : Prop := bitsBackRow.holds Try.pinned (OpenSpec.ofChange bitsBackSpec)

/-- ITS FALSE NEIGHBOUR: 'it returns false'. Refute it at one input. -/
def bitsBackWrong : ChangeSpec := { name := "bitsBack", fn := fun _ => fun
  | [d1, d2, d3, d4, d5, d6] => { results := [.lit (.bool false)], args := [d1, d2, d3, d4, d5, d6] }
  | _ => none }
def BitsBackWrongFalsely : Prop := bitsBackRow.holds Try.pinned (OpenSpec.ofChange bitsBackWrong)

/-- 'hectographlaw1.BitsTells': WHATEVER THE INPUT: true; the input reads as it did. -/
def bitsTellsSpec : ChangeSpec := { name := "bitsTells", fn := fun _ => fun
  | [d1, d2, d3, d4, d5, d6, d7] => { results := [.lit (.bool true)], args := [d1, d2, d3, d4, d5, d6, d7] }
  | _ => none }
def bitsTellsRow : OpenClaim := { program := "ytajifneohomibaa", sum := "ac5509a833daf4f2d2ef2a0ee3a205f6c6d751c2e1ffba5df1ed277889dc07af", func := "hectograph/hectographlaw1.BitsTells", spec := "bitsTells", apart := false }
def BitsTellsSaid : Prop := bitsTellsRow.holds Try.pinned (OpenSpec.ofChange bitsTellsSpec)

/-- ITS FALSE NEIGHBOUR: 'it returns false'. Refute it at one input. -/
def bitsTellsWrong : ChangeSpec := { name := "bitsTells", fn := fun _ => fun
  | [d1, d2, d3, d4, d5, d6, d7] => { results := [.lit (.bool false)], args := [d1, d2, d3, d4, d5, d6, d7] }
  | _ => none }
def BitsTellsWrongFalsely : Prop := bitsTellsRow.holds Try.pinned (OpenSpec.ofChange bitsTellsWrong)

/- THE SECOND FORM. 'bulk': how many values and letters a reading holds, each counted each time it is reached (what is shared counts as often as it is met; a slice's spare places count too). A statement '..UptoSaid' is the law's where the arguments, and the package variables that the reading takes, are together of bulk at most 1048576: NARROWER than '..Said'. Prove '..Said' where nothing that the law and all that it calls make is longer than what came in: it says more and counts as full. Else prove '..UptoSaid'. A law counts once. -/
mutual
def uptoBulk {H : Type} : DataW H → Nat
  | .lit (.string bytes) => bytes.length + 1
  | .lit _ => 1
  | .nil => 1
  | .ptr d => uptoBulk d + 1
  | .slice elems spare => uptoBulkAll elems + uptoBulkAll spare + 1
  | .agg parts => uptoBulkAll parts + 1
  | .iface _ d => uptoBulk d + 1
  | .map entries => uptoBulkEntries entries + 1
  | .held _ => 1
def uptoBulkAll {H : Type} : List (DataW H) → Nat
  | [] => 0
  | d :: r => uptoBulk d + uptoBulkAll r
def uptoBulkEntries {H : Type} : List (Lit × DataW H) → Nat
  | [] => 0
  | x :: r => uptoBulkEntry x + uptoBulkEntries r
def uptoBulkEntry {H : Type} : Lit × DataW H → Nat
  | (.string bytes, d) => bytes.length + uptoBulk d + 1
  | (_, d) => uptoBulk d + 1
 end
def uptoSmall : (H : Type) → List (DataW H) → Bool := fun _ ds => decide (uptoBulkAll ds ≤ 1048576)
def OpenSpec.upto (s : _root_.Go.ChangeSpec) : _root_.Go.OpenSpec := { _root_.Go.OpenSpec.ofChange s with cond := some uptoSmall }

/-- 'hectographlaw2.CrcNumbers', WHERE WHAT IT READS IS OF BULK AT MOST 1048576: true; the input reads as it did. -/
def crcNumbersUptoRow : OpenClaim := { program := "ytajifneohomibaa", sum := "ac5509a833daf4f2d2ef2a0ee3a205f6c6d751c2e1ffba5df1ed277889dc07af", func := "hectograph/hectographlaw2.CrcNumbers", spec := "crcNumbers", apart := false, narrowed := true }
def CrcNumbersUptoSaid : Prop := crcNumbersUptoRow.holds Try.pinned (OpenSpec.upto crcNumbersSpec)

/-- 'hectographlaw2.CrcTurns', WHERE WHAT IT READS IS OF BULK AT MOST 1048576: true; the input reads as it did. -/
def crcTurnsUptoRow : OpenClaim := { program := "ytajifneohomibaa", sum := "ac5509a833daf4f2d2ef2a0ee3a205f6c6d751c2e1ffba5df1ed277889dc07af", func := "hectograph/hectographlaw2.CrcTurns", spec := "crcTurns", apart := false, narrowed := true }
def CrcTurnsUptoSaid : Prop := crcTurnsUptoRow.holds Try.pinned (OpenSpec.upto crcTurnsSpec)

/-- 'hectographlaw2.CrcLinear', WHERE WHAT IT READS IS OF BULK AT MOST 1048576: true; the input reads as it did. -/
def crcLinearUptoRow : OpenClaim := { program := "ytajifneohomibaa", sum := "ac5509a833daf4f2d2ef2a0ee3a205f6c6d751c2e1ffba5df1ed277889dc07af", func := "hectograph/hectographlaw2.CrcLinear", spec := "crcLinear", apart := false, narrowed := true }
def CrcLinearUptoSaid : Prop := crcLinearUptoRow.holds Try.pinned (OpenSpec.upto crcLinearSpec)

/-- 'hectographlaw2.CrcSteps', WHERE WHAT IT READS IS OF BULK AT MOST 1048576: true; the input reads as it did. -/
def crcStepsUptoRow : OpenClaim := { program := "ytajifneohomibaa", sum := "ac5509a833daf4f2d2ef2a0ee3a205f6c6d751c2e1ffba5df1ed277889dc07af", func := "hectograph/hectographlaw2.CrcSteps", spec := "crcSteps", apart := false, narrowed := true }
def CrcStepsUptoSaid : Prop := crcStepsUptoRow.holds Try.pinned (OpenSpec.upto crcStepsSpec)

/-- 'hectographlaw2.CrcTells', WHERE WHAT IT READS IS OF BULK AT MOST 1048576: true; the input reads as it did. -/
def crcTellsUptoRow : OpenClaim := { program := "ytajifneohomibaa", sum := "ac5509a833daf4f2d2ef2a0ee3a205f6c6d751c2e1ffba5df1ed277889dc07af", func := "hectograph/hectographlaw2.CrcTells", spec := "crcTells", apart := false, narrowed := true }
def CrcTellsUptoSaid : Prop := crcTellsUptoRow.holds Try.pinned (OpenSpec.upto crcTellsSpec)

/-- 'hectographlaw2.CrcJoins', WHERE WHAT IT READS IS OF BULK AT MOST 1048576: true; the input reads as it did. -/
def crcJoinsUptoRow : OpenClaim := { program := "ytajifneohomibaa", sum := "ac5509a833daf4f2d2ef2a0ee3a205f6c6d751c2e1ffba5df1ed277889dc07af", func := "hectograph/hectographlaw2.CrcJoins", spec := "crcJoins", apart := false, narrowed := true }
def CrcJoinsUptoSaid : Prop := crcJoinsUptoRow.holds Try.pinned (OpenSpec.upto crcJoinsSpec)

/-- 'hectographlaw1.BitsLogs', WHERE WHAT IT READS IS OF BULK AT MOST 1048576: true; the input reads as it did. -/
def bitsLogsUptoRow : OpenClaim := { program := "ytajifneohomibaa", sum := "ac5509a833daf4f2d2ef2a0ee3a205f6c6d751c2e1ffba5df1ed277889dc07af", func := "hectograph/hectographlaw1.BitsLogs", spec := "bitsLogs", apart := false, narrowed := true }
def BitsLogsUptoSaid : Prop := bitsLogsUptoRow.holds Try.pinned (OpenSpec.upto bitsLogsSpec)

/-- 'hectographlaw1.BitsApart', WHERE WHAT IT READS IS OF BULK AT MOST 1048576: true; the input reads as it did. -/
def bitsApartUptoRow : OpenClaim := { program := "ytajifneohomibaa", sum := "ac5509a833daf4f2d2ef2a0ee3a205f6c6d751c2e1ffba5df1ed277889dc07af", func := "hectograph/hectographlaw1.BitsApart", spec := "bitsApart", apart := false, narrowed := true }
def BitsApartUptoSaid : Prop := bitsApartUptoRow.holds Try.pinned (OpenSpec.upto bitsApartSpec)

/-- 'hectographlaw1.BitsSigns', WHERE WHAT IT READS IS OF BULK AT MOST 1048576: true; the input reads as it did. -/
def bitsSignsUptoRow : OpenClaim := { program := "ytajifneohomibaa", sum := "ac5509a833daf4f2d2ef2a0ee3a205f6c6d751c2e1ffba5df1ed277889dc07af", func := "hectograph/hectographlaw1.BitsSigns", spec := "bitsSigns", apart := false, narrowed := true }
def BitsSignsUptoSaid : Prop := bitsSignsUptoRow.holds Try.pinned (OpenSpec.upto bitsSignsSpec)

/-- 'hectographlaw1.BitsParts', WHERE WHAT IT READS IS OF BULK AT MOST 1048576: true; the input reads as it did. -/
def bitsPartsUptoRow : OpenClaim := { program := "ytajifneohomibaa", sum := "ac5509a833daf4f2d2ef2a0ee3a205f6c6d751c2e1ffba5df1ed277889dc07af", func := "hectograph/hectographlaw1.BitsParts", spec := "bitsParts", apart := false, narrowed := true }
def BitsPartsUptoSaid : Prop := bitsPartsUptoRow.holds Try.pinned (OpenSpec.upto bitsPartsSpec)

/-- 'hectographlaw1.BitsNumbers', WHERE WHAT IT READS IS OF BULK AT MOST 1048576: true; the input reads as it did. -/
def bitsNumbersUptoRow : OpenClaim := { program := "ytajifneohomibaa", sum := "ac5509a833daf4f2d2ef2a0ee3a205f6c6d751c2e1ffba5df1ed277889dc07af", func := "hectograph/hectographlaw1.BitsNumbers", spec := "bitsNumbers", apart := false, narrowed := true }
def BitsNumbersUptoSaid : Prop := bitsNumbersUptoRow.holds Try.pinned (OpenSpec.upto bitsNumbersSpec)

/-- 'hectographlaw1.BitsBack', WHERE WHAT IT READS IS OF BULK AT MOST 1048576: true; the input reads as it did. -/
def bitsBackUptoRow : OpenClaim := { program := "ytajifneohomibaa", sum := "ac5509a833daf4f2d2ef2a0ee3a205f6c6d751c2e1ffba5df1ed277889dc07af", func := "hectograph/hectographlaw1.BitsBack", spec := "bitsBack", apart := false, narrowed := true }
def BitsBackUptoSaid : Prop := bitsBackUptoRow.holds Try.pinned (OpenSpec.upto bitsBackSpec)

/-- 'hectographlaw1.BitsTells', WHERE WHAT IT READS IS OF BULK AT MOST 1048576: true; the input reads as it did. -/
def bitsTellsUptoRow : OpenClaim := { program := "ytajifneohomibaa", sum := "ac5509a833daf4f2d2ef2a0ee3a205f6c6d751c2e1ffba5df1ed277889dc07af", func := "hectograph/hectographlaw1.BitsTells", spec := "bitsTells", apart := false, narrowed := true }
def BitsTellsUptoSaid : Prop := bitsTellsUptoRow.holds Try.pinned (OpenSpec.upto bitsTellsSpec)

end Rows
end Go.Proofs.Ytajifneohomibaa
