/-
  No cell of these rows narrows 'for every input' (looked for: loops, veiled, ifaces, maps, wideKeys, modest, calm, conditions, laid).
  DERIVED. THE GIVEN ROWS OF THIS SEAT. 8 by the template 'for every input the law returns true; each argument reads behind the call as it read before'; 0 by the template 'total and deterministic' (their statements: YtoeknbogaclfdaaTotals.lean).
  GIVEN WITH THE SEED: the statements are not yours to turn. If you find one false, say at which input.
  Laid BY PROGRAM, IN A SANDBOX (cutbox-rows.mjs): the forced cells as the released guide's own fill.sh prints them over the translation 5b504bb46ca58b44… (all of the seat's roots in one cut). By AI agents, Wed Nov 11 2026. No macro, syntax, notation, axiom, sorry.
-/
import Derived.Test.YtoeknbogaclfdaaChecked
import GoSem.Claim
import GoSem.ClaimJoined
import GoSem.ClaimMapViews
import Derived.JoinedTies
import Derived.KernelRfl
namespace Go.Proofs.Ytoeknbogaclfdaa
/- THE CELL 'sum', in the pinned program and in every row, IS THE sha256 OF THE DUMP (.gsa) THAT YtoeknbogaclfdaaProg.lean LOADS. Nothing in Lean hashes anything: it is a label: what it is worth is what the hold of that sum in a sandbox is worth. -/
noncomputable def Try.pinned : Pinned := { name := "ytoeknbogaclfdaa", sum := "5b504bb46ca58b44e1615bdead8d131aab6ac0cc2775d5ae5a89ed9c98dbe6e9", checked := Try.checked }
namespace Rows
def none {H : Type} : Left H := { results := [], args := [] }

/-- 'hectographlaw9.MsgBack': WHATEVER THE INPUT: true; the input reads as it did. -/
def msgBackSpec : ChangeSpec := { name := "msgBack", fn := fun _ => fun
  | [d1, d2, d3, d4, d5] => { results := [.lit (.bool true)], args := [d1, d2, d3, d4, d5] }
  | _ => none }
def msgBackRow : OpenClaim := { program := "ytoeknbogaclfdaa", sum := "5b504bb46ca58b44e1615bdead8d131aab6ac0cc2775d5ae5a89ed9c98dbe6e9", func := "hectograph/hectographlaw9.MsgBack", spec := "msgBack", unfollowed := true, recurses := true, apart := false }
def MsgBackSaid : Prop := msgBackRow.holds Try.pinned (OpenSpec.ofChange msgBackSpec)

/-- ITS FALSE NEIGHBOUR: 'it returns false'. Refute it at one input. -/
def msgBackWrong : ChangeSpec := { name := "msgBack", fn := fun _ => fun
  | [d1, d2, d3, d4, d5] => { results := [.lit (.bool false)], args := [d1, d2, d3, d4, d5] }
  | _ => none }
def MsgBackWrongFalsely : Prop := msgBackRow.holds Try.pinned (OpenSpec.ofChange msgBackWrong)

/-- 'hectographlaw9.MsgOne': WHATEVER THE INPUT: true; the input reads as it did. -/
def msgOneSpec : ChangeSpec := { name := "msgOne", fn := fun _ => fun
  | [d1, d2, d3, d4, d5, d6, d7] => { results := [.lit (.bool true)], args := [d1, d2, d3, d4, d5, d6, d7] }
  | _ => none }
def msgOneRow : OpenClaim := { program := "ytoeknbogaclfdaa", sum := "5b504bb46ca58b44e1615bdead8d131aab6ac0cc2775d5ae5a89ed9c98dbe6e9", func := "hectograph/hectographlaw9.MsgOne", spec := "msgOne", unfollowed := true, recurses := true, apart := false }
def MsgOneSaid : Prop := msgOneRow.holds Try.pinned (OpenSpec.ofChange msgOneSpec)

/-- ITS FALSE NEIGHBOUR: 'it returns false'. Refute it at one input. -/
def msgOneWrong : ChangeSpec := { name := "msgOne", fn := fun _ => fun
  | [d1, d2, d3, d4, d5, d6, d7] => { results := [.lit (.bool false)], args := [d1, d2, d3, d4, d5, d6, d7] }
  | _ => none }
def MsgOneWrongFalsely : Prop := msgOneRow.holds Try.pinned (OpenSpec.ofChange msgOneWrong)

/-- 'hectographlaw8.HeaderMakes': WHATEVER THE INPUT: true; the input reads as it did. -/
def headerMakesSpec : ChangeSpec := { name := "headerMakes", fn := fun _ => fun
  | [d1, d2, d3, d4, d5, d6, d7] => { results := [.lit (.bool true)], args := [d1, d2, d3, d4, d5, d6, d7] }
  | _ => none }
def headerMakesRow : OpenClaim := { program := "ytoeknbogaclfdaa", sum := "5b504bb46ca58b44e1615bdead8d131aab6ac0cc2775d5ae5a89ed9c98dbe6e9", func := "hectograph/hectographlaw8.HeaderMakes", spec := "headerMakes", apart := false }
def HeaderMakesSaid : Prop := headerMakesRow.holds Try.pinned (OpenSpec.ofChange headerMakesSpec)

/-- ITS FALSE NEIGHBOUR: 'it returns false'. Refute it at one input. -/
def headerMakesWrong : ChangeSpec := { name := "headerMakes", fn := fun _ => fun
  | [d1, d2, d3, d4, d5, d6, d7] => { results := [.lit (.bool false)], args := [d1, d2, d3, d4, d5, d6, d7] }
  | _ => none }
def HeaderMakesWrongFalsely : Prop := headerMakesRow.holds Try.pinned (OpenSpec.ofChange headerMakesWrong)

/-- 'hectographlaw8.HeaderBack': WHATEVER THE INPUT: true; the input reads as it did. -/
def headerBackSpec : ChangeSpec := { name := "headerBack", fn := fun _ => fun
  | [d1, d2, d3, d4, d5, d6, d7] => { results := [.lit (.bool true)], args := [d1, d2, d3, d4, d5, d6, d7] }
  | _ => none }
def headerBackRow : OpenClaim := { program := "ytoeknbogaclfdaa", sum := "5b504bb46ca58b44e1615bdead8d131aab6ac0cc2775d5ae5a89ed9c98dbe6e9", func := "hectograph/hectographlaw8.HeaderBack", spec := "headerBack", apart := false }
def HeaderBackSaid : Prop := headerBackRow.holds Try.pinned (OpenSpec.ofChange headerBackSpec)

/-- ITS FALSE NEIGHBOUR: 'it returns false'. Refute it at one input. -/
def headerBackWrong : ChangeSpec := { name := "headerBack", fn := fun _ => fun
  | [d1, d2, d3, d4, d5, d6, d7] => { results := [.lit (.bool false)], args := [d1, d2, d3, d4, d5, d6, d7] }
  | _ => none }
def HeaderBackWrongFalsely : Prop := headerBackRow.holds Try.pinned (OpenSpec.ofChange headerBackWrong)

/-- 'hectographlaw8.HeaderSeen': WHATEVER THE INPUT: true; the input reads as it did. -/
def headerSeenSpec : ChangeSpec := { name := "headerSeen", fn := fun _ => fun
  | [d1, d2, d3] => { results := [.lit (.bool true)], args := [d1, d2, d3] }
  | _ => none }
def headerSeenRow : OpenClaim := { program := "ytoeknbogaclfdaa", sum := "5b504bb46ca58b44e1615bdead8d131aab6ac0cc2775d5ae5a89ed9c98dbe6e9", func := "hectograph/hectographlaw8.HeaderSeen", spec := "headerSeen", apart := false }
def HeaderSeenSaid : Prop := headerSeenRow.holds Try.pinned (OpenSpec.ofChange headerSeenSpec)

/-- ITS FALSE NEIGHBOUR: 'it returns false'. Refute it at one input. -/
def headerSeenWrong : ChangeSpec := { name := "headerSeen", fn := fun _ => fun
  | [d1, d2, d3] => { results := [.lit (.bool false)], args := [d1, d2, d3] }
  | _ => none }
def HeaderSeenWrongFalsely : Prop := headerSeenRow.holds Try.pinned (OpenSpec.ofChange headerSeenWrong)

/-- 'hectographlaw8.HeaderTells': WHATEVER THE INPUT: true; the input reads as it did. -/
def headerTellsSpec : ChangeSpec := { name := "headerTells", fn := fun _ => fun
  | [d1, d2, d3, d4] => { results := [.lit (.bool true)], args := [d1, d2, d3, d4] }
  | _ => none }
def headerTellsRow : OpenClaim := { program := "ytoeknbogaclfdaa", sum := "5b504bb46ca58b44e1615bdead8d131aab6ac0cc2775d5ae5a89ed9c98dbe6e9", func := "hectograph/hectographlaw8.HeaderTells", spec := "headerTells", apart := false }
def HeaderTellsSaid : Prop := headerTellsRow.holds Try.pinned (OpenSpec.ofChange headerTellsSpec)

/-- ITS FALSE NEIGHBOUR: 'it returns false'. Refute it at one input. -/
def headerTellsWrong : ChangeSpec := { name := "headerTells", fn := fun _ => fun
  | [d1, d2, d3, d4] => { results := [.lit (.bool false)], args := [d1, d2, d3, d4] }
  | _ => none }
def HeaderTellsWrongFalsely : Prop := headerTellsRow.holds Try.pinned (OpenSpec.ofChange headerTellsWrong)

/-- 'hectographlaw9.MsgTells': WHATEVER THE INPUT: true; the input reads as it did. -/
def msgTellsSpec : ChangeSpec := { name := "msgTells", fn := fun _ => fun
  | [d1, d2, d3] => { results := [.lit (.bool true)], args := [d1, d2, d3] }
  | _ => none }
def msgTellsRow : OpenClaim := { program := "ytoeknbogaclfdaa", sum := "5b504bb46ca58b44e1615bdead8d131aab6ac0cc2775d5ae5a89ed9c98dbe6e9", func := "hectograph/hectographlaw9.MsgTells", spec := "msgTells", unfollowed := true, recurses := true, apart := false }
def MsgTellsSaid : Prop := msgTellsRow.holds Try.pinned (OpenSpec.ofChange msgTellsSpec)

/-- ITS FALSE NEIGHBOUR: 'it returns false'. Refute it at one input. -/
def msgTellsWrong : ChangeSpec := { name := "msgTells", fn := fun _ => fun
  | [d1, d2, d3] => { results := [.lit (.bool false)], args := [d1, d2, d3] }
  | _ => none }
def MsgTellsWrongFalsely : Prop := msgTellsRow.holds Try.pinned (OpenSpec.ofChange msgTellsWrong)

/-- 'hectographlaw9.MsgMakes': WHATEVER THE INPUT: true; the input reads as it did. -/
def msgMakesSpec : ChangeSpec := { name := "msgMakes", fn := fun _ => fun
  | [d1, d2, d3, d4, d5] => { results := [.lit (.bool true)], args := [d1, d2, d3, d4, d5] }
  | _ => none }
def msgMakesRow : OpenClaim := { program := "ytoeknbogaclfdaa", sum := "5b504bb46ca58b44e1615bdead8d131aab6ac0cc2775d5ae5a89ed9c98dbe6e9", func := "hectograph/hectographlaw9.MsgMakes", spec := "msgMakes", unfollowed := true, recurses := true, apart := false }
def MsgMakesSaid : Prop := msgMakesRow.holds Try.pinned (OpenSpec.ofChange msgMakesSpec)

/-- ITS FALSE NEIGHBOUR: 'it returns false'. Refute it at one input. -/
def msgMakesWrong : ChangeSpec := { name := "msgMakes", fn := fun _ => fun
  | [d1, d2, d3, d4, d5] => { results := [.lit (.bool false)], args := [d1, d2, d3, d4, d5] }
  | _ => none }
def MsgMakesWrongFalsely : Prop := msgMakesRow.holds Try.pinned (OpenSpec.ofChange msgMakesWrong)

/- THE SECOND FORM. 'bulk': how many values and letters a reading holds, each counted each time it is reached (what is shared counts as often as it is met; a slice's spare places count too). A statement '..UptoSaid' is the law's where the arguments, and the package variables that the reading takes, are together of bulk at most 1048576: NARROWER than '..Said'. Prove '..Said' where nothing that the law and all that it calls make is longer than what came in: it says more and counts as full. Else prove '..UptoSaid'. A law counts once. -/
mutual
def uptoBulk {H : Type} : DataW H → Nat
  | .lit (.string bytes) => bytes.length + 1
  | .lit _ => 1
  | .nil => 1
  | .ptr d => uptoBulk d + 1
  | .slice elems spare => uptoBulkAll elems + uptoBulkAll spare + 1
  | .agg parts => uptoBulkAll parts + 1
  | .iface _ d => uptoBulk d + 1
  | .map entries => uptoBulkEntries entries + 1
  | .held _ => 1
def uptoBulkAll {H : Type} : List (DataW H) → Nat
  | [] => 0
  | d :: r => uptoBulk d + uptoBulkAll r
def uptoBulkEntries {H : Type} : List (Lit × DataW H) → Nat
  | [] => 0
  | x :: r => uptoBulkEntry x + uptoBulkEntries r
def uptoBulkEntry {H : Type} : Lit × DataW H → Nat
  | (.string bytes, d) => bytes.length + uptoBulk d + 1
  | (_, d) => uptoBulk d + 1
 end
def uptoSmall : (H : Type) → List (DataW H) → Bool := fun _ ds => decide (uptoBulkAll ds ≤ 1048576)
def OpenSpec.upto (s : _root_.Go.ChangeSpec) : _root_.Go.OpenSpec := { _root_.Go.OpenSpec.ofChange s with cond := some uptoSmall }

/-- 'hectographlaw9.MsgBack', WHERE WHAT IT READS IS OF BULK AT MOST 1048576: true; the input reads as it did. -/
def msgBackUptoRow : OpenClaim := { program := "ytoeknbogaclfdaa", sum := "5b504bb46ca58b44e1615bdead8d131aab6ac0cc2775d5ae5a89ed9c98dbe6e9", func := "hectograph/hectographlaw9.MsgBack", spec := "msgBack", unfollowed := true, recurses := true, apart := false, narrowed := true }
def MsgBackUptoSaid : Prop := msgBackUptoRow.holds Try.pinned (OpenSpec.upto msgBackSpec)

/-- 'hectographlaw9.MsgOne', WHERE WHAT IT READS IS OF BULK AT MOST 1048576: true; the input reads as it did. -/
def msgOneUptoRow : OpenClaim := { program := "ytoeknbogaclfdaa", sum := "5b504bb46ca58b44e1615bdead8d131aab6ac0cc2775d5ae5a89ed9c98dbe6e9", func := "hectograph/hectographlaw9.MsgOne", spec := "msgOne", unfollowed := true, recurses := true, apart := false, narrowed := true }
def MsgOneUptoSaid : Prop := msgOneUptoRow.holds Try.pinned (OpenSpec.upto msgOneSpec)

/-- 'hectographlaw8.HeaderMakes', WHERE WHAT IT READS IS OF BULK AT MOST 1048576: true; the input reads as it did. -/
def headerMakesUptoRow : OpenClaim := { program := "ytoeknbogaclfdaa", sum := "5b504bb46ca58b44e1615bdead8d131aab6ac0cc2775d5ae5a89ed9c98dbe6e9", func := "hectograph/hectographlaw8.HeaderMakes", spec := "headerMakes", apart := false, narrowed := true }
def HeaderMakesUptoSaid : Prop := headerMakesUptoRow.holds Try.pinned (OpenSpec.upto headerMakesSpec)

/-- 'hectographlaw8.HeaderBack', WHERE WHAT IT READS IS OF BULK AT MOST 1048576: true; the input reads as it did. -/
def headerBackUptoRow : OpenClaim := { program := "ytoeknbogaclfdaa", sum := "5b504bb46ca58b44e1615bdead8d131aab6ac0cc2775d5ae5a89ed9c98dbe6e9", func := "hectograph/hectographlaw8.HeaderBack", spec := "headerBack", apart := false, narrowed := true }
def HeaderBackUptoSaid : Prop := headerBackUptoRow.holds Try.pinned (OpenSpec.upto headerBackSpec)

/-- 'hectographlaw8.HeaderSeen', WHERE WHAT IT READS IS OF BULK AT MOST 1048576: true; the input reads as it did. -/
def headerSeenUptoRow : OpenClaim := { program := "ytoeknbogaclfdaa", sum := "5b504bb46ca58b44e1615bdead8d131aab6ac0cc2775d5ae5a89ed9c98dbe6e9", func := "hectograph/hectographlaw8.HeaderSeen", spec := "headerSeen", apart := false, narrowed := true }
def HeaderSeenUptoSaid : Prop := headerSeenUptoRow.holds Try.pinned (OpenSpec.upto headerSeenSpec)

/-- 'hectographlaw8.HeaderTells', WHERE WHAT IT READS IS OF BULK AT MOST 1048576: true; the input reads as it did. -/
def headerTellsUptoRow : OpenClaim := { program := "ytoeknbogaclfdaa", sum := "5b504bb46ca58b44e1615bdead8d131aab6ac0cc2775d5ae5a89ed9c98dbe6e9", func := "hectograph/hectographlaw8.HeaderTells", spec := "headerTells", apart := false, narrowed := true }
def HeaderTellsUptoSaid : Prop := headerTellsUptoRow.holds Try.pinned (OpenSpec.upto headerTellsSpec)

/-- 'hectographlaw9.MsgTells', WHERE WHAT IT READS IS OF BULK AT MOST 1048576: true; the input reads as it did. -/
def msgTellsUptoRow : OpenClaim := { program := "ytoeknbogaclfdaa", sum := "5b504bb46ca58b44e1615bdead8d131aab6ac0cc2775d5ae5a89ed9c98dbe6e9", func := "hectograph/hectographlaw9.MsgTells", spec := "msgTells", unfollowed := true, recurses := true, apart := false, narrowed := true }
def MsgTellsUptoSaid : Prop := msgTellsUptoRow.holds Try.pinned (OpenSpec.upto msgTellsSpec)

/-- 'hectographlaw9.MsgMakes', WHERE WHAT IT READS IS OF BULK AT MOST 1048576: true; the input reads as it did. -/
def msgMakesUptoRow : OpenClaim := { program := "ytoeknbogaclfdaa", sum := "5b504bb46ca58b44e1615bdead8d131aab6ac0cc2775d5ae5a89ed9c98dbe6e9", func := "hectograph/hectographlaw9.MsgMakes", spec := "msgMakes", unfollowed := true, recurses := true, apart := false, narrowed := true }
def MsgMakesUptoSaid : Prop := msgMakesUptoRow.holds Try.pinned (OpenSpec.upto msgMakesSpec)

end Rows
end Go.Proofs.Ytoeknbogaclfdaa
