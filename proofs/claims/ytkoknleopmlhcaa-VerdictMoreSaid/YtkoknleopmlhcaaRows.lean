/-
  No cell of these rows narrows 'for every input' (looked for: loops, veiled, ifaces, maps, wideKeys, modest, calm, conditions, laid).
  DERIVED. THE GIVEN ROWS OF THIS SEAT. 12 by the template 'for every input the law returns true; each argument reads behind the call as it read before'; 0 by the template 'total and deterministic' (their statements: YtkoknleopmlhcaaTotals.lean).
  GIVEN WITH THE SEED: the statements are not yours to turn. If you find one false, say at which input.
  Laid BY PROGRAM, IN A SANDBOX (cutbox-rows.mjs): the forced cells as the released guide's own fill.sh prints them over the translation d51ed850bce255a2… (all of the seat's roots in one cut). By AI agents, Wed Nov 11 2026. No macro, syntax, notation, axiom, sorry.
-/
import Derived.Test.YtkoknleopmlhcaaChecked
import GoSem.Claim
import GoSem.ClaimJoined
import GoSem.ClaimMapViews
import Derived.JoinedTies
import Derived.KernelRfl
namespace Go.Proofs.Ytkoknleopmlhcaa
/- THE CELL 'sum', in the pinned program and in every row, IS THE sha256 OF THE DUMP (.gsa) THAT YtkoknleopmlhcaaProg.lean LOADS. Nothing in Lean hashes anything: it is a label: what it is worth is what the hold of that sum in a sandbox is worth. -/
noncomputable def Try.pinned : Pinned := { name := "ytkoknleopmlhcaa", sum := "d51ed850bce255a2c7f594088e50f9dbf93dc6c4e25857a7c0104b0e943888c1", checked := Try.checked }
namespace Rows
def none {H : Type} : Left H := { results := [], args := [] }

/-- 'hectographlaw23.VerdictGrown': WHATEVER THE INPUT: true; the input reads as it did. -/
def verdictGrownSpec : ChangeSpec := { name := "verdictGrown", fn := fun _ => fun
  | [d1, d2, d3, d4, d5] => { results := [.lit (.bool true)], args := [d1, d2, d3, d4, d5] }
  | _ => none }
def verdictGrownRow : OpenClaim := { program := "ytkoknleopmlhcaa", sum := "d51ed850bce255a2c7f594088e50f9dbf93dc6c4e25857a7c0104b0e943888c1", func := "hectograph/hectographlaw23.VerdictGrown", spec := "verdictGrown", apart := false }
def VerdictGrownSaid : Prop := verdictGrownRow.holds Try.pinned (OpenSpec.ofChange verdictGrownSpec)

/-- ITS FALSE NEIGHBOUR: 'it returns false'. Refute it at one input. -/
def verdictGrownWrong : ChangeSpec := { name := "verdictGrown", fn := fun _ => fun
  | [d1, d2, d3, d4, d5] => { results := [.lit (.bool false)], args := [d1, d2, d3, d4, d5] }
  | _ => none }
def VerdictGrownWrongFalsely : Prop := verdictGrownRow.holds Try.pinned (OpenSpec.ofChange verdictGrownWrong)

/-- 'hectographlaw23.VerdictOnce': WHATEVER THE INPUT: true; the input reads as it did. -/
def verdictOnceSpec : ChangeSpec := { name := "verdictOnce", fn := fun _ => fun
  | [d1, d2, d3, d4, d5] => { results := [.lit (.bool true)], args := [d1, d2, d3, d4, d5] }
  | _ => none }
def verdictOnceRow : OpenClaim := { program := "ytkoknleopmlhcaa", sum := "d51ed850bce255a2c7f594088e50f9dbf93dc6c4e25857a7c0104b0e943888c1", func := "hectograph/hectographlaw23.VerdictOnce", spec := "verdictOnce", apart := false }
def VerdictOnceSaid : Prop := verdictOnceRow.holds Try.pinned (OpenSpec.ofChange verdictOnceSpec)

/-- ITS FALSE NEIGHBOUR: 'it returns false'. Refute it at one input. -/
def verdictOnceWrong : ChangeSpec := { name := "verdictOnce", fn := fun _ => fun
  | [d1, d2, d3, d4, d5] => { results := [.lit (.bool false)], args := [d1, d2, d3, d4, d5] }
  | _ => none }
def VerdictOnceWrongFalsely : Prop := verdictOnceRow.holds Try.pinned (OpenSpec.ofChange verdictOnceWrong)

/-- 'hectographlaw23.VerdictRipe': WHATEVER THE INPUT: true; the input reads as it did. -/
def verdictRipeSpec : ChangeSpec := { name := "verdictRipe", fn := fun _ => fun
  | [d1, d2] => { results := [.lit (.bool true)], args := [d1, d2] }
  | _ => none }
def verdictRipeRow : OpenClaim := { program := "ytkoknleopmlhcaa", sum := "d51ed850bce255a2c7f594088e50f9dbf93dc6c4e25857a7c0104b0e943888c1", func := "hectograph/hectographlaw23.VerdictRipe", spec := "verdictRipe", apart := false }
def VerdictRipeSaid : Prop := verdictRipeRow.holds Try.pinned (OpenSpec.ofChange verdictRipeSpec)

/-- ITS FALSE NEIGHBOUR: 'it returns false'. Refute it at one input. -/
def verdictRipeWrong : ChangeSpec := { name := "verdictRipe", fn := fun _ => fun
  | [d1, d2] => { results := [.lit (.bool false)], args := [d1, d2] }
  | _ => none }
def VerdictRipeWrongFalsely : Prop := verdictRipeRow.holds Try.pinned (OpenSpec.ofChange verdictRipeWrong)

/-- 'hectographlaw6.ChainBack': WHATEVER THE INPUT: true; the input reads as it did. -/
def chainBackSpec : ChangeSpec := { name := "chainBack", fn := fun _ => fun
  | [d1, d2, d3] => { results := [.lit (.bool true)], args := [d1, d2, d3] }
  | _ => none }
def chainBackRow : OpenClaim := { program := "ytkoknleopmlhcaa", sum := "d51ed850bce255a2c7f594088e50f9dbf93dc6c4e25857a7c0104b0e943888c1", func := "hectograph/hectographlaw6.ChainBack", spec := "chainBack", apart := false }
def ChainBackSaid : Prop := chainBackRow.holds Try.pinned (OpenSpec.ofChange chainBackSpec)

/-- ITS FALSE NEIGHBOUR: 'it returns false'. Refute it at one input. -/
def chainBackWrong : ChangeSpec := { name := "chainBack", fn := fun _ => fun
  | [d1, d2, d3] => { results := [.lit (.bool false)], args := [d1, d2, d3] }
  | _ => none }
def ChainBackWrongFalsely : Prop := chainBackRow.holds Try.pinned (OpenSpec.ofChange chainBackWrong)

/-- 'hectographlaw6.ChainNexts': WHATEVER THE INPUT: true; the input reads as it did. -/
def chainNextsSpec : ChangeSpec := { name := "chainNexts", fn := fun _ => fun
  | [d1, d2] => { results := [.lit (.bool true)], args := [d1, d2] }
  | _ => none }
def chainNextsRow : OpenClaim := { program := "ytkoknleopmlhcaa", sum := "d51ed850bce255a2c7f594088e50f9dbf93dc6c4e25857a7c0104b0e943888c1", func := "hectograph/hectographlaw6.ChainNexts", spec := "chainNexts", apart := false }
def ChainNextsSaid : Prop := chainNextsRow.holds Try.pinned (OpenSpec.ofChange chainNextsSpec)

/-- ITS FALSE NEIGHBOUR: 'it returns false'. Refute it at one input. -/
def chainNextsWrong : ChangeSpec := { name := "chainNexts", fn := fun _ => fun
  | [d1, d2] => { results := [.lit (.bool false)], args := [d1, d2] }
  | _ => none }
def ChainNextsWrongFalsely : Prop := chainNextsRow.holds Try.pinned (OpenSpec.ofChange chainNextsWrong)

/-- 'hectographlaw6.ChainFields': WHATEVER THE INPUT: true; the input reads as it did. -/
def chainFieldsSpec : ChangeSpec := { name := "chainFields", fn := fun _ => fun
  | [d] => { results := [.lit (.bool true)], args := [d] }
  | _ => none }
def chainFieldsRow : OpenClaim := { program := "ytkoknleopmlhcaa", sum := "d51ed850bce255a2c7f594088e50f9dbf93dc6c4e25857a7c0104b0e943888c1", func := "hectograph/hectographlaw6.ChainFields", spec := "chainFields", apart := false }
def ChainFieldsSaid : Prop := chainFieldsRow.holds Try.pinned (OpenSpec.ofChange chainFieldsSpec)

/-- ITS FALSE NEIGHBOUR: 'it returns false'. Refute it at one input. -/
def chainFieldsWrong : ChangeSpec := { name := "chainFields", fn := fun _ => fun
  | [d] => { results := [.lit (.bool false)], args := [d] }
  | _ => none }
def ChainFieldsWrongFalsely : Prop := chainFieldsRow.holds Try.pinned (OpenSpec.ofChange chainFieldsWrong)

/-- 'hectographlaw6.ChainOrders': WHATEVER THE INPUT: true; the input reads as it did. -/
def chainOrdersSpec : ChangeSpec := { name := "chainOrders", fn := fun _ => fun
  | [d1, d2, d3, d4, d5] => { results := [.lit (.bool true)], args := [d1, d2, d3, d4, d5] }
  | _ => none }
def chainOrdersRow : OpenClaim := { program := "ytkoknleopmlhcaa", sum := "d51ed850bce255a2c7f594088e50f9dbf93dc6c4e25857a7c0104b0e943888c1", func := "hectograph/hectographlaw6.ChainOrders", spec := "chainOrders", apart := false }
def ChainOrdersSaid : Prop := chainOrdersRow.holds Try.pinned (OpenSpec.ofChange chainOrdersSpec)

/-- ITS FALSE NEIGHBOUR: 'it returns false'. Refute it at one input. -/
def chainOrdersWrong : ChangeSpec := { name := "chainOrders", fn := fun _ => fun
  | [d1, d2, d3, d4, d5] => { results := [.lit (.bool false)], args := [d1, d2, d3, d4, d5] }
  | _ => none }
def ChainOrdersWrongFalsely : Prop := chainOrdersRow.holds Try.pinned (OpenSpec.ofChange chainOrdersWrong)

/-- 'hectographlaw6.ChainPairs': WHATEVER THE INPUT: true; the input reads as it did. -/
def chainPairsSpec : ChangeSpec := { name := "chainPairs", fn := fun _ => fun
  | [d1, d2, d3, d4, d5] => { results := [.lit (.bool true)], args := [d1, d2, d3, d4, d5] }
  | _ => none }
def chainPairsRow : OpenClaim := { program := "ytkoknleopmlhcaa", sum := "d51ed850bce255a2c7f594088e50f9dbf93dc6c4e25857a7c0104b0e943888c1", func := "hectograph/hectographlaw6.ChainPairs", spec := "chainPairs", apart := false }
def ChainPairsSaid : Prop := chainPairsRow.holds Try.pinned (OpenSpec.ofChange chainPairsSpec)

/-- ITS FALSE NEIGHBOUR: 'it returns false'. Refute it at one input. -/
def chainPairsWrong : ChangeSpec := { name := "chainPairs", fn := fun _ => fun
  | [d1, d2, d3, d4, d5] => { results := [.lit (.bool false)], args := [d1, d2, d3, d4, d5] }
  | _ => none }
def ChainPairsWrongFalsely : Prop := chainPairsRow.holds Try.pinned (OpenSpec.ofChange chainPairsWrong)

/-- 'hectographlaw6.ChainForks': WHATEVER THE INPUT: true; the input reads as it did. -/
def chainForksSpec : ChangeSpec := { name := "chainForks", fn := fun _ => fun
  | [d1, d2, d3] => { results := [.lit (.bool true)], args := [d1, d2, d3] }
  | _ => none }
def chainForksRow : OpenClaim := { program := "ytkoknleopmlhcaa", sum := "d51ed850bce255a2c7f594088e50f9dbf93dc6c4e25857a7c0104b0e943888c1", func := "hectograph/hectographlaw6.ChainForks", spec := "chainForks", apart := false }
def ChainForksSaid : Prop := chainForksRow.holds Try.pinned (OpenSpec.ofChange chainForksSpec)

/-- ITS FALSE NEIGHBOUR: 'it returns false'. Refute it at one input. -/
def chainForksWrong : ChangeSpec := { name := "chainForks", fn := fun _ => fun
  | [d1, d2, d3] => { results := [.lit (.bool false)], args := [d1, d2, d3] }
  | _ => none }
def ChainForksWrongFalsely : Prop := chainForksRow.holds Try.pinned (OpenSpec.ofChange chainForksWrong)

/-- 'hectographlaw6.ChainTells': WHATEVER THE INPUT: true; the input reads as it did. -/
def chainTellsSpec : ChangeSpec := { name := "chainTells", fn := fun _ => fun
  | [d1, d2, d3, d4, d5, d6, d7] => { results := [.lit (.bool true)], args := [d1, d2, d3, d4, d5, d6, d7] }
  | _ => none }
def chainTellsRow : OpenClaim := { program := "ytkoknleopmlhcaa", sum := "d51ed850bce255a2c7f594088e50f9dbf93dc6c4e25857a7c0104b0e943888c1", func := "hectograph/hectographlaw6.ChainTells", spec := "chainTells", apart := false }
def ChainTellsSaid : Prop := chainTellsRow.holds Try.pinned (OpenSpec.ofChange chainTellsSpec)

/-- ITS FALSE NEIGHBOUR: 'it returns false'. Refute it at one input. -/
def chainTellsWrong : ChangeSpec := { name := "chainTells", fn := fun _ => fun
  | [d1, d2, d3, d4, d5, d6, d7] => { results := [.lit (.bool false)], args := [d1, d2, d3, d4, d5, d6, d7] }
  | _ => none }
def ChainTellsWrongFalsely : Prop := chainTellsRow.holds Try.pinned (OpenSpec.ofChange chainTellsWrong)

/-- 'hectographlaw23.VerdictTells': WHATEVER THE INPUT: true; the input reads as it did. -/
def verdictTellsSpec : ChangeSpec := { name := "verdictTells", fn := fun _ => fun
  | [d1, d2, d3, d4, d5, d6] => { results := [.lit (.bool true)], args := [d1, d2, d3, d4, d5, d6] }
  | _ => none }
def verdictTellsRow : OpenClaim := { program := "ytkoknleopmlhcaa", sum := "d51ed850bce255a2c7f594088e50f9dbf93dc6c4e25857a7c0104b0e943888c1", func := "hectograph/hectographlaw23.VerdictTells", spec := "verdictTells", apart := false }
def VerdictTellsSaid : Prop := verdictTellsRow.holds Try.pinned (OpenSpec.ofChange verdictTellsSpec)

/-- ITS FALSE NEIGHBOUR: 'it returns false'. Refute it at one input. -/
def verdictTellsWrong : ChangeSpec := { name := "verdictTells", fn := fun _ => fun
  | [d1, d2, d3, d4, d5, d6] => { results := [.lit (.bool false)], args := [d1, d2, d3, d4, d5, d6] }
  | _ => none }
def VerdictTellsWrongFalsely : Prop := verdictTellsRow.holds Try.pinned (OpenSpec.ofChange verdictTellsWrong)

/-- 'hectographlaw23.VerdictMore': WHATEVER THE INPUT: true; the input reads as it did. -/
def verdictMoreSpec : ChangeSpec := { name := "verdictMore", fn := fun _ => fun
  | [d1, d2, d3, d4] => { results := [.lit (.bool true)], args := [d1, d2, d3, d4] }
  | _ => none }
def verdictMoreRow : OpenClaim := { program := "ytkoknleopmlhcaa", sum := "d51ed850bce255a2c7f594088e50f9dbf93dc6c4e25857a7c0104b0e943888c1", func := "hectograph/hectographlaw23.VerdictMore", spec := "verdictMore", apart := false }
def VerdictMoreSaid : Prop := verdictMoreRow.holds Try.pinned (OpenSpec.ofChange verdictMoreSpec)

/-- ITS FALSE NEIGHBOUR: 'it returns false'. Refute it at one input. -/
def verdictMoreWrong : ChangeSpec := { name := "verdictMore", fn := fun _ => fun
  | [d1, d2, d3, d4] => { results := [.lit (.bool false)], args := [d1, d2, d3, d4] }
  | _ => none }
def VerdictMoreWrongFalsely : Prop := verdictMoreRow.holds Try.pinned (OpenSpec.ofChange verdictMoreWrong)

/- THE SECOND FORM. 'bulk': how many values and letters a reading holds, each counted each time it is reached (what is shared counts as often as it is met; a slice's spare places count too). A statement '..UptoSaid' is the law's where the arguments, and the package variables that the reading takes, are together of bulk at most 1048576: NARROWER than '..Said'. Prove '..Said' where nothing that the law and all that it calls make is longer than what came in: it says more and counts as full. Else prove '..UptoSaid'. A law counts once. -/
mutual
def uptoBulk {H : Type} : DataW H → Nat
  | .lit (.string bytes) => bytes.length + 1
  | .lit _ => 1
  | .nil => 1
  | .ptr d => uptoBulk d + 1
  | .slice elems spare => uptoBulkAll elems + uptoBulkAll spare + 1
  | .agg parts => uptoBulkAll parts + 1
  | .iface _ d => uptoBulk d + 1
  | .map entries => uptoBulkEntries entries + 1
  | .held _ => 1
def uptoBulkAll {H : Type} : List (DataW H) → Nat
  | [] => 0
  | d :: r => uptoBulk d + uptoBulkAll r
def uptoBulkEntries {H : Type} : List (Lit × DataW H) → Nat
  | [] => 0
  | x :: r => uptoBulkEntry x + uptoBulkEntries r
def uptoBulkEntry {H : Type} : Lit × DataW H → Nat
  | (.string bytes, d) => bytes.length + uptoBulk d + 1
  | (_, d) => uptoBulk d + 1
 end
def uptoSmall : (H : Type) → List (DataW H) → Bool := fun _ ds => decide (uptoBulkAll ds ≤ 1048576)
def OpenSpec.upto (s : _root_.Go.ChangeSpec) : _root_.Go.OpenSpec := { _root_.Go.OpenSpec.ofChange s with cond := some uptoSmall }

/-- 'hectographlaw23.VerdictGrown', WHERE WHAT IT READS IS OF BULK AT MOST 1048576: true; the input reads as it did. -/
def verdictGrownUptoRow : OpenClaim := { program := "ytkoknleopmlhcaa", sum := "d51ed850bce255a2c7f594088e50f9dbf93dc6c4e25857a7c0104b0e943888c1", func := "hectograph/hectographlaw23.VerdictGrown", spec := "verdictGrown", apart := false, narrowed := true }
def VerdictGrownUptoSaid : Prop := verdictGrownUptoRow.holds Try.pinned (OpenSpec.upto verdictGrownSpec)

/-- 'hectographlaw23.VerdictOnce', WHERE WHAT IT READS IS OF BULK AT MOST 1048576: true; the input reads as it did. -/
def verdictOnceUptoRow : OpenClaim := { program := "ytkoknleopmlhcaa", sum := "d51ed850bce255a2c7f594088e50f9dbf93dc6c4e25857a7c0104b0e943888c1", func := "hectograph/hectographlaw23.VerdictOnce", spec := "verdictOnce", apart := false, narrowed := true }
def VerdictOnceUptoSaid : Prop := verdictOnceUptoRow.holds Try.pinned (OpenSpec.upto verdictOnceSpec)

/-- 'hectographlaw23.VerdictRipe', WHERE WHAT IT READS IS OF BULK AT MOST 1048576: true; the input reads as it did. -/
def verdictRipeUptoRow : OpenClaim := { program := "ytkoknleopmlhcaa", sum := "d51ed850bce255a2c7f594088e50f9dbf93dc6c4e25857a7c0104b0e943888c1", func := "hectograph/hectographlaw23.VerdictRipe", spec := "verdictRipe", apart := false, narrowed := true }
def VerdictRipeUptoSaid : Prop := verdictRipeUptoRow.holds Try.pinned (OpenSpec.upto verdictRipeSpec)

/-- 'hectographlaw6.ChainBack', WHERE WHAT IT READS IS OF BULK AT MOST 1048576: true; the input reads as it did. -/
def chainBackUptoRow : OpenClaim := { program := "ytkoknleopmlhcaa", sum := "d51ed850bce255a2c7f594088e50f9dbf93dc6c4e25857a7c0104b0e943888c1", func := "hectograph/hectographlaw6.ChainBack", spec := "chainBack", apart := false, narrowed := true }
def ChainBackUptoSaid : Prop := chainBackUptoRow.holds Try.pinned (OpenSpec.upto chainBackSpec)

/-- 'hectographlaw6.ChainNexts', WHERE WHAT IT READS IS OF BULK AT MOST 1048576: true; the input reads as it did. -/
def chainNextsUptoRow : OpenClaim := { program := "ytkoknleopmlhcaa", sum := "d51ed850bce255a2c7f594088e50f9dbf93dc6c4e25857a7c0104b0e943888c1", func := "hectograph/hectographlaw6.ChainNexts", spec := "chainNexts", apart := false, narrowed := true }
def ChainNextsUptoSaid : Prop := chainNextsUptoRow.holds Try.pinned (OpenSpec.upto chainNextsSpec)

/-- 'hectographlaw6.ChainFields', WHERE WHAT IT READS IS OF BULK AT MOST 1048576: true; the input reads as it did. -/
def chainFieldsUptoRow : OpenClaim := { program := "ytkoknleopmlhcaa", sum := "d51ed850bce255a2c7f594088e50f9dbf93dc6c4e25857a7c0104b0e943888c1", func := "hectograph/hectographlaw6.ChainFields", spec := "chainFields", apart := false, narrowed := true }
def ChainFieldsUptoSaid : Prop := chainFieldsUptoRow.holds Try.pinned (OpenSpec.upto chainFieldsSpec)

/-- 'hectographlaw6.ChainOrders', WHERE WHAT IT READS IS OF BULK AT MOST 1048576: true; the input reads as it did. -/
def chainOrdersUptoRow : OpenClaim := { program := "ytkoknleopmlhcaa", sum := "d51ed850bce255a2c7f594088e50f9dbf93dc6c4e25857a7c0104b0e943888c1", func := "hectograph/hectographlaw6.ChainOrders", spec := "chainOrders", apart := false, narrowed := true }
def ChainOrdersUptoSaid : Prop := chainOrdersUptoRow.holds Try.pinned (OpenSpec.upto chainOrdersSpec)

/-- 'hectographlaw6.ChainPairs', WHERE WHAT IT READS IS OF BULK AT MOST 1048576: true; the input reads as it did. -/
def chainPairsUptoRow : OpenClaim := { program := "ytkoknleopmlhcaa", sum := "d51ed850bce255a2c7f594088e50f9dbf93dc6c4e25857a7c0104b0e943888c1", func := "hectograph/hectographlaw6.ChainPairs", spec := "chainPairs", apart := false, narrowed := true }
def ChainPairsUptoSaid : Prop := chainPairsUptoRow.holds Try.pinned (OpenSpec.upto chainPairsSpec)

/-- 'hectographlaw6.ChainForks', WHERE WHAT IT READS IS OF BULK AT MOST 1048576: true; the input reads as it did. -/
def chainForksUptoRow : OpenClaim := { program := "ytkoknleopmlhcaa", sum := "d51ed850bce255a2c7f594088e50f9dbf93dc6c4e25857a7c0104b0e943888c1", func := "hectograph/hectographlaw6.ChainForks", spec := "chainForks", apart := false, narrowed := true }
def ChainForksUptoSaid : Prop := chainForksUptoRow.holds Try.pinned (OpenSpec.upto chainForksSpec)

/-- 'hectographlaw6.ChainTells', WHERE WHAT IT READS IS OF BULK AT MOST 1048576: true; the input reads as it did. -/
def chainTellsUptoRow : OpenClaim := { program := "ytkoknleopmlhcaa", sum := "d51ed850bce255a2c7f594088e50f9dbf93dc6c4e25857a7c0104b0e943888c1", func := "hectograph/hectographlaw6.ChainTells", spec := "chainTells", apart := false, narrowed := true }
def ChainTellsUptoSaid : Prop := chainTellsUptoRow.holds Try.pinned (OpenSpec.upto chainTellsSpec)

/-- 'hectographlaw23.VerdictTells', WHERE WHAT IT READS IS OF BULK AT MOST 1048576: true; the input reads as it did. -/
def verdictTellsUptoRow : OpenClaim := { program := "ytkoknleopmlhcaa", sum := "d51ed850bce255a2c7f594088e50f9dbf93dc6c4e25857a7c0104b0e943888c1", func := "hectograph/hectographlaw23.VerdictTells", spec := "verdictTells", apart := false, narrowed := true }
def VerdictTellsUptoSaid : Prop := verdictTellsUptoRow.holds Try.pinned (OpenSpec.upto verdictTellsSpec)

/-- 'hectographlaw23.VerdictMore', WHERE WHAT IT READS IS OF BULK AT MOST 1048576: true; the input reads as it did. -/
def verdictMoreUptoRow : OpenClaim := { program := "ytkoknleopmlhcaa", sum := "d51ed850bce255a2c7f594088e50f9dbf93dc6c4e25857a7c0104b0e943888c1", func := "hectograph/hectographlaw23.VerdictMore", spec := "verdictMore", apart := false, narrowed := true }
def VerdictMoreUptoSaid : Prop := verdictMoreUptoRow.holds Try.pinned (OpenSpec.upto verdictMoreSpec)

end Rows
end Go.Proofs.Ytkoknleopmlhcaa
