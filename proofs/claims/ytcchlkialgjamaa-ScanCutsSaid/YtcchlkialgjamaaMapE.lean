/-
  A map of numbers to entries that the call made.
-/
import Derived.Test.YtcchlkialgjamaaLib
import Derived.Maps.OwnSet
import Derived.Maps.Views
namespace Go.Proofs.Ytcchlkialgjamaa
open Go.RowKit Go.Maps Go.WideMaps
set_option linter.unusedVariables false

abbrev TIntM : TypeId := 3
abbrev TEnM : TypeId := 24
abbrev TMapE : TypeId := 70
theorem under_intM : Try.prog.underlying TIntM = some (.int .i64) := by kernel_rfl
theorem under_mapE : Try.prog.underlying TMapE = some (.map TIntM TEnM) := by kernel_rfl
abbrev zeroE : Value := .agg #[.int .i64 0, .int .i64 0, .slice none 0 0]
theorem zero_entry (w : World) : (zeroValue TEnM).run Try.prog w = .ok zeroE w := by kernel_rfl
/-- an element reads as itself -/
def heldV (v : Value) : Option (DataW Value × List MemPlace) := some (.held v, [])
theorem mapE_keyed : Keyed Try.prog TIntM := int_keyed under_intM
/-- the block reads as entries by their numbers -/
def MapE (w : World) (b n : Nat) (f : Int → Option Value) : Prop := ∃ D : DataW Value, w.ownsMap Try.prog TIntM heldV b n D ∧ ∀ i : Int, (Lit.int .i64 i).wf = true → Maps.has D (.int .i64 i) = (f i).isSome ∧ D.atKey (.int .i64 i) (.held zeroE) = .held ((f i).getD zeroE)
theorem MapE.made (w : World) : MapE (w.alloc (.map #[] 0)) w.heap.size 0 (fun _ => none) := ⟨.map [], World.ownsMap_made _ _ _ _, fun i _ => ⟨rfl, rfl⟩⟩
theorem MapE.look {w : World} {b n : Nat} {f : Int → Option Value} (h : MapE w b n f) {i : Int} (hi : (Lit.int .i64 i).wf = true) : (Instr.lookup TMapE (.map (some b)) (.int .i64 i) true).run Try.prog w = .ok (.tuple #[(f i).getD zeroE, .bool (f i).isSome]) w := by
  obtain ⟨D, h1, h3⟩ := h
  obtain ⟨v, ps, hrun, hv⟩ := h1.look_ok mapE_keyed under_mapE (zero_entry w) (zd := .held zeroE) (zp := []) rfl (keyOf_int_mk under_intM hi)
  obtain ⟨q1, q2⟩ := h3 i hi
  rw [q2] at hv
  unfold heldV at hv
  injection hv with hv
  injection hv with hv _
  injection hv with hv
  rw [hrun, q1, hv]
theorem MapE.put {w' : World} {b n : Nat} {i : Int} {v : Value} (hi : (Lit.int .i64 i).wf = true) {D : DataW Value} {f : Int → Option Value} (hm : IsMap D) (hp : ∀ j : Int, (Lit.int .i64 j).wf = true → Maps.has D (.int .i64 j) = (f j).isSome ∧ D.atKey (.int .i64 j) (.held zeroE) = .held ((f j).getD zeroE))
    (h : w'.ownsMap Try.prog TIntM heldV b (n + 1) (D.put (.int .i64 i) (.held v))) : MapE w' b (n + 1) (fun j => if j = i then some v else f j) := by
  refine ⟨_, h, fun j hj => ?_⟩
  by_cases e : j = i
  · subst e
    rw [atKey_put_same hm (by trivial), has_put_same hm (by trivial)]
    simp
  · have hne : (Lit.int .i64 j) ≠ (Lit.int .i64 i) := fun hh => by injection hh with _ hh; exact e hh
    rw [atKey_put_other hne, has_put_other hne]
    simp only [e, if_false]
    exact hp j hj
theorem MapE.grown {w w' : World} {b n : Nat} {f : Int → Option Value} (h : MapE w b n f) {row : Option Nat} (hg : w.grownBy w' row) (hne : some b ≠ row) : MapE w' b n f := by
  obtain ⟨D, h1, h2⟩ := h
  exact ⟨D, h1.kept hg hne, h2⟩
theorem MapE.lt {w : World} {b n : Nat} {f : Int → Option Value} (h : MapE w b n f) : b < w.heap.size := by
  obtain ⟨D, h1, _⟩ := h
  exact h1.lt
theorem MapE.keep {w w' : World} {b n : Nat} {f : Int → Option Value} (h : MapE w b n f) (hk : w'.heap[b]? = w.heap[b]?) : MapE w' b n f := by
  obtain ⟨D, ⟨es, clock, hb, r⟩, h2⟩ := h
  exact ⟨D, ⟨es, clock, by rw [hk]; exact hb, r⟩, h2⟩
theorem MapE.ext {w w' : World} {b n : Nat} {f : Int → Option Value} (h : MapE w b n f) (hx : Ext w w') : MapE w' b n f := h.keep (Below.block hx b h.lt)
theorem wpList_mapE_put {ops : Array Oper} {rest : List Oper} {o : Oper} {a : Act} {Q : Exit → Act → World → Prop} {w : World} (hg : o.guard = none) (m x v : Operand) (hop : o.op = Op.mapUpdate TMapE m x v) (b n : Nat) (f : Int → Option Value)
    (hm : a.eval m = .map (some b)) (h : MapE w b n f) (hn : n < maxLen) (i : Int) (hi : (Lit.int .i64 i).wf = true) (hx : a.eval x = .int .i64 i) (u : Value) (hv : a.eval v = u)
    (hK : ∀ w', MapE w' b (n + 1) (fun j => if j = i then some u else f j) → w.grownBy w' (some b) → wpList Try.prog ops Q rest (a.put o.dst undef) w') : wpList Try.prog ops Q (o :: rest) a w := by
  obtain ⟨D, h1, h3⟩ := h
  exact wpList_mapUpdate_own w hg m x v TMapE hop TIntM TEnM mapE_keyed under_mapE heldV b n D hm h1 hn _ _ _ hx hv (keyOf_int_mk under_intM hi) (.held u) [] rfl fun w' q1 q2 => hK w' (MapE.put hi h1.isMap h3 q1) q2
end Go.Proofs.Ytcchlkialgjamaa
