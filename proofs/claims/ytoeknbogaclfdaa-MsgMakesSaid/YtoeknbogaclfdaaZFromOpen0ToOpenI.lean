/-
  Arguments of a call opened: bytes, structs whose fields are one cell each. From the kit's reading of Go's data (DataW) to this claim's own words.
-/
/-
  Slices of rows of cells that came in, opened.
-/
/-
  Slices of integers and of tags that came in, opened.
-/
import Derived.Test.YtoeknbogaclfdaaZCore
import Derived.ProofKit
import Derived.OpenShut
import Derived.ShutString
import Derived.ChangeOld
import Derived.Below
import Derived.Deep.Slices
import Derived.Deep.Fields
import Derived.ChangeSame
import Derived.Test.YtoeknbogaclfdaaZFromFrameTakeToInts
import Derived.Test.YtoeknbogaclfdaaZFromNmToTag
namespace Go.Proofs.Ytoeknbogaclfdaa
open Go.ChangeShapes Go.WideShapes Go.ChangeAt Go.RowKit Go.Deep
set_option linter.unusedVariables false
set_option maxRecDepth 100000
section
variable {H : Type} {enc : TypeId × Value → H} {w : World} {base : Nat} {spare : Nat → Bool} {held : Bool}
theorem under_i64 : Try.prog.underlying 3 = some (.int .i64) := by kernel_rfl
end
end Go.Proofs.Ytoeknbogaclfdaa

namespace Go.Proofs.Ytoeknbogaclfdaa
open Go.ChangeShapes Go.WideShapes Go.ChangeAt Go.RowKit Go.Deep
set_option linter.unusedVariables false
set_option maxRecDepth 100000
section
variable {H : Type} {enc : TypeId × Value → H} {w : World} {base : Nat} {spare : Nat → Bool} {held : Bool}
theorem open_lst_cells {α : Type} {size : Nat} {R : α → List Value → World → Prop} {Q : α → Prop} {t e : TypeId} (ht : Try.prog.underlying t = some (.slice e)) (hsz : Try.prog.cellsOf e = size) (hR : Rep size R)
    (hel : ∀ (fuel : Nat) (cs : List Value) (x : DataW H × List MemPlace), DataW.trod enc Try.prog w base spare held fuel e cs = some x → ∃ a, R a cs w ∧ Q a)
    {fuel : Nat} {u : Value} {x : DataW H × List MemPlace} (h : DataW.trod enc Try.prog w base spare held fuel t [u] = some x) : ∃ A n c xs, u = .slice A n c ∧ Lst size R w A n c xs ∧ ∀ a ∈ xs, Q a := by
  rcases open_slice ht h with ⟨hcs, _⟩ | ⟨a, len, cap, m, n, D, Pl, hcs, _, hl, hm, hmm, _, hx⟩
  · simp at hcs
    subst hcs
    exact ⟨_, _, _, [], rfl, Lst.nil _, by simp⟩
  · simp at hcs
    subst hcs
    have hlm : len ≤ m := by rw [hmm]; split <;> omega
    have step : ∀ k, k ≤ len → ∃ (xs : List α) (css : List (List Value)), xs.length = k ∧ All2 R w xs css ∧ (∀ x ∈ xs, Q x) ∧ ∀ (j : Nat) (v : Value), css.flatten[j]? = some v → w.cell? (a.add j) = some v := by
      intro k
      induction k with
      | zero => exact fun _ => ⟨[], [], rfl, .nil, by simp, fun j v hv => by simp at hv⟩
      | succ k ih =>
        intro hk
        obtain ⟨xs, css, e1, e2, e3, e4⟩ := ih (by omega)
        obtain ⟨cs, c1, c2⟩ := hx k (by omega)
        obtain ⟨y, hy, hq⟩ := hel _ _ _ c2
        obtain ⟨_, hcl, hcc⟩ := World.cells?_some c1
        rw [hsz] at hcl hcc
        refine ⟨xs ++ [y], css ++ [cs], by simp [e1], e2.append (.cons hy .nil), ?_, ?_⟩
        · intro z hz
          rcases List.mem_append.1 hz with hz | hz
          · exact e3 z hz
          · simp at hz
            exact hz ▸ hq
        · intro j v hv
          have hfl := e2.flat hR
          rw [e1] at hfl
          rw [List.flatten_append, List.flatten_cons, List.flatten_nil, List.append_nil, List.getElem?_append] at hv
          split at hv
          · exact e4 j v hv
          · rename_i hj
            rw [hfl] at hj hv
            have hjl : j - k * size < cs.length := (List.getElem?_eq_some_iff.1 hv).1
            have := hcc (j - k * size) (by omega)
            rw [add_add, show k * size + (j - k * size) = j by omega] at this
            rw [this]
            exact hv
    obtain ⟨xs, css, e1, e2, e3, e4⟩ := step len (Nat.le_refl _)
    exact ⟨some a, len, cap, xs, rfl, ⟨e1, hl, hm, css, e2, by rw [e2.flat hR, e1], fun _ => ⟨a, rfl, e4⟩⟩, e3⟩
theorem open_lst {α : Type} {size : Nat} {R : α → List Value → World → Prop} {Q : α → Prop} {t e : TypeId} (ht : Try.prog.underlying t = some (.slice e)) (hsz : Try.prog.cellsOf e = size) (hR : Rep size R)
    (hel : ∀ (fuel : Nat) (cs : List Value) (x : DataW H × List MemPlace), DataW.trod enc Try.prog w base spare held fuel e cs = some x → ∃ a, R a cs w ∧ Q a)
    {r : Reach} {b0 : Nat} {v : Value} {d : DataW H} {p : List MemPlace} (hv : Value.okWide Try.prog w r b0 t v) (h : DataW.Trod enc Try.prog w base spare held t v d p) :
    ∃ A n c xs, v = .slice A n c ∧ Lst size R w A n c xs ∧ ∀ a ∈ xs, Q a := by
  obtain ⟨a, len, cap, rfl⟩ := okWide_slice ht hv
  obtain ⟨fuel, hf⟩ := h
  exact open_lst_cells ht hsz hR hel hf
end
end Go.Proofs.Ytoeknbogaclfdaa

namespace Go.Proofs.Ytoeknbogaclfdaa
open Go.ChangeShapes Go.WideShapes Go.ChangeAt Go.RowKit Go.Deep
set_option linter.unusedVariables false
set_option maxRecDepth 100000
section
variable {H : Type} {enc : TypeId × Value → H} {w : World} {base : Nat} {spare : Nat → Bool} {held : Bool}
def inB (x : Int) : Prop := -9223372036854775808 ≤ x ∧ x ≤ 9223372036854775807
theorem open_i64s {r : Reach} {b0 : Nat} {v : Value} {d : DataW H} {p : List MemPlace} (hv : Value.okWide Try.prog w r b0 22 v) (h : DataW.Trod enc Try.prog w base spare held 22 v d p) :
    ∃ A n c xs, v = .slice A n c ∧ Lst 1 intR w A n c xs ∧ ∀ a ∈ xs, inB a := by
  refine open_lst (e := 3) (by kernel_rfl) (by kernel_rfl) int_rep (fun fuel cs x hx => ?_) hv h
  obtain ⟨k, hcs, _, hwf⟩ := DataW.trod_int under_i64 hx
  exact ⟨k, hcs, bounds_i64 hwf⟩
end
end Go.Proofs.Ytoeknbogaclfdaa
