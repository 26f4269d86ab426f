/-
  Slices of integers: they read as a list.
-/
import Derived.Test.YtoeknbogaclfdaaZCore
namespace Go.Proofs.Ytoeknbogaclfdaa
open Go.RowKit
set_option linter.unusedVariables false
set_option linter.unusedSimpArgs false
set_option linter.unnecessarySimpa false
set_option maxRecDepth 100000

abbrev INT : TypeId := 3
theorem info_int : (Try.prog.info? INT).map (fun i => (i.zero, i.size, i.bytes)) = some (some (.int .i64 0), 1, 8) := by kernel_rfl
theorem under_ints : Try.prog.underlying 22 = some (.slice INT) := by kernel_rfl
def intR (x : Int) (cs : List Value) (w : World) : Prop := cs = [.int .i64 x]
theorem int_rep : Rep 1 intR where
  len := by rintro x cs w rfl; rfl
  one := by
    rintro x cs w rfl u hu
    simp at hu
    subst hu
    rfl
  keep := by
    rintro x cs w w' rfl hk
    rfl
  lt := by
    rintro x cs w rfl k ⟨ad, m, c', hm, _⟩
    simp at hm
theorem Lst.atI {w : World} {A : Option Addr} {n c i : Nat} {xs : List Int} (h : Lst 1 intR w A n c xs) (hi : i < n) :
    ∃ (g o : Nat) (x : Int), A = some ⟨g, o, none⟩ ∧ xs[i]? = some x ∧ w.cell? ⟨g, o + i, none⟩ = some (.int .i64 x) := by
  obtain ⟨g, o, x, cs, e, hx, rfl, hc⟩ := h.at2 int_rep (by omega) hi
  refine ⟨g, o, x, e, hx, ?_⟩
  have := hc 0 _ rfl
  simpa using this
theorem drop_step {α : Type} {xs : List α} {k : Nat} {x : α} (hx : xs[k]? = some x) : xs.drop k = x :: xs.drop (k + 1) := by
  obtain ⟨h, rfl⟩ := List.getElem?_eq_some_iff.1 hx
  exact List.drop_eq_getElem_cons h
end Go.Proofs.Ytoeknbogaclfdaa
