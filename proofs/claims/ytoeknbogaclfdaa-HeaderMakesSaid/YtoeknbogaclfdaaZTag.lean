/-
  Tags: chains as lists; contract of the program's alike.
-/
import Derived.Test.YtoeknbogaclfdaaZCore
namespace Go.Proofs.Ytoeknbogaclfdaa
open Go.RowKit
set_option linter.unusedVariables false
set_option linter.unusedSimpArgs false
set_option linter.unnecessarySimpa false
set_option maxRecDepth 100000

structure Tg where
  id : Int
  ow : Int
  he : Int
  pt : Int
  deriving DecidableEq
def tgR (x : Tg) (cs : List Value) (w : World) : Prop := cs = [.int .i64 x.id, .int .i64 x.ow, .int .i64 x.he, .int .i64 x.pt]
theorem tg_rep : Rep 4 tgR where
  len := by rintro x cs w rfl; rfl
  one := by
    rintro x cs w rfl u hu
    simp at hu
    rcases hu with rfl | rfl | rfl | rfl <;> rfl
  keep := by
    rintro x cs w w' rfl hk
    rfl
  lt := by
    rintro x cs w rfl k ⟨ad, m, c', hm, _⟩
    simp at hm
def alikeN : List Tg → List Tg → Nat
  | x :: xs, y :: ys => if x = y then alikeN xs ys + 1 else 0
  | [], _ => 0
  | _ :: _, [] => 0
theorem alike_yes {xs ys : List Tg} {k : Nat} {x : Tg} (hx : xs[k]? = some x) (hy : ys[k]? = some x) : k + alikeN (xs.drop k) (ys.drop k) = (k + 1) + alikeN (xs.drop (k + 1)) (ys.drop (k + 1)) := by
  obtain ⟨h1, e1⟩ := List.getElem?_eq_some_iff.1 hx
  obtain ⟨h2, e2⟩ := List.getElem?_eq_some_iff.1 hy
  rw [List.drop_eq_getElem_cons h1, List.drop_eq_getElem_cons h2, e1, e2, alikeN, if_pos rfl]
  omega
theorem alike_no {xs ys : List Tg} {k : Nat} {x y : Tg} (hx : xs[k]? = some x) (hy : ys[k]? = some y) (hne : x ≠ y) : k + alikeN (xs.drop k) (ys.drop k) = k := by
  obtain ⟨h1, e1⟩ := List.getElem?_eq_some_iff.1 hx
  obtain ⟨h2, e2⟩ := List.getElem?_eq_some_iff.1 hy
  rw [List.drop_eq_getElem_cons h1, List.drop_eq_getElem_cons h2, e1, e2, alikeN, if_neg hne]
  omega
theorem alike_end {xs ys : List Tg} {k : Nat} (h : xs.length ≤ k ∨ ys.length ≤ k) : k + alikeN (xs.drop k) (ys.drop k) = k := by
  rcases h with h | h
  · rw [List.drop_of_length_le h]
    rfl
  · rw [List.drop_of_length_le h]
    cases xs.drop k <;> rfl

end Go.Proofs.Ytoeknbogaclfdaa
