/-
  The way from bytes to others: contract of the reference's Bytes.
-/
import Derived.Test.YtcklkjklepmabaaZDiff
namespace Go.Proofs.Ytcklkjklepmabaa
open Go.RowKit
set_option linter.unusedVariables false
set_option maxRecDepth 100000

theorem cell_other (w : World) (g o o' : Nat) (v : Value) (h : o' ≠ o) : (w.setCell ⟨g, o, none⟩ v).cell? ⟨g, o', none⟩ = w.cell? ⟨g, o', none⟩ :=
  World.cell?_setCell_other _ _ _ _ (fun e => h (by injection e with e1 e2; exact e2.symm))
/-- five cells stored -/
theorem set5 {w : World} {g : Nat} {u0 u1 u2 u3 u4 : Value} (h0 : w.cell? ⟨g, 0, none⟩ = some u0) (h1 : w.cell? ⟨g, 1, none⟩ = some u1) (h2 : w.cell? ⟨g, 2, none⟩ = some u2) (h3 : w.cell? ⟨g, 3, none⟩ = some u3) (h4 : w.cell? ⟨g, 4, none⟩ = some u4) (v0 v1 v2 v3 v4 : Value) :
    ∃ W, W = ((((w.setCell ⟨g, 0, none⟩ v0).setCell ⟨g, 1, none⟩ v1).setCell ⟨g, 2, none⟩ v2).setCell ⟨g, 3, none⟩ v3).setCell ⟨g, 4, none⟩ v4 ∧
      W.cell? ⟨g, 0, none⟩ = some v0 ∧ W.cell? ⟨g, 1, none⟩ = some v1 ∧ W.cell? ⟨g, 2, none⟩ = some v2 ∧ W.cell? ⟨g, 3, none⟩ = some v3 ∧ W.cell? ⟨g, 4, none⟩ = some v4 := by
  refine ⟨_, rfl, ?_, ?_, ?_, ?_, ?_⟩
  · rw [cell_other _ _ _ _ _ (by omega), cell_other _ _ _ _ _ (by omega), cell_other _ _ _ _ _ (by omega), cell_other _ _ _ _ _ (by omega)]
    exact World.cell?_setCell_same _ _ _ h0
  · rw [cell_other _ _ _ _ _ (by omega), cell_other _ _ _ _ _ (by omega), cell_other _ _ _ _ _ (by omega)]
    exact World.cell?_setCell_same _ _ _ (by rw [cell_other _ _ _ _ _ (by omega)]; exact h1)
  · rw [cell_other _ _ _ _ _ (by omega), cell_other _ _ _ _ _ (by omega)]
    exact World.cell?_setCell_same _ _ _ (by rw [cell_other _ _ _ _ _ (by omega), cell_other _ _ _ _ _ (by omega)]; exact h2)
  · rw [cell_other _ _ _ _ _ (by omega)]
    exact World.cell?_setCell_same _ _ _ (by rw [cell_other _ _ _ _ _ (by omega), cell_other _ _ _ _ _ (by omega), cell_other _ _ _ _ _ (by omega)]; exact h3)
  · exact World.cell?_setCell_same _ _ _ (by rw [cell_other _ _ _ _ _ (by omega), cell_other _ _ _ _ _ (by omega), cell_other _ _ _ _ _ (by omega), cell_other _ _ _ _ _ (by omega)]; exact h4)
theorem set5_frozen (w : World) (g : Nat) (v0 v1 v2 v3 v4 : Value) (p : Addr) : (((((w.setCell ⟨g, 0, none⟩ v0).setCell ⟨g, 1, none⟩ v1).setCell ⟨g, 2, none⟩ v2).setCell ⟨g, 3, none⟩ v3).setCell ⟨g, 4, none⟩ v4).frozen? p = w.frozen? p := by
  rw [World.frozen?_setCell, World.frozen?_setCell, World.frozen?_setCell, World.frozen?_setCell, World.frozen?_setCell]
/-- the event as far as its bytes are looked at -/
def evTo (k N : Nat) (p : List UInt8) (j : Nat) : Ev := if zeroB (p.take j) then ⟨3, k, N, [], ⟨#[]⟩⟩ else ⟨1, k, 0, p, ⟨#[]⟩⟩
theorem zero_nil : zeroB [] = true := rfl
theorem zero_snoc (p : List UInt8) (c : UInt8) : zeroB (p ++ [c]) = (zeroB p && (c == 0)) := by
  unfold zeroB
  rw [List.length_append, List.length_singleton, List.replicate_succ']
  rw [Bool.eq_iff_iff]
  simp
theorem evTo_zero (k N : Nat) (p : List UInt8) : evTo k N p 0 = ⟨3, k, N, [], ⟨#[]⟩⟩ := by unfold evTo; rw [List.take_zero, if_pos zero_nil]
theorem evTo_same {k N j : Nat} {p : List UInt8} (hj : j < p.length) (h : p.getD j 0 = 0) : evTo k N p (j + 1) = evTo k N p j := by
  unfold evTo
  rw [List.take_add_one, List.getElem?_eq_getElem hj, Option.toList_some, zero_snoc]
  rw [List.getD_eq_getElem?_getD, List.getElem?_eq_getElem hj, Option.getD_some] at h
  rw [h]
  simp
theorem evTo_other {k N j : Nat} {p : List UInt8} (hj : j < p.length) (h : p.getD j 0 ≠ 0) : evTo k N p (j + 1) = ⟨1, k, 0, p, ⟨#[]⟩⟩ := by
  unfold evTo
  rw [List.take_add_one, List.getElem?_eq_getElem hj, Option.toList_some, zero_snoc]
  rw [List.getD_eq_getElem?_getD, List.getElem?_eq_getElem hj, Option.getD_some] at h
  rw [if_neg]
  simp [h]
theorem evTo_end {k N : Nat} {b : List UInt8} {p : List UInt8} (hp : (b.drop k).take N = p) (hl : p.length = N) : evTo k N p N = evAt b k N := by
  unfold evTo evAt
  rw [hp, List.take_of_length_le (by omega)]
end Go.Proofs.Ytcklkjklepmabaa
