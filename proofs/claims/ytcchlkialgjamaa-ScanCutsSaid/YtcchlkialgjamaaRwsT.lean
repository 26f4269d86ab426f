/-
  Rows of rows in the making, as types for regions that draw their order.
-/
import Derived.Test.YtcchlkialgjamaaRws
import Derived.Test.YtcchlkialgjamaaBut
namespace Go.Proofs.Ytcchlkialgjamaa
open Go.RowKit
set_option linter.unusedVariables false

/-- every row lies below P or from H on -/
def RowIn (P H N : Nat) (V : Spots) : Prop := ∀ j k, j < N → rowOf (V j).1 (V j).2.2 = some k → k < P ∨ H ≤ k
theorem Rws.rowIn {w : World} {B g N : Nat} {V : Spots} {rows : List (List UInt8)} (h : Rws w B g N V rows) (H : Nat) : RowIn w.heap.size H N V := fun j k hj hk =>
  .inl ((h.own j _ (List.getElem?_eq_getElem (by rw [h.len]; exact hj))).own.row_ge k hk).2
theorem RowIn.put {P H N j : Nat} {V : Spots} (h : RowIn P H N V) {v : Option Addr × Nat × Nat} (hv : ∀ k, rowOf v.1 v.2.2 = some k → k < P ∨ H ≤ k) : RowIn P H N (fun i => if i = j then v else V i) := by
  intro i k hi hk
  by_cases e : i = j
  · simp only [e, if_true] at hk
    exact hv k hk
  · simp only [e, if_false] at hk
    exact h i k hi hk
theorem ext_setCell {w w' : World} (h : Ext w w') {p : Addr} (v : Value) : Ext (w.setCell p v) (w'.setCell p v) := by
  have e1 : w'.os = w.os := Below.os h
  have e2 : w'.tape = w.tape := Below.tape h
  have e3 : w'.output = w.output := Below.output h
  refine ⟨e1, e2, e3, by have := h.size; simp [World.setCell]; exact this, fun k hk => ?_⟩
  have hk' : k < w.heap.size := by simpa [World.setCell] using hk
  have e := Below.block h k hk'
  unfold World.setCell
  simp only [Array.getElem?_modify, e]
/-- after the append, ahead of the store -/
def RAp (B g N P H j m : Nat) (rows : List (List UInt8)) : Ty := fun v w => ∃ A c V u, v = .slice A m c ∧ Rws (w.setCell ⟨g, j, none⟩ (.slice A m c)) B g N V rows ∧ w.cell? ⟨g, j, none⟩ = some u ∧ w.frozen? ⟨g, j, none⟩ = false ∧ RowIn P H N V
theorem RAp.keeps (B g N P H j m : Nat) (rows : List (List UInt8)) : Keeps Ext (RAp B g N P H j m rows) := fun _ w w' hx ⟨A, c, V, u, e, h, hc, hf, hr⟩ => ⟨A, c, V, u, e, h.ext (ext_setCell hx _), hx.cell hc, by
  have e : w'.frozen? ⟨g, j, none⟩ = w.frozen? ⟨g, j, none⟩ := Below.frozen hx (World.block_lt_of_cell? w _ hc)
  rw [e]
  exact hf, hr⟩
def REn (B g N P H : Nat) (rows : List (List UInt8)) : Ty := fun _ w => ∃ V, Rws w B g N V rows ∧ RowIn P H N V
theorem REn.keeps (B g N P H : Nat) (rows : List (List UInt8)) : Keeps Ext (REn B g N P H rows) := fun _ _ _ hx ⟨V, h, hr⟩ => ⟨V, h.ext hx, hr⟩
/-- the first i of one list, the others of another -/
def mixR (a b : List (List UInt8)) (i : Nat) : List (List UInt8) := a.take i ++ b.drop i
theorem mixR_zero (a b : List (List UInt8)) : mixR a b 0 = b := by simp [mixR]
theorem mixR_all {a b : List (List UInt8)} {i : Nat} (ha : a.length = i) (hb : b.length = i) : mixR a b i = a := by
  unfold mixR
  rw [List.take_of_length_le (by omega), List.drop_of_length_le (by omega), List.append_nil]
theorem mixR_at {a b : List (List UInt8)} {i : Nat} (ha : i < a.length) : (mixR a b i)[i]? = b[i]? := by
  unfold mixR
  rw [List.getElem?_append_right (by rw [List.length_take]; omega), List.getElem?_drop, List.length_take]
  congr 1
  omega
theorem mixR_next {a b : List (List UInt8)} {i : Nat} {x : List UInt8} (hx : a[i]? = some x) (hb : i < b.length) : mixR a b (i + 1) = (mixR a b i).set i x := by
  have ha := (List.getElem?_eq_some_iff.1 hx).1
  have hl : (a.take i).length = i := by rw [List.length_take]; omega
  unfold mixR
  rw [List.set_append_right _ _ (by omega), hl, Nat.sub_self, List.take_add_one, hx]
  rw [List.drop_eq_getElem_cons hb, List.set_cons_zero, List.append_assoc]
  rfl
theorem Byt.but {H : Nat} {S : Nat → Prop} {w w' : World} {B n c : Nat} {A : Option Addr} {l : List UInt8} (h : Byt U8 w B A n c l) (k : But H S w w') (hr : ∀ q, rowOf A c = some q → q < H ∧ ¬ S q) : Byt U8 w' B A n c l := ⟨h.len, h.own.but k hr⟩
end Go.Proofs.Ytcchlkialgjamaa
