/-
  Images with snapshots as types of temporaries; an image kept in a box.
-/
import Derived.Test.YtcklkjklepmabaaZFold
import Derived.Test.YtcklkjklepmabaaZEvLit
namespace Go.Proofs.Ytcklkjklepmabaa
open Go.RowKit
set_option linter.unusedVariables false
set_option maxRecDepth 100000

/-- a value that is an image in memory of its own -/
def StT (B : Nat) (s : St) : Ty := fun v w => ∃ A n c A2 n2 c2, v = stV A n c A2 n2 c2 ∧ StF w B A n c A2 n2 c2 s
theorem StT.keeps (B : Nat) (s : St) : Keeps Ext (StT B s) := fun _ _ _ hx ⟨A, n, c, A2, n2, c2, e, h⟩ => ⟨A, n, c, A2, n2, c2, e, h.ext hx⟩
/-- a pair of an image and a number -/
def StE (B : Nat) (s : St) (r : Nat) : Ty := fun v w => ∃ A n c A2 n2 c2, v = .tuple #[stV A n c A2 n2 c2, .int .i64 r] ∧ StF w B A n c A2 n2 c2 s
theorem StE.keeps (B : Nat) (s : St) (r : Nat) : Keeps Ext (StE B s r) := fun _ _ _ hx ⟨A, n, c, A2, n2, c2, e, h⟩ => ⟨A, n, c, A2, n2, c2, e, h.ext hx⟩
/-- the image in a box -/
def StB (g B : Nat) (s : St) : Ty := fun _ w => ∃ A n c A2 n2 c2, w.cell? ⟨g, 0, none⟩ = some (.slice A n c) ∧ w.cell? ⟨g, 1, none⟩ = some (.slice A2 n2 c2) ∧ (∀ q, w.frozen? ⟨g, q, none⟩ = false) ∧ StF w B A n c A2 n2 c2 s ∧ g < w.heap.size
theorem StB.keeps (g B : Nat) (s : St) : Keeps Ext (StB g B s) := fun _ _ _ hx ⟨A, n, c, A2, n2, c2, h0, h1, hf, h, hg⟩ => ⟨A, n, c, A2, n2, c2, hx.cell h0, hx.cell h1, fun q => frozen_ext hx hg (hf q), h.ext hx, Nat.lt_of_lt_of_le hg hx.size⟩
/-- two cells of a box set -/
theorem stb_set {w : World} {g B B' : Nat} {u0 u1 : Value} {A : Option Addr} {n c : Nat} {A2 : Option Addr} {n2 c2 : Nat} {s : St} (c0 : w.cell? ⟨g, 0, none⟩ = some u0) (c1 : w.cell? ⟨g, 1, none⟩ = some u1) (hf : ∀ q, w.frozen? ⟨g, q, none⟩ = false) (h : StF w B A n c A2 n2 c2 s) (hg : g < B) (hw : g < w.heap.size) (hB : B' ≤ B) (v : Value) :
    StB g B' s v ((w.setCell ⟨g, 0, none⟩ (.slice A n c)).setCell ⟨g, 1, none⟩ (.slice A2 n2 c2)) := by
  refine ⟨A, n, c, A2, n2, c2, ?_, ?_, ?_, ?_, ?_⟩
  · rw [World.cell?_setCell_other _ _ _ _ (fun e => by injection e with e1 e2; omega)]
    exact World.cell?_setCell_same _ _ _ c0
  · exact World.cell?_setCell_same _ _ _ (by rw [World.cell?_setCell_other _ _ _ _ (fun e => by injection e with e1 e2; omega)]; exact c1)
  · intro q
    rw [World.frozen?_setCell, World.frozen?_setCell]
    exact hf q
  · exact ((h.sets (p := ⟨g, 0, none⟩) hg _).sets (p := ⟨g, 1, none⟩) hg _).low hB
  · simp [World.setCell]; omega
theorem but_set2 {w : World} {H g : Nat} (u v : Value) : But H (fun k => k = g) w ((w.setCell ⟨g, 0, none⟩ u).setCell ⟨g, 1, none⟩ v) :=
  But.setCell (S := fun k => k = g) (But.setCell (S := fun k => k = g) (But.refl H (fun k => k = g) w) (p := ⟨g, 0, none⟩) (.inl rfl) u) (p := ⟨g, 1, none⟩) (.inl rfl) v
end Go.Proofs.Ytcklkjklepmabaa
