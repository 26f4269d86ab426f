/-
  A box that a region makes and fills with seven cells: the relation between worlds that keeps it, and its types.
-/
import Derived.Test.YtoeknbogaclfdaaZCore
import Derived.Test.YtoeknbogaclfdaaZFromTagParseToMsTags
namespace Go.Proofs.Ytoeknbogaclfdaa
open Go.RowKit
set_option linter.unusedVariables false
set_option maxRecDepth 100000
abbrev Bk := Array Value × Array Value × TypeId
def InBox (K : Bk) (g : Nat) (w : World) : Prop := w.heap[g]? = some (.cells K.1 K.2.2 (0, 0)) ∨ w.heap[g]? = some (.cells K.2.1 K.2.2 (0, 0))
theorem InBox.ext {K : Bk} {g : Nat} {w w' : World} (h : InBox K g w) (hx : Ext w w') : InBox K g w' := h.imp (fun h => blk_ext h hx) (fun h => blk_ext h hx)
structure Boc (H : Nat) (K : Bk) (w w' : World) : Prop where
  but : But H (fun _ => False) w w'
  box : ∀ g, InBox K g w → InBox K g w'
theorem Boc.refl (H : Nat) (K : Bk) (w : World) : Boc H K w w := ⟨But.refl H _ w, fun g h => h⟩
theorem Boc.trans {H : Nat} {K : Bk} {a b c : World} (h : Boc H K a b) (k : Boc H K b c) : Boc H K a c := ⟨h.but.trans k.but, fun g hg => k.box g (h.box g hg)⟩
theorem Boc.of_ext {H : Nat} {K : Bk} {a b : World} (h : Ext a b) : Boc H K a b := ⟨But.of_ext h, fun g hg => hg.ext h⟩
theorem Boc.steady (H : Nat) (K : Bk) : Steady (Boc H K) := ⟨Boc.refl H K, fun _ _ _ => Boc.trans, fun w => Boc.of_ext (Ext.drew w)⟩
def BocP (H : Nat) (K : Bk) : Ty := fun v w => ∃ g, v = .pointer (some ⟨g, 0, none⟩) ∧ H ≤ g ∧ InBox K g w
theorem BocP.keeps (H : Nat) (K : Bk) : Keeps Ext (BocP H K) := fun _ _ _ hx ⟨g, e, h1, h2⟩ => ⟨g, e, h1, h2.ext hx⟩
theorem BocP.keeps2 (H : Nat) (K : Bk) {H' : Nat} : Keeps (Boc H' K) (BocP H K) := fun _ _ _ hx ⟨g, e, h1, h2⟩ => ⟨g, e, h1, hx.box g h2⟩
theorem BocP.made {H : Nat} {w : World} (C : Array Value) (C2 : Array Value) (e : TypeId) (h : H ≤ w.heap.size) : BocP H (C, C2, e) (.pointer (some ⟨w.heap.size, 0, none⟩)) (w.alloc (.cells C e)) := ⟨_, rfl, h, .inl (heap_alloc_new w _)⟩
def BocS (K : Bk) (γ : Value) : Ty := fun v w => ∀ g, γ = .pointer (some ⟨g, 0, none⟩) → w.heap[g]? = some (.cells K.2.1 K.2.2 (0, 0))
theorem BocS.keeps (K : Bk) (γ : Value) : Keeps Ext (BocS K γ) := fun _ _ _ hx h g e => blk_ext (h g e) hx
theorem InBox.cell {C0 C : Array Value} {e : TypeId} {g : Nat} {w : World} (h : InBox (C0, C, e) g w) (h0 : C0.size = 7) (h1 : C.size = 7) (j : Nat) (hj : j < 7) : (∃ u, w.cell? ⟨g, j, none⟩ = some u) ∧ w.frozen? ⟨g, j, none⟩ = false := by
  rcases h with h | h
  · exact ⟨⟨_, blk_cell h j (Array.getElem?_eq_getElem (by simp only; omega))⟩, blk_frozen h j⟩
  · exact ⟨⟨_, blk_cell h j (Array.getElem?_eq_getElem (by simp only; omega))⟩, blk_frozen h j⟩
end Go.Proofs.Ytoeknbogaclfdaa
