/-
  A box that a region makes and fills with seven cells: the relation between worlds that keeps it, and its types.
-/
import Derived.Test.YtoeknbogaclfdaaZCore
import Derived.Test.YtoeknbogaclfdaaZHdParse
namespace Go.Proofs.Ytoeknbogaclfdaa
open Go.RowKit
set_option linter.unusedVariables false
set_option maxRecDepth 100000

/-- before, behind, of what type -/
abbrev Bk := Array Value × Array Value × TypeId
def InBox (K : Bk) (g : Nat) (w : World) : Prop := w.heap[g]? = some (.cells K.1 K.2.2 (0, 0)) ∨ w.heap[g]? = some (.cells K.2.1 K.2.2 (0, 0))
theorem InBox.ext {K : Bk} {g : Nat} {w w' : World} (h : InBox K g w) (hx : Ext w w') : InBox K g w' := h.imp (fun h => blk_ext h hx) (fun h => blk_ext h hx)
structure Boc (H : Nat) (K : Bk) (w w' : World) : Prop where
  but : But H (fun _ => False) w w'
  box : ∀ g, InBox K g w → InBox K g w'
theorem Boc.refl (H : Nat) (K : Bk) (w : World) : Boc H K w w := ⟨But.refl H _ w, fun g h => h⟩
theorem Boc.trans {H : Nat} {K : Bk} {a b c : World} (h : Boc H K a b) (k : Boc H K b c) : Boc H K a c := ⟨h.but.trans k.but, fun g hg => k.box g (h.box g hg)⟩
theorem Boc.of_ext {H : Nat} {K : Bk} {a b : World} (h : Ext a b) : Boc H K a b := ⟨But.of_ext h, fun g hg => hg.ext h⟩
theorem Boc.steady (H : Nat) (K : Bk) : Steady (Boc H K) := ⟨Boc.refl H K, fun _ _ _ => Boc.trans, fun w => Boc.of_ext (Ext.drew w)⟩
def BocP (H : Nat) (K : Bk) : Ty := fun v w => ∃ g, v = .pointer (some ⟨g, 0, none⟩) ∧ H ≤ g ∧ InBox K g w
theorem BocP.keeps (H : Nat) (K : Bk) : Keeps Ext (BocP H K) := fun _ _ _ hx ⟨g, e, h1, h2⟩ => ⟨g, e, h1, h2.ext hx⟩
theorem BocP.keeps2 (H : Nat) (K : Bk) {H' : Nat} : Keeps (Boc H' K) (BocP H K) := fun _ _ _ hx ⟨g, e, h1, h2⟩ => ⟨g, e, h1, hx.box g h2⟩
theorem BocP.made {H : Nat} {w : World} (C : Array Value) (C2 : Array Value) (e : TypeId) (h : H ≤ w.heap.size) : BocP H (C, C2, e) (.pointer (some ⟨w.heap.size, 0, none⟩)) (w.alloc (.cells C e)) := ⟨_, rfl, h, .inl (heap_alloc_new w _)⟩
def BocS (K : Bk) (γ : Value) : Ty := fun v w => ∀ g, γ = .pointer (some ⟨g, 0, none⟩) → w.heap[g]? = some (.cells K.2.1 K.2.2 (0, 0))
theorem BocS.keeps (K : Bk) (γ : Value) : Keeps Ext (BocS K γ) := fun _ _ _ hx h g e => blk_ext (h g e) hx
theorem seven_arr {D : Array Value} (h : D.size = 7) : ∃ a b c d e f g, D = #[a, b, c, d, e, f, g] := by
  obtain ⟨l⟩ := D
  obtain _ | ⟨a, _ | ⟨b, _ | ⟨c, _ | ⟨d, _ | ⟨e, _ | ⟨f, _ | ⟨g, _ | ⟨i, l⟩⟩⟩⟩⟩⟩⟩⟩ := l <;> simp at h
  exact ⟨a, b, c, d, e, f, g, rfl⟩
def set7 (w : World) (g : Nat) (v0 v1 v2 v3 v4 v5 v6 : Value) : World := ((((((w.setCell ⟨g, 0, none⟩ v0).setCell ⟨g, 1, none⟩ v1).setCell ⟨g, 2, none⟩ v2).setCell ⟨g, 3, none⟩ v3).setCell ⟨g, 4, none⟩ v4).setCell ⟨g, 5, none⟩ v5).setCell ⟨g, 6, none⟩ v6
theorem set7_at {w : World} {g : Nat} {D : Array Value} {e : TypeId} (h : w.heap[g]? = some (.cells D e (0, 0))) (hD : D.size = 7) (v0 v1 v2 v3 v4 v5 v6 : Value) : (set7 w g v0 v1 v2 v3 v4 v5 v6).heap[g]? = some (.cells #[v0, v1, v2, v3, v4, v5, v6] e (0, 0)) := by
  obtain ⟨a, b, c, d, e', f, g', rfl⟩ := seven_arr hD
  unfold set7
  have := blk_set (blk_set (blk_set (blk_set (blk_set (blk_set (blk_set h 0 v0) 1 v1) 2 v2) 3 v3) 4 v4) 5 v5) 6 v6
  simpa using this
theorem set7_far {w : World} {g g' : Nat} {o : Obj} (h : w.heap[g']? = some o) (hne : g ≠ g') (v0 v1 v2 v3 v4 v5 v6 : Value) : (set7 w g v0 v1 v2 v3 v4 v5 v6).heap[g']? = some o := by
  unfold set7
  exact blk_far (blk_far (blk_far (blk_far (blk_far (blk_far (blk_far h hne v0) hne v1) hne v2) hne v3) hne v4) hne v5) hne v6
theorem InBox.cell {C0 C : Array Value} {e : TypeId} {g : Nat} {w : World} (h : InBox (C0, C, e) g w) (h0 : C0.size = 7) (h1 : C.size = 7) (j : Nat) (hj : j < 7) : (∃ u, w.cell? ⟨g, j, none⟩ = some u) ∧ w.frozen? ⟨g, j, none⟩ = false := by
  rcases h with h | h
  · exact ⟨⟨_, blk_cell h j (Array.getElem?_eq_getElem (by simp only; omega))⟩, blk_frozen h j⟩
  · exact ⟨⟨_, blk_cell h j (Array.getElem?_eq_getElem (by simp only; omega))⟩, blk_frozen h j⟩
theorem boc_set {H : Nat} {C0 : Array Value} {e : TypeId} {g : Nat} {w : World} {v0 v1 v2 v3 v4 v5 v6 : Value} (hg : H ≤ g) (h : InBox (C0, #[v0, v1, v2, v3, v4, v5, v6], e) g w) (h0 : C0.size = 7) :
    Boc H (C0, #[v0, v1, v2, v3, v4, v5, v6], e) w (set7 w g v0 v1 v2 v3 v4 v5 v6) ∧ (set7 w g v0 v1 v2 v3 v4 v5 v6).heap[g]? = some (.cells #[v0, v1, v2, v3, v4, v5, v6] e (0, 0)) := by
  have key : (set7 w g v0 v1 v2 v3 v4 v5 v6).heap[g]? = some (.cells #[v0, v1, v2, v3, v4, v5, v6] e (0, 0)) := by
    rcases h with h | h
    · exact set7_at h h0 _ _ _ _ _ _ _
    · exact set7_at h rfl _ _ _ _ _ _ _
  refine ⟨⟨?_, fun g' hg' => ?_⟩, key⟩
  · unfold set7
    exact ((((((But.setCell (But.refl H _ w) (p := ⟨g, 0, none⟩) (.inr hg) _).setCell (p := ⟨g, 1, none⟩) (.inr hg) _).setCell (p := ⟨g, 2, none⟩) (.inr hg) _).setCell (p := ⟨g, 3, none⟩) (.inr hg) _).setCell (p := ⟨g, 4, none⟩) (.inr hg) _).setCell (p := ⟨g, 5, none⟩) (.inr hg) _).setCell (p := ⟨g, 6, none⟩) (.inr hg) _
  · by_cases e1 : g = g'
    · subst e1
      exact .inr key
    · exact hg'.imp (fun q => set7_far q e1 _ _ _ _ _ _ _) (fun q => set7_far q e1 _ _ _ _ _ _ _)
end Go.Proofs.Ytoeknbogaclfdaa
