/-
  A box that a region makes and fills: the relation between worlds that keeps its cells there, and its type.
-/
import Derived.Test.YtcklkjklepmabaaZCore
import Derived.Test.YtcklkjklepmabaaZStTy
namespace Go.Proofs.Ytcklkjklepmabaa
open Go.RowKit
set_option linter.unusedVariables false
set_option maxRecDepth 100000

def set2 (w : World) (g : Nat) (u v : Value) : World := (w.setCell ⟨g, 0, none⟩ u).setCell ⟨g, 1, none⟩ v
theorem set2_other {w : World} {g : Nat} {u v : Value} {p : Addr} (h0 : p ≠ ⟨g, 0, none⟩) (h1 : p ≠ ⟨g, 1, none⟩) : (set2 w g u v).cell? p = w.cell? p := by
  unfold set2
  rw [World.cell?_setCell_other _ _ _ _ (Ne.symm h1), World.cell?_setCell_other _ _ _ _ (Ne.symm h0)]
/-- a block whose first two cells are slices, and that may be written -/
def IsBox (g : Nat) (w : World) : Prop := g < w.heap.size ∧ (∃ A n c A2 n2 c2, w.cell? ⟨g, 0, none⟩ = some (.slice A n c) ∧ w.cell? ⟨g, 1, none⟩ = some (.slice A2 n2 c2)) ∧ ∀ q, w.frozen? ⟨g, q, none⟩ = false
theorem IsBox.ext {g : Nat} {w w' : World} (h : IsBox g w) (hx : Ext w w') : IsBox g w' := by
  obtain ⟨h1, ⟨A, n, c, A2, n2, c2, h2, h3⟩, h4⟩ := h
  exact ⟨Nat.lt_of_lt_of_le h1 hx.size, ⟨A, n, c, A2, n2, c2, hx.cell h2, hx.cell h3⟩, fun q => frozen_ext hx h1 (h4 q)⟩
theorem IsBox.set {g g' : Nat} {w : World} (h : IsBox g w) (A : Option Addr) (n c : Nat) (A2 : Option Addr) (n2 c2 : Nat) : IsBox g (set2 w g' (.slice A n c) (.slice A2 n2 c2)) := by
  obtain ⟨h1, ⟨B, m, d, B2, m2, d2, h2, h3⟩, h4⟩ := h
  refine ⟨by unfold set2; simp [World.setCell]; omega, ?_, fun q => by unfold set2; rw [World.frozen?_setCell, World.frozen?_setCell]; exact h4 q⟩
  by_cases e : g = g'
  · subst e
    refine ⟨A, n, c, A2, n2, c2, ?_, ?_⟩
    · unfold set2
      rw [World.cell?_setCell_other _ _ _ _ (fun e => by injection e with e1 e2; omega)]
      exact World.cell?_setCell_same _ _ _ h2
    · unfold set2
      exact World.cell?_setCell_same _ _ _ (by rw [World.cell?_setCell_other _ _ _ _ (fun e => by injection e with e1 e2; omega)]; exact h3)
  · have h5 : ∀ j : Nat, (⟨g, j, none⟩ : Addr) ≠ ⟨g', 0, none⟩ ∧ (⟨g, j, none⟩ : Addr) ≠ ⟨g', 1, none⟩ := fun j => ⟨fun e2 => by injection e2 with e3; exact e e3, fun e2 => by injection e2 with e3; exact e e3⟩
    exact ⟨B, m, d, B2, m2, d2, by rw [set2_other (h5 0).1 (h5 0).2]; exact h2, by rw [set2_other (h5 1).1 (h5 1).2]; exact h3⟩
theorem cell_spot {w : World} {p : Addr} {u : Value} (h : w.cell? p = some u) : p.spot = none := by
  unfold World.cell? at h
  split at h
  · split at h
    · cases h
    · rename_i h2
      cases hs : p.spot with
      | none => rfl
      | some x => rw [hs] at h2; simp at h2
  · cases h
theorem add_block (a : Addr) (j : Nat) : (a.add j).block = a.block := by unfold Addr.add; split <;> rfl
theorem add_off (a : Addr) (j : Nat) : (a.add j).off = a.off + j := by
  unfold Addr.add
  split
  · rename_i h; rw [h]; rfl
  · rfl
theorem Sl.box {w : World} {g : Nat} {A : Option Addr} {n c : Nat} {l : List UInt8} (h : Sl w A n c l) (hb : IsBox g w) (u v : Value) : Sl (set2 w g u v) A n c l := by
  obtain ⟨_, ⟨B, m, d, B2, m2, d2, h2, h3⟩, _⟩ := hb
  refine ⟨h.len, h.cap, h.max, h.rd.1, fun hn => ?_⟩
  obtain ⟨ad, e, hc⟩ := h.rd.2 hn
  refine ⟨ad, e, fun j x hx => ?_⟩
  have h4 := hc j x hx
  obtain ⟨b, _, rfl⟩ : ∃ b, l[j]? = some b ∧ bv b = x := by simpa using hx
  rw [set2_other]
  · exact h4
  · intro e2; rw [e2, h2] at h4; cases h4
  · intro e2; rw [e2, h3] at h4; cases h4
theorem ol_parity {w : World} {R : Ol → List Value → World → Prop} (hR : ∀ x cs w, R x cs w → ∃ s A n c, cs = [.string s, .slice A n c]) : ∀ {xs : List Ol} {css : List (List Value)}, All2 R w xs css → ∀ (j : Nat) (A : Option Addr) (n c : Nat), css.flatten[j]? = some (.slice A n c) → ∃ i s, j = i + 1 ∧ css.flatten[i]? = some (.string s)
  | _, _, .nil, j, A, n, c, h => by simp at h
  | _, _, .cons hx t, j, A, n, c, h => by
    obtain ⟨s, A', n', c', rfl⟩ := hR _ _ _ hx
    match j with
    | 0 => simp at h
    | 1 => exact ⟨0, s, rfl, by simp⟩
    | j + 2 =>
      obtain ⟨i, s', e, h2⟩ := ol_parity hR t j A n c (by simpa using h)
      exact ⟨i + 2, s', by omega, by simpa using h2⟩
theorem from_ol {B : Nat} : ∀ x cs w, fromR olR B x cs w → ∃ s A n c, cs = [.string s, .slice A n c] := by
  rintro x cs w ⟨⟨A, n, c, rfl, _⟩, _⟩
  exact ⟨_, _, _, _, rfl⟩
theorem Lst.box {w : World} {g B : Nat} {A : Option Addr} {n c : Nat} {xs : List Ol} (h : Lst 2 (fromR olR B) w A n c xs) (hb : IsBox g w) (u v : Value) : Lst 2 (fromR olR B) (set2 w g u v) A n c xs := by
  obtain ⟨css, h1, h2⟩ := h.rd
  refine ⟨h.len, h.cap, h.max, css, h1.mono fun x cs _ hr => ?_, h2.1, fun hn => ?_⟩
  · obtain ⟨⟨A', n', c', rfl, hs, hz⟩, hp⟩ := hr
    exact ⟨⟨A', n', c', rfl, hs.box hb u v, hz⟩, hp⟩
  · obtain ⟨ad, e, hc⟩ := h2.2 hn
    obtain ⟨_, ⟨B', m, d, B2, m2, d2, c0, c1⟩, _⟩ := hb
    refine ⟨ad, e, fun j x hx => ?_⟩
    have h4 := hc j x hx
    have hsl : ∀ q, (q = 0 ∨ q = 1) → ad.add j = ⟨g, q, none⟩ → False := by
      intro q hq e2
      obtain ⟨A3, n3, c3, rfl⟩ : ∃ A n c, x = .slice A n c := by
        rcases hq with rfl | rfl
        · rw [e2, c0] at h4; cases h4; exact ⟨_, _, _, rfl⟩
        · rw [e2, c1] at h4; cases h4; exact ⟨_, _, _, rfl⟩
      obtain ⟨i, s, rfl, h5⟩ := ol_parity from_ol h1 j A3 n3 c3 hx
      have h6 := hc i _ h5
      have e3 : ad.add i = ⟨g, 0, none⟩ ∧ q = 1 := by
        have k1 := congrArg Addr.block e2
        have k2 := congrArg Addr.off e2
        rw [add_block] at k1
        rw [add_off] at k2
        simp only at k1 k2
        refine ⟨?_, by omega⟩
        have k3 := cell_spot h6
        have k4 := add_block ad i
        have k5 := add_off ad i
        generalize ad.add i = p at k3 k4 k5
        obtain ⟨b, o, sp⟩ := p
        simp only at k3 k4 k5
        subst k3
        rw [k4, k5, k1]
        congr 1
        omega
      rw [e3.1, c0] at h6
      cases h6
    rw [set2_other (hsl 0 (.inl rfl)) (hsl 1 (.inr rfl))]
    exact h4
theorem StF.box {w : World} {g B : Nat} {A : Option Addr} {n c : Nat} {A2 : Option Addr} {n2 c2 : Nat} {s : St} (h : StF w B A n c A2 n2 c2 s) (hb : IsBox g w) (u v : Value) : StF (set2 w g u v) B A n c A2 n2 c2 s :=
  ⟨⟨h.data.sl.box hb u v, h.data.fr⟩, h.snaps.box hb u v, h.row⟩
/-- as But; and a box stays one -/
structure Bux (H : Nat) (S : Nat → Prop) (w w' : World) : Prop where
  but : But H S w w'
  box : ∀ g, IsBox g w → IsBox g w'
  stf : ∀ B A n c A2 n2 c2 s, StF w B A n c A2 n2 c2 s → StF w' B A n c A2 n2 c2 s
theorem Bux.refl (H : Nat) (S : Nat → Prop) (w : World) : Bux H S w w := ⟨But.refl H S w, fun g h => h, fun _ _ _ _ _ _ _ _ h => h⟩
theorem Bux.trans {H : Nat} {S : Nat → Prop} {a b c : World} (h : Bux H S a b) (k : Bux H S b c) : Bux H S a c := ⟨h.but.trans k.but, fun g hg => k.box g (h.box g hg), fun _ _ _ _ _ _ _ _ hs => k.stf _ _ _ _ _ _ _ _ (h.stf _ _ _ _ _ _ _ _ hs)⟩
theorem Bux.of_ext {H : Nat} {S : Nat → Prop} {a b : World} (h : Ext a b) : Bux H S a b := ⟨But.of_ext h, fun g hg => hg.ext h, fun _ _ _ _ _ _ _ _ hs => hs.ext h⟩
theorem Bux.steady (H : Nat) (S : Nat → Prop) : Steady (Bux H S) := ⟨Bux.refl H S, fun _ _ _ => Bux.trans, fun w => Bux.of_ext (Ext.drew w)⟩
theorem bux_set2 {H : Nat} {S : Nat → Prop} {w : World} {g : Nat} (hg : S g ∨ H ≤ g) (hb : IsBox g w) (A : Option Addr) (n c : Nat) (A2 : Option Addr) (n2 c2 : Nat) : Bux H S w ((w.setCell ⟨g, 0, none⟩ (.slice A n c)).setCell ⟨g, 1, none⟩ (.slice A2 n2 c2)) :=
  ⟨But.setCell (But.setCell (But.refl H S w) (p := ⟨g, 0, none⟩) hg _) (p := ⟨g, 1, none⟩) hg _, fun g' h => h.set A n c A2 n2 c2, fun _ _ _ _ _ _ _ _ hs => hs.box hb _ _⟩
/-- a box for an image, at or behind H -/
def BoxP (H : Nat) : Ty := fun v w => ∃ g, v = .pointer (some ⟨g, 0, none⟩) ∧ H ≤ g ∧ IsBox g w
theorem BoxP.keeps (H : Nat) : Keeps Ext (BoxP H) := fun _ _ _ hx ⟨g, e, h1, h2⟩ => ⟨g, e, h1, h2.ext hx⟩
theorem BoxP.keeps2 (H : Nat) {H' : Nat} {S : Nat → Prop} : Keeps (Bux H' S) (BoxP H) := fun _ _ _ hx ⟨g, e, h1, h2⟩ => ⟨g, e, h1, hx.box g h2⟩
theorem StT.keeps2 (B : Nat) (s : St) {H : Nat} {S : Nat → Prop} : Keeps (Bux H S) (StT B s) := fun _ _ _ hx ⟨A, n, c, A2, n2, c2, e, h⟩ => ⟨A, n, c, A2, n2, c2, e, hx.stf _ _ _ _ _ _ _ _ h⟩
theorem StE.keeps2 (B : Nat) (s : St) (r : Nat) {H : Nat} {S : Nat → Prop} : Keeps (Bux H S) (StE B s r) := fun _ _ _ hx ⟨A, n, c, A2, n2, c2, e, h⟩ => ⟨A, n, c, A2, n2, c2, e, hx.stf _ _ _ _ _ _ _ _ h⟩
theorem BoxP.made {H : Nat} {w : World} (h : H ≤ w.heap.size) : BoxP H (.pointer (some ⟨w.heap.size, 0, none⟩)) (w.alloc (.cells #[.slice none 0 0, .slice none 0 0] TSt)) :=
  ⟨_, rfl, h, by simp, ⟨_, _, _, _, _, _, cell_new w _ _ 0, cell_new w _ _ 1⟩, fun q => by
    unfold World.frozen?
    rw [heap_alloc_new]
    simp⟩
/-- what the box holds -/
def BoxS (B : Nat) (s : St) (γ : Value) : Ty := fun v w => ∀ g, γ = .pointer (some ⟨g, 0, none⟩) → StB g B s v w
theorem BoxS.keeps (B : Nat) (s : St) (γ : Value) : Keeps Ext (BoxS B s γ) := fun _ _ _ hx h g e => StB.keeps g B s _ _ _ hx (h g e)
theorem stb_box {w : World} {g B : Nat} {A : Option Addr} {n c : Nat} {A2 : Option Addr} {n2 c2 : Nat} {s : St} (hb : IsBox g w) (h : StF w B A n c A2 n2 c2 s) (v : Value) :
    StB g B s v ((w.setCell ⟨g, 0, none⟩ (.slice A n c)).setCell ⟨g, 1, none⟩ (.slice A2 n2 c2)) := by
  have h5 := h.box hb (.slice A n c) (.slice A2 n2 c2)
  have h6 := hb.set (g' := g) A n c A2 n2 c2
  obtain ⟨h1, ⟨B', m, d, B2, m2, d2, h2, h3⟩, h4⟩ := hb
  refine ⟨A, n, c, A2, n2, c2, ?_, ?_, h6.2.2, h5, h6.1⟩
  · rw [World.cell?_setCell_other _ _ _ _ (fun e => by injection e with e1 e2; omega)]
    exact World.cell?_setCell_same _ _ _ h2
  · exact World.cell?_setCell_same _ _ _ (by rw [World.cell?_setCell_other _ _ _ _ (fun e => by injection e with e1 e2; omega)]; exact h3)
end Go.Proofs.Ytcklkjklepmabaa
