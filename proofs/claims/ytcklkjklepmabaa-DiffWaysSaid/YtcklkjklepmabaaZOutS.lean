/-
  The image that the reference's Apply builds: a box, a row of bytes and a row of snapshots of the call's own; rows of different kinds are different blocks.
-/
import Derived.Test.YtcklkjklepmabaaZBoxTy
import Derived.Test.YtcklkjklepmabaaZStV
import Derived.Test.YtcklkjklepmabaaZApply
namespace Go.Proofs.Ytcklkjklepmabaa
open Go.RowKit
set_option linter.unusedVariables false
set_option maxRecDepth 100000

theorem cells_set {w : World} {p : Addr} {u : Value} {g : Nat} {C : Array Value} {e : TypeId} {f : Nat × Nat} (h : w.heap[g]? = some (.cells C e f)) : ∃ C', (w.setCell p u).heap[g]? = some (.cells C' e f) := by
  by_cases hb : g = p.block
  · subst hb
    exact ⟨if p.spot.isSome = true then C else C.setIfInBounds p.off u, by simp [World.setCell, Array.getElem?_modify, h]⟩
  · exact ⟨C, by rw [Below.heap_setCell _ _ _ _ hb]; exact h⟩
theorem own_ty {w : World} {B : Nat} {e : TypeId} {size n c : Nat} {A : Option Addr} {xs : List Value} (h : Own w B e size A n c xs) {g : Nat} (hg : rowOf A c = some g) : ∃ cur, w.heap[g]? = some (.cells cur e (0, 0)) := by
  unfold rowOf at hg
  split at hg
  · cases hg
  · rename_i h0
    rcases h with ⟨h1, _⟩ | ⟨g', cur, rfl, _, h2, _⟩
    · exact absurd h1 h0
    · simp at hg
      subst hg
      exact ⟨cur, h2⟩
theorem ty_apart {w : World} {g : Nat} {C C' : Array Value} {e e' : TypeId} {f f' : Nat × Nat} (h : w.heap[g]? = some (.cells C e f)) (h' : w.heap[g]? = some (.cells C' e' f')) (hne : e ≠ e') : False := by
  rw [h] at h'
  injection h' with h'
  injection h' with _ h'
  exact hne h'
theorem u8_old : U8 ≠ TOl := by decide
theorem u8_st : U8 ≠ TSt := by decide
theorem old_st : TOl ≠ TSt := by decide
theorem lst_own {e : TypeId} {size : Nat} {R : Ol → List Value → World → Prop} {w : World} {B : Nat} {A : Option Addr} {n c : Nat} {xs : List Ol} (h : OwnL e size R w B A n c xs) {g : Nat} (hg : rowOf A c = some g) : ∃ cur, w.heap[g]? = some (.cells cur e (0, 0)) := by
  obtain ⟨css, _, h2, _⟩ := h.own
  exact own_ty h2 hg
/-- as Bux; and a box's block stays of its kind -/
structure Buy (H : Nat) (S : Nat → Prop) (w w' : World) : Prop where
  bux : Bux H S w w'
  ty : ∀ (g : Nat) (C : Array Value), w.heap[g]? = some (Obj.cells C TSt (0, 0)) → ∃ C' : Array Value, w'.heap[g]? = some (Obj.cells C' TSt (0, 0))
theorem Buy.refl (H : Nat) (S : Nat → Prop) (w : World) : Buy H S w w := ⟨Bux.refl H S w, fun g C h => ⟨C, h⟩⟩
theorem Buy.trans {H : Nat} {S : Nat → Prop} {a b c : World} (h : Buy H S a b) (k : Buy H S b c) : Buy H S a c := ⟨h.bux.trans k.bux, fun g C hc => by obtain ⟨C', h1⟩ := h.ty g C hc; exact k.ty g C' h1⟩
theorem Buy.of_ext {H : Nat} {S : Nat → Prop} {a b : World} (h : Ext a b) : Buy H S a b := ⟨Bux.of_ext h, fun g C hc => ⟨C, by rw [Below.block h g (Array.getElem?_eq_some_iff.1 hc).1]; exact hc⟩⟩
theorem Buy.steady (H : Nat) (S : Nat → Prop) : Steady (Buy H S) := ⟨Buy.refl H S, fun _ _ _ => Buy.trans, fun w => Buy.of_ext (Ext.drew w)⟩
theorem buy_set2 {H : Nat} {S : Nat → Prop} {w : World} {g : Nat} (hg : S g ∨ H ≤ g) (hb : IsBox g w) (A : Option Addr) (n c : Nat) (A2 : Option Addr) (n2 c2 : Nat) : Buy H S w ((w.setCell ⟨g, 0, none⟩ (.slice A n c)).setCell ⟨g, 1, none⟩ (.slice A2 n2 c2)) :=
  ⟨bux_set2 hg hb A n c A2 n2 c2, fun g' C hc => by
    obtain ⟨C1, h1⟩ := cells_set (p := ⟨g, 0, none⟩) (u := .slice A n c) hc
    exact cells_set h1⟩
def BoxQ (H : Nat) : Ty := fun v w => ∃ g, v = .pointer (some ⟨g, 0, none⟩) ∧ H ≤ g ∧ IsBox g w ∧ ∃ C, w.heap[g]? = some (.cells C TSt (0, 0))
theorem BoxQ.keeps (H : Nat) : Keeps Ext (BoxQ H) := fun _ _ _ hx ⟨g, e, h1, h2, C, h3⟩ => ⟨g, e, h1, h2.ext hx, C, by rw [Below.block hx g (Array.getElem?_eq_some_iff.1 h3).1]; exact h3⟩
theorem BoxQ.keeps2 (H : Nat) {H' : Nat} {S : Nat → Prop} : Keeps (Buy H' S) (BoxQ H) := fun _ _ _ hx ⟨g, e, h1, h2, C, h3⟩ => ⟨g, e, h1, hx.bux.box g h2, hx.ty g C h3⟩
theorem BoxQ.made {H : Nat} {w : World} (h : H ≤ w.heap.size) : BoxQ H (.pointer (some ⟨w.heap.size, 0, none⟩)) (w.alloc (.cells #[.slice none 0 0, .slice none 0 0] TSt)) := by
  obtain ⟨g, e, h1, h2⟩ := BoxP.made h
  injection e with e
  injection e with e
  injection e with e
  subst e
  exact ⟨_, rfl, h1, h2, _, heap_alloc_new _ _⟩
/-- the image in the making -/
structure OutS (w : World) (go B : Nat) (V : Nat → Prop) (A : Option Addr) (n c : Nat) (A3 : Option Addr) (n3 c3 : Nat) (d : List UInt8) (sn : List Ol) : Prop where
  y0 : w.cell? ⟨go, 0, none⟩ = some (.slice A n c)
  y1 : w.cell? ⟨go, 1, none⟩ = some (.slice A3 n3 c3)
  yf : ∀ q, w.frozen? ⟨go, q, none⟩ = false
  ty : ∃ C, w.heap[go]? = some (.cells C TSt (0, 0))
  dat : Byt U8 w B A n c d
  olds : OwnL TOl 2 (inR olR V) w B A3 n3 c3 sn
  ge : B ≤ go
  lt : go < w.heap.size
theorem OutS.isbox {w : World} {go B : Nat} {V : Nat → Prop} {A : Option Addr} {n c : Nat} {A3 : Option Addr} {n3 c3 : Nat} {d : List UInt8} {sn : List Ol} (h : OutS w go B V A n c A3 n3 c3 d sn) : IsBox go w := ⟨h.lt, ⟨A, n, c, A3, n3, c3, h.y0, h.y1⟩, h.yf⟩
theorem OutS.ext {w w' : World} {go B : Nat} {V : Nat → Prop} {A : Option Addr} {n c : Nat} {A3 : Option Addr} {n3 c3 : Nat} {d : List UInt8} {sn : List Ol} (h : OutS w go B V A n c A3 n3 c3 d sn) (hx : Ext w w') : OutS w' go B V A n c A3 n3 c3 d sn := by
  obtain ⟨C, hC⟩ := h.ty
  exact ⟨hx.cell h.y0, hx.cell h.y1, fun q => frozen_ext hx h.lt (h.yf q), ⟨C, by rw [Below.block hx go h.lt]; exact hC⟩, h.dat.ext hx, h.olds.ext (in_rep ol_rep V) hx, h.ge, Nat.lt_of_lt_of_le h.lt hx.size⟩
theorem OutS.row_d {w : World} {go B : Nat} {V : Nat → Prop} {A : Option Addr} {n c : Nat} {A3 : Option Addr} {n3 c3 : Nat} {d : List UInt8} {sn : List Ol} (h : OutS w go B V A n c A3 n3 c3 d sn) : rowOf A c ≠ some go := fun e => by
  obtain ⟨C, hC⟩ := h.ty
  obtain ⟨C', hC'⟩ := own_ty h.dat.own e
  exact ty_apart hC' hC u8_st
theorem OutS.row_o {w : World} {go B : Nat} {V : Nat → Prop} {A : Option Addr} {n c : Nat} {A3 : Option Addr} {n3 c3 : Nat} {d : List UInt8} {sn : List Ol} (h : OutS w go B V A n c A3 n3 c3 d sn) : rowOf A3 c3 ≠ some go := fun e => by
  obtain ⟨C, hC⟩ := h.ty
  obtain ⟨C', hC'⟩ := lst_own h.olds e
  exact ty_apart hC' hC old_st
theorem OutS.rows {w : World} {go B : Nat} {V : Nat → Prop} {A : Option Addr} {n c : Nat} {A3 : Option Addr} {n3 c3 : Nat} {d : List UInt8} {sn : List Ol} (h : OutS w go B V A n c A3 n3 c3 d sn) : ∀ g, rowOf A c = some g → rowOf A3 c3 ≠ some g := fun g e e' => by
  obtain ⟨C, hC⟩ := own_ty h.dat.own e
  obtain ⟨C', hC'⟩ := lst_own h.olds e'
  exact ty_apart hC hC' u8_old
theorem OutS.st {w : World} {go B : Nat} {V : Nat → Prop} {A : Option Addr} {n c : Nat} {A3 : Option Addr} {n3 c3 : Nat} {d : List UInt8} {sn : List Ol} (h : OutS w go B V A n c A3 n3 c3 d sn) : StR w A n c A3 n3 c3 ⟨d, sn⟩ := ⟨h.dat.sl, h.olds.lst.weak fun x cs q => q.1⟩
theorem StR.f0 {w : World} {A : Option Addr} {n c : Nat} {A2 : Option Addr} {n2 c2 : Nat} {s : St} (h : StR w A n c A2 n2 c2 s) : StF w 0 A n c A2 n2 c2 s := ⟨⟨h.1, fun _ _ _ => Nat.zero_le _⟩, h.2.weak fun x cs q => ⟨q, fun _ _ => Nat.zero_le _⟩, fun _ _ _ => Nat.zero_le _⟩
def ByoT (B n : Nat) (d : List UInt8) : Ty := fun v w => ∃ A c, v = .slice A n c ∧ Byt U8 w B A n c d
theorem ByoT.keeps (B n : Nat) (d : List UInt8) : Keeps Ext (ByoT B n d) := fun _ _ _ hx ⟨A, c, e, h⟩ => ⟨A, c, e, h.ext hx⟩
def OwnT (B n : Nat) (V : Nat → Prop) (sn : List Ol) : Ty := fun v w => ∃ A c, v = .slice A n c ∧ OwnL TOl 2 (inR olR V) w B A n c sn
theorem OwnT.keeps (B n : Nat) (V : Nat → Prop) (sn : List Ol) : Keeps Ext (OwnT B n V sn) := fun _ _ _ hx ⟨A, c, e, h⟩ => ⟨A, c, e, h.ext (in_rep ol_rep V) hx⟩
def AgT (B n n3 : Nat) (V : Nat → Prop) (d : List UInt8) (sn : List Ol) : Ty := fun v w => ∃ A c A3 c3, v = .agg #[.slice A n c, .slice A3 n3 c3] ∧ Byt U8 w B A n c d ∧ OwnL TOl 2 (inR olR V) w B A3 n3 c3 sn
theorem AgT.keeps (B n n3 : Nat) (V : Nat → Prop) (d : List UInt8) (sn : List Ol) : Keeps Ext (AgT B n n3 V d sn) := fun _ _ _ hx ⟨A, c, A3, c3, e, h, h2⟩ => ⟨A, c, A3, c3, e, h.ext hx, h2.ext (in_rep ol_rep V) hx⟩
def OutT (B n n3 : Nat) (V : Nat → Prop) (d : List UInt8) (sn : List Ol) (γ : Value) : Ty := fun _ w => ∀ g, γ = .pointer (some ⟨g, 0, none⟩) → ∃ A c A3 c3, OutS w g B V A n c A3 n3 c3 d sn
theorem OutT.keeps (B n n3 : Nat) (V : Nat → Prop) (d : List UInt8) (sn : List Ol) (γ : Value) : Keeps Ext (OutT B n n3 V d sn γ) := fun _ _ _ hx h g e => by
  obtain ⟨A, c, A3, c3, h1⟩ := h g e
  exact ⟨A, c, A3, c3, h1.ext hx⟩
/-- the box filled -/
theorem out_set {w : World} {go B : Nat} {V : Nat → Prop} {A : Option Addr} {n c : Nat} {A3 : Option Addr} {n3 c3 : Nat} {d : List UInt8} {sn : List Ol} (hb : IsBox go w) (hty : ∃ C, w.heap[go]? = some (.cells C TSt (0, 0))) (hd : Byt U8 w B A n c d) (ho : OwnL TOl 2 (inR olR V) w B A3 n3 c3 sn) (hge : B ≤ go) (hV : ∀ k, V k → k ≠ go) :
    OutS ((w.setCell ⟨go, 0, none⟩ (.slice A n c)).setCell ⟨go, 1, none⟩ (.slice A3 n3 c3)) go B V A n c A3 n3 c3 d sn := by
  have h6 := hb.set (g' := go) A n c A3 n3 c3
  obtain ⟨C, hC⟩ := hty
  have hrd : ∀ g, rowOf A c = some g → g ≠ go := fun g e e2 => by
    subst e2
    obtain ⟨C', hC'⟩ := own_ty hd.own e
    exact ty_apart hC' hC u8_st
  have hro : rowOf A3 c3 ≠ some go := fun e => by
    obtain ⟨C', hC'⟩ := lst_own ho e
    exact ty_apart hC' hC old_st
  obtain ⟨C1, h1⟩ := cells_set (p := ⟨go, 0, none⟩) (u := .slice A n c) hC
  obtain ⟨hl, ⟨B', m, d', B2, m2, d2, h2, h3⟩, h4⟩ := hb
  refine ⟨?_, ?_, h6.2.2, cells_set h1, (hd.far (p := ⟨go, 0, none⟩) hrd _).far (p := ⟨go, 1, none⟩) hrd _, (ho.setCell (in_rep ol_rep V) (p := ⟨go, 0, none⟩) _ hro fun x cs hr k hk => hV k (hr.2 k hk)).setCell (in_rep ol_rep V) (p := ⟨go, 1, none⟩) _ hro fun x cs hr k hk => hV k (hr.2 k hk), hge, h6.1⟩
  · rw [World.cell?_setCell_other _ _ _ _ (fun e => by injection e with e1 e2; omega)]
    exact World.cell?_setCell_same _ _ _ h2
  · exact World.cell?_setCell_same _ _ _ (by rw [World.cell?_setCell_other _ _ _ _ (fun e => by injection e with e1 e2; omega)]; exact h3)
end Go.Proofs.Ytcklkjklepmabaa
