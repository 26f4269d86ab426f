/-
  Append onto a row of the call's own, told too in which row the result lies; a byte of a slice, by block and place.
-/
import Derived.Test.YtcklkjklepmabaaAppL
import Derived.Test.YtcklkjklepmabaaCut
namespace Go.Proofs.Ytcklkjklepmabaa
open Go.RowKit
set_option linter.unusedVariables false
set_option maxRecDepth 100000

theorem Sl.at2 {w : World} {A : Option Addr} {n c k : Nat} {l : List UInt8} (h : Sl w A n c l) (hk : k < n) : ∃ g o, A = some ⟨g, o, none⟩ ∧ w.cell? ⟨g, o + k, none⟩ = some (.int .u8 ((l.getD k 0).toNat : Int)) := by
  obtain ⟨ad, e, hc⟩ := h.atD hk
  obtain ⟨ad', e', hc'⟩ := h.atD (k := 0) (by omega)
  rw [e] at e'
  injection e' with e'
  subst e'
  have hs := spot_of_cell hc'
  obtain ⟨g, o, sp⟩ := ad
  have hsp : sp = none := by simpa [Addr.add] using hs
  subst hsp
  refine ⟨g, o, e, ?_⟩
  unfold Addr.add at hc
  split at hc
  · rename_i h0
    subst h0
    simpa using hc
  · exact hc
theorem wpList_append_lst3 {P : Program} {α : Type} {size : Nat} {R : α → List Value → World → Prop} (hR : Rep size R)
    {ops : Array Oper} {rest : List Oper} {o : Oper} {a : Act} {Q : Exit → Act → World → Prop} {w w0 : World} (hgd : o.guard = none) (s y : Operand) (t tx : TypeId)
    (ho : o.op = .call { callee := .builtin .append, args := #[s, y], argTypes := #[t, tx] })
    (e : TypeId) (i : TypeInfo) (z : Value) (bytes : Nat) (ht : P.underlying t = some (.slice e)) (hi : P.info? e = some i) (hz : i.zero = some z)
    (hsize : i.size = size) (hby : i.bytes = bytes) (hzs : z.cells.size = size)
    (A : Option Addr) (n c : Nat) (xs : List α) (hsv : a.eval s = .slice A n c) (hown : OwnL e size R w w0.heap.size A n c xs) (Y : Value) (m : Nat) (ys : List α) (hy : a.eval y = Y) (hl : Feed P size R w tx A c Y m ys)
    (N : Nat) (hN : n + m = N) (zs : List α) (hzs' : xs ++ ys = zs) (h63 : N ≤ maxLen) (hbytes : N * bytes ≤ 140737488355328) (hx : Ext w0 w)
    (h : ∀ A' c' w', OwnL e size R w' w0.heap.size A' N c' zs → Ext w0 w' → w.grownBy w' (rowOf A c) → (rowOf A' c' = rowOf A c ∨ rowOf A' c' = some w.heap.size) → wpList P ops Q rest (a.put o.dst (.slice A' N c')) w') : wpList P ops Q (o :: rest) a w := by
  subst hN hzs'
  obtain ⟨css, ha, ho1, hp⟩ := hown.own
  obtain ⟨hlen, dss, hb, hsrc, hk⟩ := hl
  refine wpList_append_mine _ hgd s y t tx ho w0.heap.size e i z size bytes ht hi hz hsize hby hzs A n c _ hsv ho1 _ hy m _ hsrc h63 hbytes hx.size ?_
  intro A3 c3 w3 hown3 hg3 hr3
  exact h A3 c3 w3 (OwnL.more hR hown.len hlen ha hp hb hk hown3 hg3 hr3) (below_grown hx ho1 hg3 hx.size) hg3 hr3
/-- a row that isn't the one that grew -/
theorem Byt.grown {E : TypeId} {w w' : World} {B n c g : Nat} {l : List UInt8} (h : Byt E w B (some ⟨g, 0, none⟩) n c l) {row : Option Nat} (hk : w.grownBy w' row) (hne : row ≠ some g) : Byt E w' B (some ⟨g, 0, none⟩) n c l :=
  ⟨h.len, h.own.grown hk fun g' hg' e => by
    unfold rowOf at hg'
    split at hg'
    · cases hg'
    · simp at hg'; subst hg'; exact hne e.symm⟩
theorem Byt.row_lt {E : TypeId} {w : World} {B n c g : Nat} {l : List UInt8} (h : Byt E w B (some ⟨g, 0, none⟩) n c l) (hc : c ≠ 0) : B ≤ g ∧ g < w.heap.size := by
  refine h.own.row_ge g ?_
  unfold rowOf
  rw [if_neg hc]
  rfl
end Go.Proofs.Ytcklkjklepmabaa
