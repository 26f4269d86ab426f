/-
  An image whose memory lies in blocks of some kind (not in a row that grows); elements that lead below a block.
-/
import Derived.Test.YtcklkjklepmabaaZStTy
import Derived.Test.YtcklkjklepmabaaZOwnSt
namespace Go.Proofs.Ytcklkjklepmabaa
open Go.RowKit
set_option linter.unusedVariables false
set_option maxRecDepth 100000

def inR {α : Type} (R : α → List Value → World → Prop) (V : Nat → Prop) (x : α) (cs : List Value) (w : World) : Prop := R x cs w ∧ ∀ k, Pts cs k → V k
theorem in_rep {α : Type} {size : Nat} {R : α → List Value → World → Prop} (hR : Rep size R) (V : Nat → Prop) : Rep size (inR R V) where
  len := fun x cs w h => hR.len x cs w h.1
  one := fun x cs w h => hR.one x cs w h.1
  keep := fun x cs w w' h hk => ⟨hR.keep x cs w w' h.1 hk, h.2⟩
  lt := fun x cs w h => hR.lt x cs w h.1
structure StV (V : Nat → Prop) (w : World) (A : Option Addr) (n c : Nat) (A2 : Option Addr) (n2 c2 : Nat) (s : St) : Prop where
  data : Sl w A n c s.d
  dv : ∀ ad, A = some ad → 0 < n → V ad.block
  snaps : Lst 2 (inR olR V) w A2 n2 c2 s.sn
  sv : ∀ ad, A2 = some ad → 0 < n2 → V ad.block
theorem StV.st {V : Nat → Prop} {w : World} {A : Option Addr} {n c : Nat} {A2 : Option Addr} {n2 c2 : Nat} {s : St} (h : StV V w A n c A2 n2 c2 s) : StR w A n c A2 n2 c2 s := ⟨h.data, h.snaps.weak fun x cs q => q.1⟩
theorem rd_blk {w : World} {size n : Nat} {A : Option Addr} {xs : List Value} (h : Rd w size A n xs) (hs : 0 < size) : ∀ ad, A = some ad → 0 < n → ad.block < w.heap.size := by
  intro ad e hn
  obtain ⟨ad', e', hc⟩ := h.2 hn
  rw [e] at e'
  cases e'
  have hl : 0 < xs.length := by rw [h.1]; exact Nat.mul_pos hn hs
  have := hc 0 _ (List.getElem?_eq_getElem hl)
  rw [show ad.add 0 = ad from rfl] at this
  exact World.block_lt_of_cell? _ _ this
theorem StV.keep {V : Nat → Prop} {w w' : World} {A : Option Addr} {n c : Nat} {A2 : Option Addr} {n2 c2 : Nat} {s : St} (h : StV V w A n c A2 n2 c2 s) (hk : ∀ k, V k → k < w.heap.size → w'.heap[k]? = w.heap[k]?) : StV V w' A n c A2 n2 c2 s := by
  obtain ⟨css, h1, h2⟩ := h.snaps.rd
  refine ⟨h.data.keepBlk fun ad e hn => hk _ (h.dv ad e hn) (h.data.blk ad e hn), h.dv, ⟨h.snaps.len, h.snaps.cap, h.snaps.max, css, h1.mono fun x cs _ hr => (in_rep ol_rep V).keep _ _ _ _ hr fun k hp => hk k (hr.2 k hp) (ol_rep.lt _ _ _ hr.1 k hp), h2.keepBlk fun ad e hn => hk _ (h.sv ad e hn) (rd_blk h2 (by omega) ad e hn)⟩, h.sv⟩
theorem StV.ext {V : Nat → Prop} {w w' : World} {A : Option Addr} {n c : Nat} {A2 : Option Addr} {n2 c2 : Nat} {s : St} (h : StV V w A n c A2 n2 c2 s) (hx : Ext w w') : StV V w' A n c A2 n2 c2 s := h.keep fun k _ hk => Below.block hx k hk
theorem StV.weak {V V' : Nat → Prop} {w : World} {A : Option Addr} {n c : Nat} {A2 : Option Addr} {n2 c2 : Nat} {s : St} (h : StV V w A n c A2 n2 c2 s) (hk : ∀ k, V k → k < w.heap.size → V' k) : StV V' w A n c A2 n2 c2 s := by
  obtain ⟨css, h1, h2⟩ := h.snaps.rd
  exact ⟨h.data, fun ad e hn => hk _ (h.dv ad e hn) (h.data.blk ad e hn), ⟨h.snaps.len, h.snaps.cap, h.snaps.max, css, h1.weak fun x cs hr => ⟨hr.1, fun k hp => hk k (hr.2 k hp) (ol_rep.lt _ _ _ hr.1 k hp)⟩, h2⟩, fun ad e hn => hk _ (h.sv ad e hn) (rd_blk h2 (by omega) ad e hn)⟩
theorem StF.v {w : World} {B : Nat} {A : Option Addr} {n c : Nat} {A2 : Option Addr} {n2 c2 : Nat} {s : St} (h : StF w B A n c A2 n2 c2 s) : StV (B ≤ ·) w A n c A2 n2 c2 s := ⟨h.data.sl, h.data.fr, h.snaps.weak fun x cs q => q, h.row⟩
theorem StR.v {w : World} {A : Option Addr} {n c : Nat} {A2 : Option Addr} {n2 c2 : Nat} {s : St} (h : StR w A n c A2 n2 c2 s) : StV (· < w.heap.size) w A n c A2 n2 c2 s := by
  obtain ⟨css, h1, h2⟩ := h.2.rd
  exact ⟨h.1, h.1.blk, ⟨h.2.len, h.2.cap, h.2.max, css, h1.weak fun x cs hr => ⟨hr, fun k hp => ol_rep.lt _ _ _ hr k hp⟩, h2⟩, rd_blk h2 (by omega)⟩
end Go.Proofs.Ytcklkjklepmabaa
