/-
  Images with snapshots: contract of the program's Fold.
-/
import Derived.Test.YtcklkjklepmabaaZFoldPlain
namespace Go.Proofs.Ytcklkjklepmabaa
open Go.RowKit
set_option linter.unusedVariables false
set_option maxRecDepth 100000

theorem StF.ext {w w' : World} {B : Nat} {A : Option Addr} {n c : Nat} {A2 : Option Addr} {n2 c2 : Nat} {s : St} (h : StF w B A n c A2 n2 c2 s) (hx : Ext w w') : StF w' B A n c A2 n2 c2 s := ⟨h.data.ext hx, h.snaps.ext (from_rep ol_rep B) hx, h.row⟩
theorem StF.low {w : World} {B B' : Nat} {A : Option Addr} {n c : Nat} {A2 : Option Addr} {n2 c2 : Nat} {s : St} (h : StF w B A n c A2 n2 c2 s) (hB : B' ≤ B) : StF w B' A n c A2 n2 c2 s := ⟨h.data.low hB, h.snaps.weak fun x cs q => ⟨q.1, fun k hk => Nat.le_trans hB (q.2 k hk)⟩, fun ad e h0 => Nat.le_trans hB (h.row ad e h0)⟩
theorem StF.sets {w : World} {B : Nat} {A : Option Addr} {n c : Nat} {A2 : Option Addr} {n2 c2 : Nat} {s : St} (h : StF w B A n c A2 n2 c2 s) {p : Addr} (hp : p.block < B) (u : Value) : StF (w.setCell p u) B A n c A2 n2 c2 s := by
  refine ⟨h.data.sets hp u, ?_, h.row⟩
  obtain ⟨css, h1, h2⟩ := h.snaps.rd
  exact ⟨h.snaps.len, h.snaps.cap, h.snaps.max, css, h1.mono fun x cs _ hr => (from_rep ol_rep B).keep _ _ _ _ hr fun k hk => Below.heap_setCell _ _ _ _ (by have := hr.2 k hk; omega), h2.keepBlk fun ad e h0 => Below.heap_setCell _ _ _ _ (by have := h.row ad e h0; omega)⟩
end Go.Proofs.Ytcklkjklepmabaa
