/-
  A frame for regions that write into rows of the call's own: below H nothing has turned but the rows S. Nothing here names a program.
-/
import Derived.Test.YtcchlkialgjamaaBase
import Derived.Test.YtcchlkialgjamaaReg2
namespace Go.Proofs.Ytcchlkialgjamaa
open Go.RowKit
set_option linter.unusedVariables false

structure But (H : Nat) (S : Nat → Prop) (w w' : World) : Prop where
  os : w'.os = w.os
  tape : w'.tape = w.tape
  output : w'.output = w.output
  size : w.heap.size ≤ w'.heap.size
  block : ∀ k, k < H → ¬ S k → k < w.heap.size → w'.heap[k]? = w.heap[k]?
theorem But.refl (H : Nat) (S : Nat → Prop) (w : World) : But H S w w := ⟨rfl, rfl, rfl, Nat.le_refl _, fun _ _ _ _ => rfl⟩
theorem But.trans {H : Nat} {S : Nat → Prop} {a b c : World} (h : But H S a b) (k : But H S b c) : But H S a c :=
  ⟨k.os.trans h.os, k.tape.trans h.tape, k.output.trans h.output, Nat.le_trans h.size k.size, fun i hi hs hl => (k.block i hi hs (Nat.lt_of_lt_of_le hl h.size)).trans (h.block i hi hs hl)⟩
theorem But.of_ext {H : Nat} {S : Nat → Prop} {a b : World} (h : Ext a b) : But H S a b := ⟨Below.os h, Below.tape h, Below.output h, h.size, fun k _ _ hl => Below.block h k hl⟩
theorem But.steady (H : Nat) (S : Nat → Prop) : Steady (But H S) := ⟨But.refl H S, fun _ _ _ => But.trans, fun w => But.of_ext (Ext.drew w)⟩
theorem But.grown {H : Nat} {S : Nat → Prop} {a w w' : World} {row : Option Nat} (h : But H S a w) (hg : w.grownBy w' row) (hr : ∀ k, row = some k → S k ∨ H ≤ k) : But H S a w' :=
  h.trans ⟨hg.os, hg.tape, hg.output, hg.size, fun k hk hs hl => hg.block k hl (fun e => by rcases hr k e.symm with h | h; exact hs h; omega)⟩
theorem But.setCell {H : Nat} {S : Nat → Prop} {a w : World} (h : But H S a w) {p : Addr} (hp : S p.block ∨ H ≤ p.block) (u : Value) : But H S a (w.setCell p u) :=
  h.trans ⟨rfl, rfl, rfl, by simp [World.setCell], fun k hk hs _ => Below.heap_setCell _ _ _ _ (fun e => by rcases hp with hp | hp; exact hs (e ▸ hp); omega)⟩
/-- what was there when the call began -/
theorem Ext.but {H : Nat} {S : Nat → Prop} {a b c : World} (h : Ext a b) (k : But H S b c) (hH : a.heap.size ≤ H) (hS : ∀ g, S g → a.heap.size ≤ g) : Ext a c :=
  Below.trans h ⟨k.os, k.tape, k.output, k.size, fun i hi => k.block i (by omega) (fun hs => by have := hS i hs; omega) (Nat.lt_of_lt_of_le hi h.size)⟩
theorem But.cell {H : Nat} {S : Nat → Prop} {a b : World} (h : But H S a b) {p : Addr} {u : Value} (hc : a.cell? p = some u) (hH : p.block < H) (hS : ¬ S p.block) : b.cell? p = some u := by
  have hb := World.block_lt_of_cell? a p hc
  rw [← hc]
  exact World.cell?_of_block (h.block p.block hH hS hb)
theorem Own.but {H : Nat} {S : Nat → Prop} {w w' : World} {B : Nat} {e : TypeId} {size n c : Nat} {A : Option Addr} {xs : List Value} (h : Own w B e size A n c xs) (k : But H S w w') (hr : ∀ g, rowOf A c = some g → g < H ∧ ¬ S g) : Own w' B e size A n c xs :=
  h.keepBlock fun g hg => k.block g (hr g hg).1 (hr g hg).2 (h.row_ge g hg).2
theorem Is.keeps2 {R R' : World → World → Prop} (x : Value) : true = true → Keeps R (Is x) := fun _ => Is.keeps x
theorem no_keeps {R : World → World → Prop} {T : Ty} : false = true → Keeps R T := fun h => by cases h
end Go.Proofs.Ytcchlkialgjamaa
