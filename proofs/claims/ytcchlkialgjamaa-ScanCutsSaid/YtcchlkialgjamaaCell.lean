/-
  A cell of a row that was just made. Nothing here names a program.
-/
import Derived.Test.YtcchlkialgjamaaBase
namespace Go.Proofs.Ytcchlkialgjamaa
open Go.RowKit
theorem cell_new (w : World) (cs : Array Value) (e : TypeId) (j : Nat) {u : Value} (hu : cs[j]? = some u := by rfl) : (w.alloc (.cells cs e)).cell? ⟨w.heap.size, j, none⟩ = some u :=
  (cell_of_row _ _ j cs e (0, 0) (heap_alloc_new w _)).trans hu
end Go.Proofs.Ytcchlkialgjamaa
