/-
  make of bytes: noughts in a new block.
-/
import Derived.Test.YtcklkjklepmabaaZCore
import Derived.Laws.MakeOwn
namespace Go.Proofs.Ytcklkjklepmabaa
open Go.RowKit
set_option linter.unusedVariables false
set_option maxRecDepth 100000

theorem make_bytes (k : Nat) (x : Int) (hx : x = (k : Int)) (hk : k ≤ 1000000) :
    ∃ C : Array Value, C.toList = (List.replicate k (0 : UInt8)).map bv ∧ ∀ w, (Instr.makeSlice 22 (.int .i64 x) (.int .i64 x)).run Try.prog w = .ok (.slice (some ⟨w.heap.size, 0, none⟩) k k) (w.alloc (.cells C U8)) := by
  subst hx
  obtain ⟨i0, hi0, hz0, hz1, hz2⟩ := info_parts info_u8
  refine ⟨madeCells (Value.int .u8 0).cells k, ?_, fun w => ?_⟩
  · unfold madeCells
    rw [List.map_replicate]
    refine List.eq_replicate_iff.2 ⟨by simp, fun b hb => ?_⟩
    simp only [Array.toList_map, List.mem_map] at hb
    obtain ⟨j, _, rfl⟩ := hb
    simp [Value.cells, Nat.mod_one]
  · have := run_makeSlice (P := Try.prog) w 22 U8 i0 _ under_bytes hi0 hz0 .i64 .i64 k k (by omega) (by omega) (by rw [hz1]; simp; omega) (by rw [hz2]; omega) (by omega)
    simpa [hz1] using this
end Go.Proofs.Ytcklkjklepmabaa
