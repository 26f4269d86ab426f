/-
  A row of one event, laid in new memory.
-/
import Derived.Test.YtcklkjklepmabaaZEvs
import Derived.Test.YtcklkjklepmabaaZCore
namespace Go.Proofs.Ytcklkjklepmabaa
open Go.RowKit
set_option linter.unusedVariables false
set_option maxRecDepth 100000

theorem ev_lit {w : World} {A : Option Addr} {n c : Nat} {l : List UInt8} {k o m : Int} {s : ByteArray} (h : Sl w A n c l) (hs : s.size ≤ maxLen) : Lst 5 evR (w.alloc (.cells #[.int .i64 k, .int .i64 o, .int .i64 m, .slice A n c, .string s] TEv)) (some ⟨w.heap.size, 0, none⟩) 1 1 [⟨k, o, m, l, s⟩] := by
  refine ⟨rfl, Nat.le_refl _, by simp [maxLen], [[.int .i64 k, .int .i64 o, .int .i64 m, .slice A n c, .string s]], .cons ⟨A, n, c, rfl, h.ext (Ext.alloc _ _), hs⟩ .nil, ?_⟩
  exact (Own.made w w.heap.size TEv 5 #[.int .i64 k, .int .i64 o, .int .i64 m, .slice A n c, .string s] 1 1 (Nat.le_refl _) (Nat.le_refl _) (by simp [maxLen]) rfl).rd
/-- a row of one event -/
def EvL1 (x : Ev) : Ty := fun v w => ∃ A, v = .slice A 1 1 ∧ Lst 5 evR w A 1 1 [x]
theorem EvL1.keeps (x : Ev) : Keeps Ext (EvL1 x) := fun _ _ _ hx ⟨A, e, h⟩ => ⟨A, e, h.ext ev_rep hx⟩
end Go.Proofs.Ytcklkjklepmabaa
