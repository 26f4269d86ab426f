/-
  Tags: a row of one, written down; append onto a row of tags.
-/
import Derived.Test.YtoeknbogaclfdaaZTagRef
import Derived.Test.YtoeknbogaclfdaaZFlat
namespace Go.Proofs.Ytoeknbogaclfdaa
open Go.RowKit
set_option linter.unusedVariables false
set_option linter.unusedSimpArgs false
set_option linter.unnecessarySimpa false
set_option maxRecDepth 100000

theorem tag_nop {x : Tg} {cs : List Value} {w : World} (h : tgR x cs w) : ∀ k, ¬ Pts cs k := by
  rintro k ⟨ad, m, c', hm, _⟩
  rw [h] at hm
  simp at hm
/-- a chain of one, written down -/
theorem tag_lit (w : World) (x : Tg) : OwnL TTg 4 tgR (w.alloc (.cells #[.int .i64 x.id, .int .i64 x.ow, .int .i64 x.he, .int .i64 x.pt] TTg)) w.heap.size (some ⟨w.heap.size, 0, none⟩) 1 1 [x] :=
  ⟨rfl, [[.int .i64 x.id, .int .i64 x.ow, .int .i64 x.he, .int .i64 x.pt]], .cons rfl .nil, Own.made w w.heap.size TTg 4 #[.int .i64 x.id, .int .i64 x.ow, .int .i64 x.he, .int .i64 x.pt] 1 1 (Nat.le_refl _) (Nat.le_refl _) (by simp [maxLen]) rfl, fun cs hcs k hk => by simp at hcs; subst hcs; exact absurd hk (tag_nop (x := x) (w := w) rfl k)⟩
end Go.Proofs.Ytoeknbogaclfdaa
