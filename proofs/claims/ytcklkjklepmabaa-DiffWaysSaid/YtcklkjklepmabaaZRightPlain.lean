/-
  Images with snapshots: where a name stands first; plain.
-/
import Derived.Test.YtcklkjklepmabaaZRefRight
namespace Go.Proofs.Ytcklkjklepmabaa
open Go.RowKit
set_option linter.unusedVariables false

theorem findF_at : ∀ (xs : List Ol) (s : ByteArray) (b k : Nat) (x : Ol), xs[k]? = some x → x.nm = s → (findF xs s b = ((b + k : Nat) : Int) ↔ ∀ j, j < k → ∀ y, xs[j]? = some y → y.nm ≠ s)
  | [], s, b, k, x, hx, e => by simp at hx
  | y :: ys, s, b, 0, x, hx, e => by
    simp at hx
    subst hx
    rw [findF, if_pos e]
    simp
  | y :: ys, s, b, k + 1, x, hx, e => by
    rw [List.getElem?_cons_succ] at hx
    rw [findF]
    by_cases h : y.nm = s
    · rw [if_pos h]
      constructor
      · intro hh; omega
      · intro hh; exact absurd h (hh 0 (by omega) y rfl)
    · rw [if_neg h, show b + (k + 1) = b + 1 + k by omega, findF_at ys s (b + 1) k x hx e]
      constructor
      · intro hh j hj z hz
        cases j with
        | zero => simp at hz; subst hz; exact h
        | succ j => exact hh j (by omega) z (by simpa using hz)
      · intro hh j hj z hz
        exact hh (j + 1) (by omega) z (by simpa using hz)
theorem find_first {xs : List Ol} {s : ByteArray} {k : Nat} {x : Ol} (hx : xs[k]? = some x) (e : x.nm = s) : findI xs s = (k : Int) ↔ ∀ j, j < k → ∀ y, xs[j]? = some y → y.nm ≠ s := by
  have := findF_at xs s 0 k x hx e
  rw [Nat.zero_add] at this
  exact this
end Go.Proofs.Ytcklkjklepmabaa
