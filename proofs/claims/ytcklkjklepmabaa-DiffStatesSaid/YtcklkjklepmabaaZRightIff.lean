/-
  Images with snapshots that may be: as a sentence; plain.
-/
import Derived.Test.YtcklkjklepmabaaZRightPlain
namespace Go.Proofs.Ytcklkjklepmabaa
open Go.RowKit
set_option linter.unusedVariables false

/-- the names of the snapshots are unlike -/
def apartS (sn : List Ol) : Prop := sn.Pairwise fun a b => a.nm ≠ b.nm
theorem right_iff {st : St} : rightS st = true ↔ (∀ x ∈ st.sn, nameB x.nm = true ∧ x.d.length ≤ 512) ∧ apartS st.sn ∧ st.d.length ≤ 512 ∧ st.sn.length ≤ 8 := by
  unfold rightS apartS
  rw [Bool.and_eq_true, Bool.and_eq_true, decide_eq_true_eq, decide_eq_true_eq, decide_eq_true_eq]
  constructor
  · rintro ⟨h, h1, h2⟩
    refine ⟨fun x hx => ?_, ?_, h1, h2⟩
    · obtain ⟨k, hk, rfl⟩ := List.mem_iff_getElem.1 hx
      have := h k hk
      simp only [okO, Bool.and_eq_true, decide_eq_true_eq] at this
      exact this.1
    · rw [List.pairwise_iff_getElem]
      intro i j hi hj hij
      have := h j hj
      simp only [okO, Bool.and_eq_true, decide_eq_true_eq] at this
      exact (find_first (List.getElem?_eq_getElem hj) rfl).1 this.2 i hij _ (List.getElem?_eq_getElem hi)
  · rintro ⟨h, hp, h1, h2⟩
    refine ⟨fun k hk => ?_, h1, h2⟩
    simp only [okO, Bool.and_eq_true, decide_eq_true_eq]
    refine ⟨h _ (List.getElem_mem hk), (find_first (List.getElem?_eq_getElem hk) rfl).2 fun j hj y hy => ?_⟩
    obtain ⟨hj', rfl⟩ := List.getElem?_eq_some_iff.1 hy
    exact List.pairwise_iff_getElem.1 hp j k hj' hk hj
abbrev lookO (sn : List Ol) (s : ByteArray) : Option Ol := sn.find? fun y => decide (y.nm = s)
theorem find_look : ∀ (xs : List Ol) (s : ByteArray) (b : Nat), (findF xs s b < 0 ∧ lookO xs s = none) ∨ ∃ p x, findF xs s b = ((b + p : Nat) : Int) ∧ xs[p]? = some x ∧ x.nm = s ∧ lookO xs s = some x
  | [], s, b => .inl ⟨by simp [findF], rfl⟩
  | x :: xs, s, b => by
    rw [findF]
    by_cases h : x.nm = s
    · rw [if_pos h]
      exact .inr ⟨0, x, rfl, rfl, h, by simp [lookO, h]⟩
    · rw [if_neg h]
      have e : lookO (x :: xs) s = lookO xs s := by simp [lookO, h]
      rw [e]
      rcases find_look xs s (b + 1) with h1 | ⟨p, y, h1, h2, h3, h4⟩
      · exact .inl h1
      · exact .inr ⟨p + 1, y, by rw [h1]; congr 1; omega, by simpa using h2, h3, h4⟩
theorem find_none {sn : List Ol} {s : ByteArray} (h : findI sn s < 0) : ∀ x ∈ sn, x.nm ≠ s := by
  rcases find_look sn s 0 with ⟨_, h2⟩ | ⟨p, x, h1, _⟩
  · intro x hx
    have := List.find?_eq_none.1 h2 x hx
    simpa using this
  · unfold findI at h
    omega
end Go.Proofs.Ytcklkjklepmabaa
