/-
  Events, as data: which are the same. No program in sight.
-/
import Derived.Test.YtcklkjklepmabaaEvLaws
namespace Go.Proofs.Ytcklkjklepmabaa
set_option linter.unusedVariables false
theorem sameE_iff {k o m : Int} {l : List UInt8} {s : ByteArray} {k' o' m' : Int} {l' : List UInt8} {s' : ByteArray} : sameE k o m l s k' o' m' l' s' = true ↔ k = k' ∧ o = o' ∧ m = m' ∧ l = l' ∧ s = s' := by
  unfold sameE
  simp only [Bool.and_eq_true, decide_eq_true_eq, beq_iff_eq, ByteArray.toList_eq]
  constructor
  · intro h
    have hs : s = s' := by
      cases s; cases s'
      simp_all
    simp_all
  · rintro ⟨rfl, rfl, rfl, rfl, rfl⟩
    simp
theorem sameE_self (k o m : Int) (l : List UInt8) (s : ByteArray) : sameE k o m l s k o m l s = true := sameE_iff.2 ⟨rfl, rfl, rfl, rfl, rfl⟩
/-- an event's bytes and one more are another event's -/
theorem more_other {b : List UInt8} {x : UInt8} (h : evOk b = true) (h2 : evOk (b ++ [x]) = true) : sameE (parK (b ++ [x])) (parO (b ++ [x])) (parM (b ++ [x])) (parL (b ++ [x])) (parS (b ++ [x])) (parK b) (parO b) (parM b) (parL b) (parS b) = false := by
  cases hs : sameE (parK (b ++ [x])) (parO (b ++ [x])) (parM (b ++ [x])) (parL (b ++ [x])) (parS (b ++ [x])) (parK b) (parO b) (parM b) (parL b) (parS b) with
  | false => rfl
  | true =>
    obtain ⟨e1, e2, e3, e4, e5⟩ := sameE_iff.1 hs
    have h3 := (evOk_iff.1 h).2.2
    have h4 := (evOk_iff.1 h2).2.2
    rw [e1, e2, e3, e4, e5, h3] at h4
    have := congrArg List.length h4
    simp at this
end Go.Proofs.Ytcklkjklepmabaa
