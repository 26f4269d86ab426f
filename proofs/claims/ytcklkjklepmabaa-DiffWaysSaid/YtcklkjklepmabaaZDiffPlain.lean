/-
  The way from bytes to others, event by event: plain. No program in sight.
-/
import Derived.Test.YtcklkjklepmabaaZSized
import Derived.Test.YtcklkjklepmabaaZEvs
namespace Go.Proofs.Ytcklkjklepmabaa
set_option linter.unusedVariables false

/-- how many bytes are unlike from a place on, at most so many -/
def runF : Nat → List UInt8 → List UInt8 → Nat → Nat
  | 0, _, _, _ => 0
  | f + 1, x, b, i => if i < b.length ∧ x.getD i 0 ≠ b.getD i 0 then runF f x b (i + 1) + 1 else 0
def zeroB (p : List UInt8) : Bool := p == List.replicate p.length 0
def evAt (b : List UInt8) (i n : Nat) : Ev := if zeroB ((b.drop i).take n) then ⟨3, i, n, [], ⟨#[]⟩⟩ else ⟨1, i, 0, (b.drop i).take n, ⟨#[]⟩⟩
def wayF : Nat → List UInt8 → List UInt8 → Nat → List Ev
  | 0, _, _, _ => []
  | f + 1, x, b, i => if i < b.length then (if x.getD i 0 = b.getD i 0 then wayF f x b (i + 1) else evAt b i (runF 64 x b i) :: wayF f x b (i + runF 64 x b i)) else []
theorem runF_le (x b : List UInt8) : ∀ (f i : Nat), runF f x b i ≤ f ∧ (i ≤ b.length → i + runF f x b i ≤ b.length)
  | 0, i => by simp [runF]
  | f + 1, i => by
    rw [runF]
    have h := runF_le x b f (i + 1)
    split
    · rename_i hc
      have := h.2 (by omega)
      exact ⟨by omega, fun _ => by omega⟩
    · exact ⟨by omega, fun h => by omega⟩
theorem runF_pos {x b : List UInt8} {f i : Nat} (h : i < b.length) (hx : x.getD i 0 ≠ b.getD i 0) : 1 ≤ runF (f + 1) x b i := by
  rw [runF, if_pos ⟨h, hx⟩]; omega
theorem runF_pos64 {x b : List UInt8} {i : Nat} (h : i < b.length) (hx : x.getD i 0 ≠ b.getD i 0) : 1 ≤ runF 64 x b i := runF_pos (f := 63) h hx
theorem runF_yes {x b : List UInt8} {f i : Nat} (h : i < b.length) (hx : x.getD i 0 ≠ b.getD i 0) : runF (f + 1) x b i = runF f x b (i + 1) + 1 := by
  rw [runF, if_pos ⟨h, hx⟩]
theorem runF_no {x b : List UInt8} {f i : Nat} (h : i < b.length → x.getD i 0 = b.getD i 0) : runF f x b i = 0 := by
  cases f with
  | zero => rfl
  | succ f => rw [runF, if_neg fun hc => hc.2 (h hc.1)]
theorem runF_in {x b : List UInt8} : ∀ (f i j : Nat), j < runF f x b i → i + j < b.length ∧ x.getD (i + j) 0 ≠ b.getD (i + j) 0
  | 0, i, j, h => by simp [runF] at h
  | f + 1, i, j, h => by
    rw [runF] at h
    split at h
    · rename_i hc
      cases j with
      | zero => exact hc
      | succ j =>
        have := runF_in (x := x) (b := b) f (i + 1) j (by omega)
        rw [show i + 1 + j = i + (j + 1) by omega] at this
        exact this
    · omega
theorem runF_end {x b : List UInt8} : ∀ (f i : Nat), runF f x b i < f → i + runF f x b i < b.length → x.getD (i + runF f x b i) 0 = b.getD (i + runF f x b i) 0
  | 0, i, h, _ => by omega
  | f + 1, i, h, h2 => by
    rw [runF] at h h2 ⊢
    split at h
    · rename_i hc
      rw [if_pos hc] at h2 ⊢
      have := runF_end (x := x) (b := b) f (i + 1) (by omega) (by omega)
      rw [show i + (runF f x b (i + 1) + 1) = i + 1 + runF f x b (i + 1) by omega]
      exact this
    · rename_i hc
      rw [if_neg hc] at h2 ⊢
      rw [Nat.add_zero] at h2 ⊢
      by_cases e : x.getD i 0 = b.getD i 0
      · exact e
      · exact absurd ⟨h2, e⟩ hc
theorem wayF_enough (x b : List UInt8) : ∀ (f i : Nat), b.length - i ≤ f → wayF f x b i = wayF (b.length - i) x b i
  | 0, i, h => by rw [show b.length - i = 0 by omega]
  | f + 1, i, h => by
    by_cases hi : i < b.length
    · obtain ⟨m, hm⟩ : ∃ m, b.length - i = m + 1 := ⟨b.length - i - 1, by omega⟩
      rw [hm, wayF, wayF, if_pos hi, if_pos hi]
      split
      · rw [wayF_enough x b f (i + 1) (by omega), wayF_enough x b m (i + 1) (by omega)]
      · rename_i hx
        have hp := runF_pos64 hi hx
        have hl := (runF_le x b 64 i).2 (by omega)
        rw [wayF_enough x b f (i + runF 64 x b i) (by omega), wayF_enough x b m (i + runF 64 x b i) (by omega)]
    · rw [show b.length - i = 0 by omega, wayF, wayF, if_neg hi]
termination_by f => f
decreasing_by all_goals omega
def wayL (x b : List UInt8) (i : Nat) : List Ev := wayF (b.length - i) x b i
theorem way_end {x b : List UInt8} {i : Nat} (h : b.length ≤ i) : wayL x b i = [] := by unfold wayL; rw [show b.length - i = 0 by omega]; rfl
theorem way_same {x b : List UInt8} {i : Nat} (h : i < b.length) (hx : x.getD i 0 = b.getD i 0) : wayL x b i = wayL x b (i + 1) := by
  unfold wayL
  obtain ⟨m, hm⟩ : ∃ m, b.length - i = m + 1 := ⟨b.length - i - 1, by omega⟩
  rw [hm, wayF, if_pos h, if_pos hx, wayF_enough x b m (i + 1) (by omega)]
theorem way_diff {x b : List UInt8} {i : Nat} (h : i < b.length) (hx : x.getD i 0 ≠ b.getD i 0) : wayL x b i = evAt b i (runF 64 x b i) :: wayL x b (i + runF 64 x b i) := by
  unfold wayL
  obtain ⟨m, hm⟩ : ∃ m, b.length - i = m + 1 := ⟨b.length - i - 1, by omega⟩
  have hp := runF_pos64 h hx
  rw [hm, wayF, if_pos h, if_neg hx, wayF_enough x b m (i + runF 64 x b i) (by omega)]
def bytesL (a b : List UInt8) : List Ev :=
  if 512 < a.length ∨ 512 < b.length then [] else (if a.length ≠ b.length then [⟨4, 0, b.length, [], ⟨#[]⟩⟩] else []) ++ wayL (sizedL a b.length) b 0
theorem sized_length (l : List UInt8) (k : Nat) : (sizedL l k).length = k := by unfold sizedL; simp; omega
theorem over_sized (a : List UInt8) (k : Nat) : (List.replicate k (0 : UInt8)).take 0 ++ (a.take k ++ (List.replicate k (0 : UInt8)).drop (0 + (a.take k).length)) = sizedL a k := by
  unfold sizedL
  rw [List.take_zero, List.nil_append, List.drop_replicate, Nat.zero_add, List.length_take]
  congr 2
  omega
theorem drop_getD {l : List UInt8} {i : Nat} (h : i < l.length) : l.drop i = l.getD i 0 :: l.drop (i + 1) := by
  rw [List.drop_eq_getElem_cons h, List.getD_eq_getElem?_getD, List.getElem?_eq_getElem h]; rfl
end Go.Proofs.Ytcklkjklepmabaa
