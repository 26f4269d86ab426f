/-
  Chapter 11: what is merged, where rows end. No program in sight.
-/
import Derived.Test.YtcchlkialgjamaaFrameAll
namespace Go.Proofs.Ytcchlkialgjamaa
set_option linter.unusedVariables false
set_option linter.unusedSimpArgs false

/-- all entries of all rows -/
def frsOf (rows : List (List UInt8)) : List En := (rows.map fun r => enL (allL r).1).flatten
/-- the first entry of a number -/
def fstEn (l : List En) (s : Int) : Option En := l.find? fun x => x.s == s
/-- one number behind the other, as long as there is an entry -/
def goM (l : List En) : Nat → Int → List En
  | 0, _ => []
  | k + 1, s => match fstEn l s with | none => [] | some x => x :: goM l k (s + 1)
def mergeL (rows : List (List UInt8)) (s : Int) : List En := if s < 1 then [] else goM (frsOf rows) ((frsOf rows).length + 1) s
/-- how long entries are in frames -/
def lenF (l : List En) : Nat := (l.map fun f => f.d.length + 22).sum
/-- how long a row is up to a number -/
def endL (b : List UInt8) (last : Int) : Nat := lenF ((enL (allL b).1).takeWhile fun f => decide (f.s ≤ last))
def endsL (rows : List (List UInt8)) (last : Int) : List Int := rows.map fun r => (endL r last : Int)
def tornL (rows : List (List UInt8)) (last : Int) : Bool := rows.any fun r => decide (endL r last < r.length)
def leastF (n : Int) (x : En) : Int := if n = 0 ∨ x.s < n then x.s else n
def firstL (rows : List (List UInt8)) : Int := (frsOf rows).foldl leastF 0

theorem fstEn_app (l m : List En) (s : Int) : fstEn (l ++ m) s = (fstEn l s).or (fstEn m s) := by
  unfold fstEn
  rw [List.find?_append]
theorem fstEn_s {l : List En} {s : Int} {x : En} (h : fstEn l s = some x) : x.s = s := by
  have := List.find?_some h
  simpa using this
theorem fstEn_mem {l : List En} {s : Int} {x : En} (h : fstEn l s = some x) : x ∈ l := List.mem_of_find?_eq_some h
/-- numbers one behind the other that all are there are at most as many as the entries -/
theorem many_le : ∀ (k : Nat) (l : List En) (s : Int), (∀ i : Nat, i < k → (fstEn l (s + i)).isSome) → k ≤ l.length
  | 0, l, s, _ => Nat.zero_le _
  | k + 1, l, s, h => by
    have h0 := h 0 (by omega)
    obtain ⟨x, hx⟩ := Option.isSome_iff_exists.1 h0
    have hm := fstEn_mem hx
    have hs := fstEn_s hx
    obtain ⟨a, b, rfl⟩ := List.append_of_mem hm
    have := many_le k (a ++ b) (s + 1) (fun i hi => by
      have h1 := h (i + 1) (by omega)
      have e : s + ((i + 1 : Nat) : Int) = s + 1 + (i : Int) := by omega
      rw [e, fstEn_app] at h1
      have hne : (x.s == s + 1 + (i : Int)) = false := by
        have : x.s ≠ s + 1 + (i : Int) := by omega
        simpa using this
      have h2 : fstEn (x :: b) (s + 1 + i) = fstEn b (s + 1 + i) := by
        unfold fstEn
        rw [List.find?_cons, hne]
      rw [h2, ← fstEn_app] at h1
      exact h1)
    simp only [List.length_append, List.length_cons] at this ⊢
    omega
/-- what was merged up to a place -/
def Gone (l : List En) (s : Int) (k : Nat) (es : List En) : Prop := es.length = k ∧ k ≤ l.length ∧ (∀ i : Nat, i < k → (fstEn l (s + i)).isSome) ∧ es ++ goM l (l.length + 1 - k) (s + k) = goM l (l.length + 1) s
theorem gone_zero (l : List En) (s : Int) : Gone l s 0 [] := ⟨rfl, Nat.zero_le _, by intro i hi; omega, by simp⟩
theorem gone_next {l : List En} {s : Int} {k : Nat} {es : List En} (h : Gone l s k es) {x : En} (hx : fstEn l (s + k) = some x) : Gone l s (k + 1) (es ++ [x]) := by
  obtain ⟨h1, h2, h3, h4⟩ := h
  have h5 : ∀ i : Nat, i < k + 1 → (fstEn l (s + i)).isSome := by
    intro i hi
    by_cases e : i = k
    · subst e; rw [hx]; rfl
    · exact h3 i (by omega)
  have h6 := many_le (k + 1) l s h5
  refine ⟨by simp [h1], h6, h5, ?_⟩
  rw [← h4, List.append_assoc]
  congr 1
  rw [show l.length + 1 - k = (l.length + 1 - (k + 1)) + 1 by omega, goM, hx]
  simp only [List.singleton_append]
  rw [show s + (k : Int) + 1 = s + ((k + 1 : Nat) : Int) by omega]
theorem gone_end {l : List En} {s : Int} {k : Nat} {es : List En} (h : Gone l s k es) (hx : fstEn l (s + k) = none) : es = goM l (l.length + 1) s := by
  obtain ⟨h1, h2, h3, h4⟩ := h
  rw [← h4, show l.length + 1 - k = (l.length - k) + 1 by omega, goM, hx]
  simp

/-- what was taken up to a place, all of it up to a number -/
def Ended (b : List UInt8) (last : Int) (k : Nat) : Prop := ∃ es, Upto b k es ∧ (∀ x ∈ es, x.s ≤ last) ∧ lenF es = k
theorem ended_zero (b : List UInt8) (last : Int) : Ended b last 0 := ⟨[], upto_zero b, by simp, rfl⟩
theorem ended_next {b : List UInt8} {last : Int} {k : Nat} (h : Ended b last k) (h0 : tkE (b.drop k) = 0) (hs : (tkS (b.drop k) : Int) ≤ last) : Ended b last (k + (tkN (b.drop k) + 22)) := by
  obtain ⟨es, h1, h2, h3⟩ := h
  refine ⟨_, upto_next h1 h0, ?_, ?_⟩
  · intro x hx
    rcases List.mem_append.1 hx with hx | hx
    · exact h2 x hx
    · simp at hx; subst hx; exact hs
  · have hd := (lay_take h0).2.2.1
    unfold lenF at h3 ⊢
    simp [h3, hd]
theorem ended_end {b : List UInt8} {last : Int} {k : Nat} (h : Ended b last k) (h0 : tkE (b.drop k) ≠ 0 ∨ ¬ (tkS (b.drop k) : Int) ≤ last) : k = endL b last := by
  obtain ⟨es, h1, h2, h3⟩ := h
  unfold endL
  by_cases he : tkE (b.drop k) = 0
  · have hs := h0.resolve_left (fun h => h he)
    obtain ⟨_, q, _⟩ := h1
    rw [allL_yes he] at q
    rw [← q]
    unfold enL
    rw [List.map_cons, List.takeWhile_append_of_pos (by intro a ha; simpa using h2 a ha), List.takeWhile_cons]
    have : decide ((frOf (b.drop k)).s ≤ last) = false := by unfold frOf; simpa using hs
    simp only [this]
    simp [h3]
  · obtain ⟨e1, e2⟩ := upto_end h1 he
    rw [← e1]
    have q := List.takeWhile_append_of_pos (p := fun f : En => decide (f.s ≤ last)) (l₁ := es) (l₂ := []) (by intro a ha; simpa using h2 a ha)
    rw [List.append_nil, List.takeWhile_nil, List.append_nil] at q
    rw [q, h3]
theorem ended_le {b : List UInt8} {last : Int} {k : Nat} (h : Ended b last k) : k ≤ b.length := by
  obtain ⟨es, h1, _⟩ := h
  exact h1.1
end Go.Proofs.Ytcchlkialgjamaa
