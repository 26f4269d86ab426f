/-
  The way from bytes to others writes no byte that was right: plain. No program in sight.
-/
import Derived.Test.YtcklkjklepmabaaZDiffPlain
import Derived.Test.YtcklkjklepmabaaZEvPlain
namespace Go.Proofs.Ytcklkjklepmabaa
set_option linter.unusedVariables false

def mixL (x b : List UInt8) (p : Nat) : List UInt8 := b.take p ++ x.drop p
theorem mix_length {x b : List UInt8} {p : Nat} (h : x.length = b.length) (hp : p ≤ b.length) : (mixL x b p).length = b.length := by unfold mixL; simp; omega
theorem mix_zero (x b : List UInt8) : mixL x b 0 = x := by simp [mixL]
theorem mix_all {x b : List UInt8} {p : Nat} (h : x.length = b.length) (hp : b.length ≤ p) : mixL x b p = b := by
  unfold mixL
  rw [List.take_of_length_le hp, List.drop_of_length_le (by omega), List.append_nil]
theorem mix_getD {x b : List UInt8} {p t : Nat} (h : x.length = b.length) (hp : p ≤ t) (ht : t < b.length) : (mixL x b p).getD t 0 = x.getD t 0 := by
  unfold mixL
  rw [List.getD_eq_getElem?_getD, List.getElem?_append_right (by rw [List.length_take]; omega), List.length_take, Nat.min_eq_left (by omega), List.getElem?_drop, show p + (t - p) = t by omega, List.getD_eq_getElem?_getD]
theorem mix_set {x b : List UInt8} {p : Nat} (h : x.length = b.length) (hp : p < b.length) : (mixL x b p).set p (b.getD p 0) = mixL x b (p + 1) := by
  unfold mixL
  have hl : (b.take p).length = p := by rw [List.length_take]; omega
  have e : b.take (p + 1) = b.take p ++ [b[p]] := by rw [List.take_add_one, List.getElem?_eq_getElem hp]; rfl
  rw [List.set_append_right _ _ (by omega), hl, Nat.sub_self, List.drop_eq_getElem_cons (by omega), List.set_cons_zero, e, List.getD_eq_getElem?_getD, List.getElem?_eq_getElem hp, List.append_assoc]
  rfl
theorem mix_same {x b : List UInt8} {p : Nat} (h : x.length = b.length) (hp : p < b.length) (e : x.getD p 0 = b.getD p 0) : mixL x b p = mixL x b (p + 1) := by
  rw [← mix_set h hp, ← e]
  unfold mixL
  have hl : (b.take p).length = p := by rw [List.length_take]; omega
  rw [List.set_append_right _ _ (by omega), hl, Nat.sub_self, List.drop_eq_getElem_cons (by omega), List.set_cons_zero, List.getD_eq_getElem?_getD, List.getElem?_eq_getElem (by omega)]
  simp
/-- the next event of a way -/
theorem way_next {x b : List UInt8} (h : x.length = b.length) : ∀ (f p : Nat), b.length - p ≤ f → p ≤ b.length → (wayL x b p = [] ∧ mixL x b p = b) ∨
    ∃ q N, p ≤ q ∧ q + N ≤ b.length ∧ 1 ≤ N ∧ N ≤ 64 ∧ runF 64 x b q = N ∧ x.getD q 0 ≠ b.getD q 0 ∧ wayL x b p = evAt b q N :: wayL x b (q + N) ∧ mixL x b p = mixL x b q
  | 0, p, hf, hp => .inl ⟨way_end (by omega), mix_all h (by omega)⟩
  | f + 1, p, hf, hp => by
    by_cases hlt : p < b.length
    · by_cases e : x.getD p 0 = b.getD p 0
      · rw [way_same hlt e, mix_same h hlt e]
        rcases way_next h f (p + 1) (by omega) (by omega) with h1 | ⟨q, N, h1, h2⟩
        · exact .inl h1
        · exact .inr ⟨q, N, by omega, h2⟩
      · have hl := runF_le x b 64 p
        exact .inr ⟨p, runF 64 x b p, Nat.le_refl _, hl.2 hp, runF_pos64 hlt e, hl.1, rfl, e, way_diff hlt e, rfl⟩
    · exact .inl ⟨way_end (by omega), mix_all h (by omega)⟩
theorem evAt_kinds {b : List UInt8} {q N : Nat} (h : q + N ≤ b.length) : (evAt b q N = ⟨3, q, N, [], ⟨#[]⟩⟩ ∧ ∀ k, k < N → b.getD (q + k) 0 = 0) ∨ (∃ p : List UInt8, evAt b q N = ⟨1, q, 0, p, ⟨#[]⟩⟩ ∧ p.length = N ∧ ∀ k, k < N → p.getD k 0 = b.getD (q + k) 0) := by
  have hl : ((b.drop q).take N).length = N := by rw [List.length_take, List.length_drop]; omega
  have hg : ∀ k, k < N → ((b.drop q).take N).getD k 0 = b.getD (q + k) 0 := fun k hk => by
    simp only [List.getD_eq_getElem?_getD, List.getElem?_take, List.getElem?_drop]
    rw [if_pos hk]
  unfold evAt
  by_cases hz : zeroB ((b.drop q).take N) = true
  · rw [if_pos hz]
    refine .inl ⟨rfl, fun k hk => ?_⟩
    rw [← hg k hk]
    unfold zeroB at hz
    rw [beq_iff_eq] at hz
    rw [hz, hl, List.getD_eq_getElem?_getD, List.getElem?_replicate, if_pos hk]
    rfl
  · rw [if_neg hz]
    exact .inr ⟨_, rfl, hl, hg⟩
theorem span_zero {q N : Nat} (h1 : 1 ≤ N) (h2 : q + N ≤ 512) : spanO 3 q N 0 ⟨#[]⟩ = q ∧ spanN 3 q N 0 ⟨#[]⟩ = N := by
  have hr : rightE 3 (q : Int) (N : Int) 0 ⟨#[]⟩ = true := by
    unfold rightE
    simp [within_iff]
    omega
  unfold spanO spanN plainE
  rw [hr]
  simp
theorem span_write {q N : Nat} (h1 : 1 ≤ N) (h3 : N ≤ 64) (h2 : q + N ≤ 512) : spanO 1 q 0 N ⟨#[]⟩ = q ∧ spanN 1 q 0 N ⟨#[]⟩ = N := by
  have hr : rightE 1 (q : Int) 0 N ⟨#[]⟩ = true := by
    unfold rightE
    simp [within_iff]
    omega
  unfold spanO spanN plainE
  rw [hr]
  simp
end Go.Proofs.Ytcklkjklepmabaa
