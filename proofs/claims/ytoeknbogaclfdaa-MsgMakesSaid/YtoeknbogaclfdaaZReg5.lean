/-
  A region that keeps the text's order, by types: the laws of regions that draw hold of it, as the text's order is one of theirs. For long tests ('&&', '||' of variables): each operation is shown once, and nothing parts.
-/
import Derived.Test.YtoeknbogaclfdaaZCore
namespace Go.Proofs.Ytoeknbogaclfdaa
open Go.RowKit
set_option linter.unusedVariables false
section
variable {P : Program} {R : World → World → Prop} {Q : Exit → Act → World → Prop}
theorem wpOps_of_any {ops : Array Oper} (hb : ∀ (k : Nat) (o : Oper), ops[k]? = some o → ∀ e ∈ o.after, Region.binds .any e = true → e.on < k) :
    ∀ (k i fuel : Nat) (listed : Array Bool) (a : Act) (w : World), i + k = ops.size → listed.size = ops.size → (∀ j, j < i → listed.getD j false = true) → (∀ j, i ≤ j → j < ops.size → listed.getD j true = false) → k ≤ fuel →
      wpAny P .any ops Q fuel listed a w → wpOps P ops Q (List.range' i k) a w
  | 0, i, fuel, listed, a, w, hi, hs, h1, h2, hf, h => by
    have hr : Region.ready .any ops listed = [] := by
      rw [List.eq_nil_iff_forall_not_mem]
      intro j hj
      obtain ⟨hun, o, ho, _⟩ := mem_ready.1 hj
      have hlt := (Array.getElem?_eq_some_iff.1 ho).1
      have := h1 j (by omega)
      rw [getD_of_lt (by omega) false true, hun] at this
      cases this
    cases fuel with
    | zero => exact h.2
    | succ f => exact h.1 hr
  | k + 1, i, fuel, listed, a, w, hi, hs, h1, h2, hf, h => by
    cases fuel with
    | zero => omega
    | succ f =>
      have hlt : i < ops.size := by omega
      obtain ⟨o, ho⟩ : ∃ o, ops[i]? = some o := ⟨_, Array.getElem?_eq_getElem hlt⟩
      have hir : i ∈ Region.ready .any ops listed := by
        rw [mem_ready]
        exact ⟨h2 i (Nat.le_refl _) hlt, o, ho, fun e he hbe => h1 _ (hb i o ho e he hbe)⟩
      rw [List.range'_succ, wpOps_cons]
      refine wpOp_mono (fun a' w' h' => ?_) (h.2 i hir)
      refine wpOps_of_any hb k (i + 1) f (listed.setIfInBounds i true) a' w' (by omega) (by simpa using hs) (fun j hj => ?_) (fun j hj hl => ?_) (by omega) h'
      · by_cases e : j = i
        · subst e
          simp [Array.getD, hs, hlt]
        · rw [getD_set_ne false (by omega)]
          exact h1 j (by omega)
      · rw [getD_set_ne true (by omega)]
        exact h2 j (by omega) hl
theorem wp_region_seq {id : Nat} {l : List Oper} {a0 : Act} {w0 : World} (hR : Steady R) (n : Nat) (hn : a0.tmps.size = n) (hok : regionOk n l = true)
    (h : Stage P l.toArray R a0 w0 (Q .normal) [] l) : (Code.region id l.toArray false).wp P Q a0 w0 := by
  obtain ⟨rest, h1, h2, h3, h4⟩ := Stage.all l [] h
  subst h1
  subst hn
  refine wp_region ?_
  rw [List.range_eq_range']
  have hok' := hok
  simp only [regionOk, Bool.and_eq_true] at hok'
  refine wpOps_of_any (fun k o ho e he hbe => ?_) _ 0 _ (Array.replicate rest.length false) a0 w0 (by simp) (by simp) (by omega) (fun j _ hj => by have hj' : j < rest.length := (by simpa using hj); simp [Array.getD, hj']) (Nat.le_refl _) ?_
  · have hm : (o, k) ∈ (rest.map (·.1)).zipIdx := by
      rw [List.mem_zipIdx_iff_getElem?]
      simpa using ho
    have q1 := List.all_eq_true.1 hok'.2 (o, k) hm
    have q2 := Array.all_eq_true_iff_forall_mem.1 q1 e he
    simpa [hbe] using q2
  · refine any_typed (full := rest) (a0 := a0) (w0 := w0) hR rfl hok h2 (by simpa using h4) (by simpa using h3) _ _ _ _ ⟨hR.refl w0, rfl, rfl, by simp, fun _ _ => rfl, ?_⟩ (by simp)
    intro k o T hk hl
    have hlt : k < rest.length := (List.getElem?_eq_some_iff.1 hk).1
    simp [Array.getD, hlt] at hl
end
end Go.Proofs.Ytoeknbogaclfdaa
