/-
  Images with snapshots, event by event: plain.
-/
import Derived.Test.YtcklkjklepmabaaZApply
namespace Go.Proofs.Ytcklkjklepmabaa
open Go.RowKit
set_option linter.unusedVariables false

def okS (st : St) : Prop := st.d.length ≤ 1000 ∧ st.sn.length ≤ 1000 ∧ ∀ x ∈ st.sn, x.d.length ≤ 1000
def stepS (st : St) (e : Ev) : St := if checkN st e.k e.o e.m e.l.length e.s = 0 then applyS st e.k e.o e.m e.l e.s else st
def foldS (st : St) (l : List Ev) : St := l.foldl stepS st
theorem okS_apply {st : St} {k o m : Int} {l : List UInt8} {s : ByteArray} (h : okS st) (hc : checkN st k o m l.length s = 0) : okS (applyS st k o m l s) := by
  obtain ⟨h1, h2, h3⟩ := h
  have hre := check_right hc
  have hpl : (k = 1 ∨ k = 2 ∨ k = 3) → plainE k o m l.length s = true := fun hk => by unfold plainE; rw [hre]; simpa using hk
  have hfit : (k = 1 ∨ k = 2 ∨ k = 3) → ¬ (st.d.length : Int) < spanO k o m l.length s + spanN k o m l.length s := fun hk hh => by
    rw [check_span hre hk, if_pos hh] at hc
    cases hc
  rcases right_cases hre with ⟨rfl, _, ⟨q1, q2, q3, q4⟩, _⟩ | ⟨hk, _, ⟨q1, q2, q3, q4⟩, _⟩ | ⟨rfl, _, _, q1, q2, _⟩ | ⟨hk, _⟩ | ⟨rfl, _⟩
  · have hf := hfit (.inl rfl)
    unfold spanO spanN at hf
    rw [if_pos (hpl (.inl rfl)), if_pos (hpl (.inl rfl)), if_pos rfl] at hf
    have e : applyS st 1 o m l s = ⟨over st.d o.toNat l, st.sn⟩ := by simp [applyS]
    rw [e]
    refine ⟨?_, h2, h3⟩
    simp only
    rw [over_length (by omega)]
    exact h1
  · have hf := hfit (.inr hk)
    unfold spanO spanN at hf
    rw [if_pos (hpl (.inr hk)), if_pos (hpl (.inr hk)), if_neg (by omega)] at hf
    have e : applyS st k o m l s = ⟨over st.d o.toNat (List.replicate m.toNat 0), st.sn⟩ := by unfold applyS; rw [if_neg (by omega), if_pos hk]
    rw [e]
    refine ⟨?_, h2, h3⟩
    simp only
    rw [over_length (by simp; omega)]
    exact h1
  · have e : applyS st 4 o m l s = ⟨sizedL st.d m.toNat, st.sn⟩ := by simp [applyS]
    rw [e]
    refine ⟨?_, h2, h3⟩
    simp only
    rw [sized_length]
    omega
  · rcases hk with rfl | rfl | rfl
    · have e : applyS st 5 o m l s = ⟨st.d, st.sn ++ [⟨s, st.d⟩]⟩ := by simp [applyS]
      rw [e]
      have h8 : st.sn.length < 8 := by
        rw [check_snap hre] at hc
        split at hc
        · cases hc
        · split at hc
          · cases hc
          · omega
      refine ⟨h1, by simp; omega, fun x hx => ?_⟩
      rcases List.mem_append.1 hx with hx | hx
      · exact h3 x hx
      · simp at hx; subst hx; exact h1
    · have e : applyS st 6 o m l s = ⟨st.d, st.sn.take (findN st s) ++ st.sn.drop (findN st s + 1)⟩ := by simp [applyS]
      rw [e]
      refine ⟨h1, by simp; omega, fun x hx => ?_⟩
      rcases List.mem_append.1 hx with hx | hx
      · exact h3 x (List.mem_of_mem_take hx)
      · exact h3 x (List.mem_of_mem_drop hx)
    · have e : applyS st 7 o m l s = ⟨(st.sn.getD (findN st s) ⟨s, []⟩).d, st.sn⟩ := by simp [applyS]
      rw [e]
      refine ⟨?_, h2, h3⟩
      simp only
      rw [List.getD_eq_getElem?_getD]
      cases hx : st.sn[findN st s]? with
      | none => simp
      | some x => exact h3 x (List.mem_of_getElem? hx)
  · have e : applyS st 8 o m l s = st := by simp [applyS]
    rw [e]
    exact ⟨h1, h2, h3⟩
theorem okS_step {st : St} {e : Ev} (h : okS st) : okS (stepS st e) := by
  unfold stepS
  split
  · rename_i hc; exact okS_apply h hc
  · exact h
theorem fold_next {st : St} {l : List Ev} {k : Nat} {x : Ev} (hx : l[k]? = some x) : foldS st (l.take (k + 1)) = stepS (foldS st (l.take k)) x := by
  unfold foldS
  rw [List.take_add_one, hx, List.foldl_append]
  rfl
theorem okS_fold {st : St} (h : okS st) : ∀ l : List Ev, okS (foldS st l) := by
  intro l
  unfold foldS
  induction l generalizing st with
  | nil => exact h
  | cons x xs ih => exact ih (okS_step h)
end Go.Proofs.Ytcklkjklepmabaa
