/-
  Chapter 8: what is seen of a record that was made of numbers. Plain lists, no program in sight.
-/
import Derived.Test.YtoeknbogaclfdaaZMakePlain
import Derived.Test.YtoeknbogaclfdaaZHd2
namespace Go.Proofs.Ytoeknbogaclfdaa
set_option linter.unusedVariables false

theorem okF_ids {nx : Int} : ∀ (l pre : List Mk), okF nx pre l = true → ∀ x ∈ l, x.id < nx
  | [], _, _, x, hx => by cases hx
  | y :: ys, pre, h, x, hx => by
    rw [okF, Bool.and_eq_true] at h
    rcases List.mem_cons.1 hx with rfl | hx
    · have := h.1
      unfold okM at this
      rw [Bool.and_eq_true, decide_eq_true_eq] at this
      exact this.1.2.1
    · exact okF_ids ys _ h.2 x hx
theorem newest_lt {xs : List Mk} {N : Int} (h0 : 0 < N) (h : ∀ x ∈ xs, x.id < N) : newestI xs < N := by
  have key : ∀ k, newestI (xs.take k) < N := by
    intro k
    induction k with
    | zero => rw [List.take_zero]; exact h0
    | succ k ih =>
      cases hx : xs[k]? with
      | none =>
        have hl : xs.length ≤ k := List.getElem?_eq_none_iff.1 hx
        have e : xs.take (k + 1) = xs.take k := by rw [List.take_of_length_le (by omega), List.take_of_length_le hl]
        rw [e]
        exact ih
      | some x =>
        rw [newest_next hx]
        split
        · exact h x (List.mem_of_getElem? hx)
        · exact ih
  have := key xs.length
  rwa [List.take_length] at this
theorem seenM_iff {x : Mk} : seenM x = true ↔ x.gone = false ∧ tildeB x.nm = false := by
  unfold seenM
  simp
theorem find_nm {l : List Mk} {s : ByteArray} {x : Mk} (h : findM l s = some x) : x.nm = s ∧ x.gone = false := by
  unfold findM at h
  have h1 := List.find?_some h
  rw [Bool.and_eq_true, decide_eq_true_eq] at h1
  exact ⟨h1.2, (seenM_iff.1 h1.1).1⟩
theorem made_find {k : Nat} {st : Mst} (hv : MInv k st) (hk : k ≤ 16) {i : Nat} {m : Mk} (hx : st.ms[i]? = some m) : findM st.ms m.nm = if seenM m = true then some m else none := by
  have hlen : ∀ (j : Nat) (y : Mk), st.ms[j]? = some y → j < 16 := fun j y h => by
    have := (List.getElem?_eq_some_iff.1 h).1
    have := hv.len
    omega
  cases e : findM st.ms m.nm with
  | none =>
    rw [if_neg]
    intro hs
    unfold findM at e
    have := List.find?_eq_none.1 e m (List.mem_of_getElem? hx)
    simp [hs] at this
  | some y =>
    unfold findM at e
    have h1 := List.find?_some e
    have h2 := List.mem_of_find?_eq_some e
    rw [Bool.and_eq_true, decide_eq_true_eq] at h1
    obtain ⟨j, hj⟩ := List.getElem?_of_mem h2
    have hy : y.nm = nmI j := by
      rcases hv.names j y hj with h | h
      · have := (seenM_iff.1 h1.1).2
        rw [h, tilde_nmT] at this
        cases this
      · exact h
    have hm : m.nm = nmI i := by
      rcases hv.names i m hx with h | h
      · have h3 : tildeB (nmI j) = tildeB nmT := by rw [← hy, h1.2, h]
        rw [tilde_nmI, tilde_nmT] at h3
        cases h3
      · exact h
    have hji : j = i := nmI_inj j (hlen j y hj) i (hlen i m hx) (by rw [← hy, h1.2, hm])
    subst hji
    rw [hx] at hj
    injection hj with hj
    subst hj
    rw [if_pos h1.1]
theorem seen_at {xs : List Mk} {i : Nat} {m : Mk} (hx : xs[i]? = some m) (hs : seenM m = true) : (seenL xs)[(seenL (xs.take i)).length]? = some m := by
  obtain ⟨hl, rfl⟩ := List.getElem?_eq_some_iff.1 hx
  have e : seenL xs = seenL (xs.take i) ++ seenL (xs.drop i) := by rw [← seenL_app, List.take_append_drop]
  rw [e, List.getElem?_append_right (Nat.le_refl _), Nat.sub_self, List.drop_eq_getElem_cons hl]
  unfold seenL
  rw [List.filter_cons_of_pos hs]
  rfl
theorem made_nm {k : Nat} {st : Mst} (hv : MInv k st) {i : Nat} {m : Mk} (hx : st.ms[i]? = some m) : m.nm.size = 2 := by
  rcases hv.names i m hx with h | h <;> rw [h] <;> rfl
end Go.Proofs.Ytoeknbogaclfdaa
