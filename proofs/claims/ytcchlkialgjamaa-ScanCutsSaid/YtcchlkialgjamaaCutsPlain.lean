/-
  Chapter 11: rows with anything but frames behind, cut where a number ends. No program in sight.
-/
import Derived.Test.YtcchlkialgjamaaDealt2
namespace Go.Proofs.Ytcchlkialgjamaa
set_option linter.unusedVariables false
set_option linter.unusedSimpArgs false

/-- rows of which the first i have something behind that is no frame -/
def Tailed (N : Nat) (xs : List En) (i : Nat) (rows : List (List UInt8)) : Prop := rows.length = N ∧ ∀ j r, rows[j]? = some r → ∃ t, r = rowE (part N xs j) ++ t ∧ allL t = ([], 0) ∧ (i ≤ j → t = [])
theorem tailed_zero (N : Nat) (xs : List En) : Tailed N xs 0 (rowsOf N xs) := ⟨rowsOf_len N xs, fun j r h => ⟨[], by rw [rowsOf_get h, List.append_nil], allL_nil, fun _ => rfl⟩⟩
theorem Tailed.dealt {N i : Nat} {xs : List En} {rows : List (List UInt8)} (h : Tailed N xs i rows) : Dealt N xs rows := ⟨h.1, fun j r hr => by
  obtain ⟨t, h1, h2, _⟩ := h.2 j r hr
  exact ⟨t, h1, h2⟩⟩
theorem Tailed.num {N i : Nat} {xs : List En} {rows : List (List UInt8)} {r t : List UInt8} (h : Tailed N xs i rows) (hr : rows[i]? = some r) (he : ∀ x ∈ xs, enRt x = true) : (allL (r ++ t)).2 = r.length + (allL t).2 := by
  obtain ⟨q, h1, h2, h3⟩ := h.2 i r hr
  obtain rfl := h3 (Nat.le_refl _)
  rw [List.append_nil] at h1
  subst h1
  rw [(all_row (part N xs i) t fun x hx => he x (List.mem_filter.1 hx).1).2, rowE_len]
theorem Tailed.next {N i : Nat} {xs : List En} {rows : List (List UInt8)} {r t : List UInt8} (h : Tailed N xs i rows) (hr : rows[i]? = some r) (he : ∀ x ∈ xs, enRt x = true) (ht : (allL (r ++ t)).2 = r.length) : Tailed N xs (i + 1) (rows.set i (r ++ t)) := by
  have hn := h.num (t := t) hr he
  have h0 : allL t = ([], 0) := allL_zero (by omega)
  refine ⟨by rw [List.length_set]; exact h.1, fun j q hq => ?_⟩
  by_cases e : j = i
  · subst e
    rw [List.getElem?_set_self (List.getElem?_eq_some_iff.1 hr).1] at hq
    injection hq with hq
    subst hq
    obtain ⟨q, h1, h2, h3⟩ := h.2 j r hr
    obtain rfl := h3 (Nat.le_refl _)
    rw [List.append_nil] at h1
    exact ⟨t, by rw [h1], h0, fun hj => by omega⟩
  · rw [List.getElem?_set_ne (fun q => e q.symm)] at hq
    obtain ⟨u, h1, h2, h3⟩ := h.2 j q hq
    exact ⟨u, h1, h2, fun hj => h3 (by omega)⟩
theorem tail_merge {ds : List (List UInt8)} {s : Int} {N i : Nat} {rows : List (List UInt8)} (h : Tailed N (ensF s ds) i rows) (hN : 0 < N) (hs : 1 ≤ s) (hb : s ≤ 1000000) (hl : ds.length ≤ 1000) : mergeL rows s = ensF s ds := by
  refine merge_dealt h.dealt hN (ensF_right hs hb hl) (ensF_uniq ds s) hs (fun i x hx => ?_) (fun x hx => ?_)
  · exact ⟨List.mem_of_getElem? hx, (ensF_at hx).1⟩
  · have := ensF_num hx
    rw [ensF_len]
    omega
/-- a row up to a number -/
def cutF (last : Int) (r : List UInt8) : List UInt8 := r.take (endL r last)
theorem cut_is {ds : List (List UInt8)} {s last : Int} {N i : Nat} {rows : List (List UInt8)} (h : Tailed N (ensF s ds) i rows) (hr : ∀ x ∈ ensF s ds, enRt x = true) : rows.map (cutF last) = rowsOf N ((ensF s ds).filter fun f => decide (f.s ≤ last)) := by
  apply List.ext_getElem?
  intro j
  rw [List.getElem?_map]
  cases hj : rows[j]? with
  | none =>
    have h1 := List.getElem?_eq_none_iff.1 hj
    rw [h.1] at h1
    rw [List.getElem?_eq_none (by rw [rowsOf_len]; exact h1)]
    rfl
  | some r =>
    obtain ⟨t, rfl, ht, _⟩ := h.2 j r hj
    have hl : j < (rowsOf N ((ensF s ds).filter fun f => decide (f.s ≤ last))).length := by
      have := (List.getElem?_eq_some_iff.1 hj).1
      rw [h.1] at this
      rw [rowsOf_len]
      exact this
    have e := rowsOf_get (List.getElem?_eq_getElem hl)
    rw [List.getElem?_eq_getElem hl, e, Option.map_some]
    unfold cutF
    rw [(end_part ht hr last).2]
theorem cut_short {ds : List (List UInt8)} {s last : Int} {N i : Nat} {rows : List (List UInt8)} (h : Tailed N (ensF s ds) i rows) (hr : ∀ x ∈ ensF s ds, enRt x = true) {j : Nat} {r : List UInt8} (hj : rows[j]? = some r) : endL r last ≤ r.length := by
  obtain ⟨t, rfl, ht, _⟩ := h.2 j r hj
  obtain ⟨h1, h2⟩ := end_part (N := N) (j := j) (t := t) ht hr last
  have h3 := congrArg List.length h2
  rw [← h1, List.length_take] at h3
  omega
theorem cuts_merge {ds : List (List UInt8)} {s last : Int} {N n : Nat} (hN : 0 < N) (hs : 1 ≤ s) (hb : s ≤ 1000000) (hl : ds.length ≤ 1000) (hn : n = min ds.length (last - s + 1).toNat) : mergeL (rowsOf N ((ensF s ds).filter fun f => decide (f.s ≤ last))) s = (ensF s ds).take n := by
  have e : (ensF s ds).filter (fun f => decide (f.s ≤ last)) = (ensF s ds).take n := by
    rw [ensF_filter, hn]
    by_cases h : ds.length ≤ (last - s + 1).toNat
    · rw [Nat.min_eq_left h, List.take_of_length_le (by rw [ensF_len]; exact h), List.take_of_length_le (by rw [ensF_len]; exact Nat.le_refl _)]
    · rw [Nat.min_eq_right (by omega)]
  rw [e]
  exact cut_merge hN hs hb hl (by omega)
end Go.Proofs.Ytcchlkialgjamaa
