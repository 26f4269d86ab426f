/-
  Chapter 11: what the statements say of entries that were dealt. No program in sight.
-/
import Derived.Test.YtcchlkialgjamaaDealt
namespace Go.Proofs.Ytcchlkialgjamaa
set_option linter.unusedVariables false
set_option linter.unusedSimpArgs false

theorem ensF_at {ds : List (List UInt8)} {s : Int} {i : Nat} {x : En} (h : (ensF s ds)[i]? = some x) : x.s = s + (i : Nat) ∧ i < ds.length := by
  have hl := (List.getElem?_eq_some_iff.1 h).1
  rw [ensF_len] at hl
  rw [ensF_get ds s i _ (List.getElem?_eq_getElem hl)] at h
  injection h with h
  subst h
  exact ⟨rfl, hl⟩
theorem ensF_num {ds : List (List UInt8)} {s : Int} {x : En} (h : x ∈ ensF s ds) : s ≤ x.s ∧ x.s < s + (ds.length : Nat) := by
  obtain ⟨i, hi⟩ := List.getElem?_of_mem h
  have := ensF_at hi
  omega
theorem ensF_uniq (ds : List (List UInt8)) (s : Int) : Uniq (ensF s ds) := by
  intro x hx y hy e
  obtain ⟨i, hi⟩ := List.getElem?_of_mem hx
  obtain ⟨j, hj⟩ := List.getElem?_of_mem hy
  have h1 := ensF_at hi
  have h2 := ensF_at hj
  have : i = j := by omega
  subst this
  rw [hi] at hj
  exact Option.some.inj hj
theorem whole_merge {ds : List (List UInt8)} {s : Int} {N k : Nat} (hN : 0 < N) (hs : 1 ≤ s) (hb : s ≤ 1000000) (hl : ds.length ≤ 1000) (hk : k ≤ ds.length) : mergeL (rowsOf N (ensF s ds)) (s + (k : Nat)) = (ensF s ds).drop k := by
  refine merge_dealt (dealt_rows N _) hN (ensF_right hs hb hl) (ensF_uniq ds s) (by omega) (fun i x hx => ?_) (fun x hx => ?_)
  · rw [List.getElem?_drop] at hx
    refine ⟨List.mem_of_getElem? hx, ?_⟩
    have := ensF_at hx
    omega
  · have := ensF_num hx
    rw [List.length_drop, ensF_len]
    omega
theorem whole_first {ds : List (List UInt8)} {s : Int} {N : Nat} (hN : 0 < N) (hs : 1 ≤ s) (hb : s ≤ 1000000) (hl : ds.length ≤ 1000) (h0 : 0 < ds.length) : firstL (rowsOf N (ensF s ds)) = s := by
  refine first_dealt (dealt_rows N _) hN (ensF_right hs hb hl) hs ?_ (fun x hx => (ensF_num hx).1)
  have h := ensF_get ds s 0 _ (List.getElem?_eq_getElem h0)
  exact ⟨_, List.mem_of_getElem? h, by simp⟩
theorem rowsOf_is (N : Nat) (xs : List En) : (rowsOf N xs).length = N ∧ ∀ j r, (rowsOf N xs)[j]? = some r → r = rowE (part N xs j) := ⟨rowsOf_len N xs, fun j r h => rowsOf_get h⟩
theorem whole_torn {ds : List (List UInt8)} {s : Int} {N : Nat} (hN : 0 < N) (hs : 1 ≤ s) (hb : s ≤ 1000000) (hl : ds.length ≤ 1000) : tornL (rowsOf N (ensF s ds)) (s + (ds.length : Nat)) = false := by
  rw [torn_dealt (rowsOf_is N _) hN (ensF_right hs hb hl), List.any_eq_false]
  intro x hx
  have := ensF_num hx
  simp
  omega
/-- where one is missing -/
def gapE (s : Int) (a b : List (List UInt8)) : List En := ensF s a ++ ensF (s + (a.length : Nat) + 1) b
theorem gapE_right {a b : List (List UInt8)} {s : Int} (hs : 1 ≤ s) (hb : s ≤ 100000) (ha : a.length ≤ 1000) (hl : b.length ≤ 1000) : ∀ x ∈ gapE s a b, enRt x = true := by
  intro x hx
  rcases List.mem_append.1 hx with hx | hx
  · exact ensF_right hs (by omega) ha x hx
  · exact ensF_right (by omega) (by omega) hl x hx
theorem gapE_uniq (a b : List (List UInt8)) (s : Int) : Uniq (gapE s a b) := by
  intro x hx y hy e
  rcases List.mem_append.1 hx with hx | hx <;> rcases List.mem_append.1 hy with hy | hy
  · exact ensF_uniq a s x hx y hy e
  · have h1 := ensF_num hx
    have h2 := ensF_num hy
    omega
  · have h1 := ensF_num hx
    have h2 := ensF_num hy
    omega
  · exact ensF_uniq b _ x hx y hy e
theorem gap_ahead {a b : List (List UInt8)} {s : Int} {N : Nat} (hN : 0 < N) (hs : 1 ≤ s) (hb : s ≤ 100000) (ha : a.length ≤ 1000) (hl : b.length ≤ 1000) : mergeL (rowsOf N (gapE s a b)) s = ensF s a := by
  refine merge_dealt (dealt_rows N _) hN (gapE_right hs hb ha hl) (gapE_uniq a b s) hs (fun i x hx => ?_) (fun x hx => ?_)
  · exact ⟨List.mem_append_left _ (List.mem_of_getElem? hx), (ensF_at hx).1⟩
  · rw [ensF_len]
    rcases List.mem_append.1 hx with hx | hx
    · have := ensF_num hx; omega
    · have := ensF_num hx; omega
theorem gap_behind {a b : List (List UInt8)} {s : Int} {N : Nat} (hN : 0 < N) (hs : 1 ≤ s) (hb : s ≤ 100000) (ha : a.length ≤ 1000) (hl : b.length ≤ 1000) : mergeL (rowsOf N (gapE s a b)) (s + (a.length : Nat) + 1) = ensF (s + (a.length : Nat) + 1) b := by
  refine merge_dealt (dealt_rows N _) hN (gapE_right hs hb ha hl) (gapE_uniq a b s) (by omega) (fun i x hx => ?_) (fun x hx => ?_)
  · exact ⟨List.mem_append_right _ (List.mem_of_getElem? hx), (ensF_at hx).1⟩
  · rw [ensF_len]
    rcases List.mem_append.1 hx with hx | hx
    · have := ensF_num hx; omega
    · have := ensF_num hx; omega
theorem gap_none {a b : List (List UInt8)} {s : Int} {N : Nat} (hN : 0 < N) (hs : 1 ≤ s) (hb : s ≤ 100000) (ha : a.length ≤ 1000) (hl : b.length ≤ 1000) : mergeL (rowsOf N (gapE s a b)) (s + (a.length : Nat)) = [] := by
  refine merge_dealt (dealt_rows N _) hN (gapE_right hs hb ha hl) (gapE_uniq a b s) (by omega) (fun i x hx => by simp at hx) (fun x hx => ?_)
  simp only [List.length_nil]
  rcases List.mem_append.1 hx with hx | hx
  · have := ensF_num hx; omega
  · have := ensF_num hx; omega
theorem gap_torn {a b : List (List UInt8)} {s : Int} {N : Nat} (hN : 0 < N) (hs : 1 ≤ s) (hb : s ≤ 100000) (ha : a.length ≤ 1000) (hl : b.length ≤ 1000) : tornL (rowsOf N (gapE s a b)) (s + (a.length : Nat)) = decide (0 < b.length) := by
  rw [torn_dealt (rowsOf_is N _) hN (gapE_right hs hb ha hl), Bool.eq_iff_iff, List.any_eq_true, decide_eq_true_eq]
  constructor
  · rintro ⟨x, hx, h⟩
    simp at h
    rcases List.mem_append.1 hx with hx | hx
    · have := ensF_num hx; omega
    · have := ensF_num hx; omega
  · intro h0
    have h := ensF_get b (s + (a.length : Nat) + 1) 0 _ (List.getElem?_eq_getElem h0)
    exact ⟨_, List.mem_append_right _ (List.mem_of_getElem? h), by simp; omega⟩
/-- rows and more of them -/
theorem rowsOf_more {N : Nat} (xs ys : List En) {j : Nat} {r q : List UInt8} (h1 : (rowsOf N xs)[j]? = some r) (h2 : (rowsOf N ys)[j]? = some q) : (rowsOf N (xs ++ ys))[j]? = some (r ++ q) := by
  have hj := (List.getElem?_eq_some_iff.1 h1).1
  rw [rowsOf_len] at hj
  have h3 : j < (rowsOf N (xs ++ ys)).length := by rw [rowsOf_len]; exact hj
  have e := rowsOf_get (List.getElem?_eq_getElem h3)
  rw [List.getElem?_eq_getElem h3, e, part_app, rowE_app, rowsOf_get h1, rowsOf_get h2]

/-! cut where a number ends -/
theorem while_filter {p : En → Bool} : ∀ {l : List En}, l.Pairwise (fun a b => p b = true → p a = true) → l.takeWhile p = l.filter p
  | [], _ => rfl
  | x :: l, h => by
    obtain ⟨h1, h2⟩ := List.pairwise_cons.1 h
    cases hp : p x with
    | true => rw [List.takeWhile_cons_of_pos hp, List.filter_cons_of_pos hp, while_filter h2]
    | false =>
      have e : l.filter p = [] := by
        rw [List.filter_eq_nil_iff]
        intro y hy hy2
        have := h1 y hy hy2
        rw [hp] at this
        cases this
      rw [List.takeWhile_cons_of_neg (by simp [hp]), List.filter_cons_of_neg (by simp [hp]), e]
theorem ensF_asc : ∀ (ds : List (List UInt8)) (s : Int), (ensF s ds).Pairwise (fun a b => a.s < b.s)
  | [], _ => .nil
  | d :: ds, s => by
    rw [ensF]
    exact .cons (fun b hb => by have := ensF_num hb; simp only; omega) (ensF_asc ds (s + 1))
/-- how long a row is up to a number: its entries up to there -/
theorem end_part {N : Nat} {ds : List (List UInt8)} {s : Int} {j : Nat} {t : List UInt8} (ht : allL t = ([], 0)) (hr : ∀ x ∈ ensF s ds, enRt x = true) (last : Int) :
    endL (rowE (part N (ensF s ds) j) ++ t) last = (rowE (part N ((ensF s ds).filter fun f => decide (f.s ≤ last)) j)).length ∧ (rowE (part N (ensF s ds) j) ++ t).take (endL (rowE (part N (ensF s ds) j) ++ t) last) = rowE (part N ((ensF s ds).filter fun f => decide (f.s ≤ last)) j) := by
  have hw : (part N (ensF s ds) j).takeWhile (fun f => decide (f.s ≤ last)) = part N ((ensF s ds).filter fun f => decide (f.s ≤ last)) j := by
    rw [while_filter]
    · unfold part
      rw [List.filter_filter, List.filter_filter]
      congr 1
      funext x
      rw [Bool.and_comm]
    · unfold part
      refine ((ensF_asc ds s).sublist List.filter_sublist).imp ?_
      intro a b hab hb
      simp at hb ⊢
      omega
  have h1 := end_dealt (N := N) (xs := ensF s ds) (j := j) ht hr last
  rw [hw] at h1
  have hp : ∃ q, rowE (part N (ensF s ds) j) = rowE (part N ((ensF s ds).filter fun f => decide (f.s ≤ last)) j) ++ q := by
    rw [← hw]
    refine ⟨rowE ((part N (ensF s ds) j).dropWhile fun f => decide (f.s ≤ last)), ?_⟩
    rw [← rowE_app, List.takeWhile_append_dropWhile]
  obtain ⟨q, hq⟩ := hp
  refine ⟨by rw [h1, rowE_len], ?_⟩
  rw [h1, ← rowE_len, hq, List.append_assoc, List.take_left]
theorem ensF_filter (ds : List (List UInt8)) (s last : Int) : (ensF s ds).filter (fun f => decide (f.s ≤ last)) = (ensF s ds).take (last - s + 1).toNat := by
  induction ds generalizing s with
  | nil => simp [ensF]
  | cons d ds ih =>
    rw [ensF]
    by_cases h : s ≤ last
    · rw [List.filter_cons_of_pos (by simpa using h), ih, show (last - s + 1).toNat = (last - (s + 1) + 1).toNat + 1 by omega, List.take_succ_cons]
    · rw [List.filter_cons_of_neg (by simpa using h), ih, show (last - s + 1).toNat = 0 by omega, show (last - (s + 1) + 1).toNat = 0 by omega]
      simp
theorem cut_merge {ds : List (List UInt8)} {s : Int} {N n : Nat} (hN : 0 < N) (hs : 1 ≤ s) (hb : s ≤ 1000000) (hl : ds.length ≤ 1000) (hn : n ≤ ds.length) : mergeL (rowsOf N ((ensF s ds).take n)) s = (ensF s ds).take n := by
  refine merge_dealt (dealt_rows N _) hN (fun x hx => ensF_right hs hb hl x (List.mem_of_mem_take hx)) (fun x hx y hy => ensF_uniq ds s x (List.mem_of_mem_take hx) y (List.mem_of_mem_take hy)) hs (fun i x hx => ?_) (fun x hx => ?_)
  · refine ⟨List.mem_of_getElem? hx, ?_⟩
    rw [List.getElem?_take] at hx
    split at hx
    · exact (ensF_at hx).1
    · cases hx
  · obtain ⟨i, hi⟩ := List.getElem?_of_mem hx
    rw [List.getElem?_take] at hi
    split at hi
    · have := ensF_at hi
      rw [List.length_take, ensF_len]
      omega
    · cases hi
theorem cut_torn {ds : List (List UInt8)} {s last : Int} {N : Nat} (hN : 0 < N) (hs : 1 ≤ s) (hb : s ≤ 1000000) (hl : ds.length ≤ 1000) : tornL (rowsOf N ((ensF s ds).filter fun f => decide (f.s ≤ last))) last = false := by
  rw [torn_dealt (rowsOf_is N _) hN (fun x hx => ensF_right hs hb hl x (List.mem_filter.1 hx).1), List.any_eq_false]
  intro x hx
  have := (List.mem_filter.1 hx).2
  simp at this ⊢
  omega
end Go.Proofs.Ytcchlkialgjamaa
