/-
  Chapter 11: entries dealt to rows by their numbers: what is merged, where rows end. No program in sight.
-/
import Derived.Test.YtcchlkialgjamaaScanPlain
namespace Go.Proofs.Ytcchlkialgjamaa
set_option linter.unusedVariables false
set_option linter.unusedSimpArgs false

def enRt (x : En) : Bool := rightN x.t x.s x.d.length
def frE (x : En) : List UInt8 := layE x.t.toNat x.s.toNat x.d
def rowE (xs : List En) : List UInt8 := (xs.map frE).flatten
theorem rowE_app (xs ys : List En) : rowE (xs ++ ys) = rowE xs ++ rowE ys := by
  unfold rowE
  rw [List.map_append, List.flatten_append]
theorem rowE_len (xs : List En) : (rowE xs).length = lenF xs := by
  unfold rowE lenF
  rw [List.length_flatten, List.map_map]
  congr 1
  apply List.map_congr_left
  intro x _
  show (frE x).length = _
  unfold frE
  rw [layE_length]
  omega
theorem all_row : ∀ (xs : List En) (r : List UInt8), (∀ x ∈ xs, enRt x = true) → enL (allL (rowE xs ++ r)).1 = xs ++ enL (allL r).1 ∧ (allL (rowE xs ++ r)).2 = lenF xs + (allL r).2
  | [], r, _ => by simp [rowE, lenF]
  | x :: xs, r, h => by
    have hx := rightN_iff.1 (h x (by simp))
    have hx' : rightN x.t.toNat x.s.toNat x.d.length = true := rightN_iff.2 (by omega)
    obtain ⟨i1, i2⟩ := all_row xs r (fun y hy => h y (by simp [hy]))
    have ht := take_lay x.t.toNat x.s.toNat x.d (rowE xs ++ r) hx'
    have e : rowE (x :: xs) ++ r = layE x.t.toNat x.s.toNat x.d ++ (rowE xs ++ r) := by
      unfold rowE frE
      simp
    have hd : (layE x.t.toNat x.s.toNat x.d ++ (rowE xs ++ r)).drop (x.d.length + 22) = rowE xs ++ r := by
      rw [show x.d.length + 22 = (layE x.t.toNat x.s.toNat x.d).length by rw [layE_length]; omega, List.drop_left]
    rw [e, allL_yes ht.1, ht.2.2.2.1, hd]
    refine ⟨?_, ?_⟩
    · rw [List.cons_append, ← i1]
      unfold enL
      rw [List.map_cons]
      congr 1
      unfold frOf
      rw [ht.2.1, ht.2.2.1, ht.2.2.2.2]
      obtain ⟨t, s, d⟩ := x
      simp only at hx
      simp
      omega
    · simp only [i2]
      unfold lenF
      simp
      omega
theorem allL_zero {t : List UInt8} (h : (allL t).2 = 0) : allL t = ([], 0) := by
  by_cases h0 : tkE t = 0
  · rw [allL_yes h0] at h
    simp only at h
    omega
  · exact allL_no h0

/-- what the entries of one row are -/
def part (N : Nat) (xs : List En) (j : Nat) : List En := xs.filter fun x => x.s.toNat % N == j
/-- rows of entries by their numbers, with something behind that is no frame -/
def Dealt (N : Nat) (xs : List En) (rows : List (List UInt8)) : Prop := rows.length = N ∧ ∀ j r, rows[j]? = some r → ∃ t, r = rowE (part N xs j) ++ t ∧ allL t = ([], 0)
/-- one number, one entry -/
def Uniq (xs : List En) : Prop := ∀ x ∈ xs, ∀ y ∈ xs, x.s = y.s → x = y

theorem dealt_row {N : Nat} {xs : List En} {j : Nat} {t : List UInt8} (ht : allL t = ([], 0)) (hr : ∀ x ∈ xs, enRt x = true) : enL (allL (rowE (part N xs j) ++ t)).1 = part N xs j := by
  rw [(all_row (part N xs j) t (fun x hx => hr x (List.mem_filter.1 hx).1)).1, ht]
  simp [enL]
theorem dealt_mem {N : Nat} {xs : List En} {rows : List (List UInt8)} (h : Dealt N xs rows) (hN : 0 < N) (hr : ∀ x ∈ xs, enRt x = true) (x : En) : x ∈ frsOf rows ↔ x ∈ xs := by
  unfold frsOf
  simp only [List.mem_flatten, List.mem_map]
  constructor
  · rintro ⟨l, ⟨r, hm, rfl⟩, hx⟩
    obtain ⟨j, hj⟩ := List.getElem?_of_mem hm
    obtain ⟨t, rfl, ht⟩ := h.2 j r hj
    rw [dealt_row ht hr] at hx
    exact (List.mem_filter.1 hx).1
  · intro hx
    have hj : x.s.toNat % N < rows.length := by rw [h.1]; exact Nat.mod_lt _ hN
    obtain ⟨t, e, ht⟩ := h.2 _ _ (List.getElem?_eq_getElem hj)
    refine ⟨_, ⟨_, List.getElem_mem hj, rfl⟩, ?_⟩
    rw [e, dealt_row ht hr]
    exact List.mem_filter.2 ⟨hx, by simp⟩
theorem fstEn_some {l : List En} {x : En} (h : x ∈ l) (hu : Uniq l) : fstEn l x.s = some x := by
  cases e : fstEn l x.s with
  | none =>
    unfold fstEn at e
    rw [List.find?_eq_none] at e
    have := e x h
    simp at this
  | some y => rw [hu y (fstEn_mem e) x h (fstEn_s e)]
theorem fstEn_none {l : List En} {s : Int} (h : ∀ x ∈ l, x.s ≠ s) : fstEn l s = none := by
  unfold fstEn
  rw [List.find?_eq_none]
  intro x hx
  simpa using h x hx
theorem goM_eq : ∀ (es : List En) (l : List En) (fuel : Nat) (s : Int), (∀ i x, es[i]? = some x → fstEn l (s + (i : Nat)) = some x) → fstEn l (s + (es.length : Nat)) = none → es.length < fuel → goM l fuel s = es
  | [], l, fuel + 1, s, _, hn, _ => by
    rw [goM]
    have : s + ((([] : List En).length : Nat) : Int) = s := by simp
    rw [this] at hn
    rw [hn]
  | x :: es, l, fuel + 1, s, h, hn, hf => by
    have h0 := h 0 x rfl
    rw [goM]
    simp only [Int.ofNat_zero, Int.add_zero, Int.natCast_zero] at h0
    rw [h0]
    simp only
    rw [goM_eq es l fuel (s + 1) (fun i y hy => by
      have := h (i + 1) y hy
      rwa [show s + ((i + 1 : Nat) : Int) = s + 1 + (i : Nat) by omega] at this) (by
      rwa [show s + (((x :: es).length : Nat) : Int) = s + 1 + (es.length : Nat) by simp; omega] at hn) (by simp at hf; omega)]
/-- what is merged of rows that were dealt -/
theorem merge_dealt {N : Nat} {xs es : List En} {rows : List (List UInt8)} {s : Int} (h : Dealt N xs rows) (hN : 0 < N) (hr : ∀ x ∈ xs, enRt x = true) (hu : Uniq xs) (hs : 1 ≤ s)
    (he : ∀ i x, es[i]? = some x → x ∈ xs ∧ x.s = s + (i : Nat)) (hn : ∀ x ∈ xs, x.s ≠ s + (es.length : Nat)) : mergeL rows s = es := by
  have hm := dealt_mem h hN hr
  have hu' : Uniq (frsOf rows) := fun x hx y hy e => hu x ((hm x).1 hx) y ((hm y).1 hy) e
  have h1 : ∀ i x, es[i]? = some x → fstEn (frsOf rows) (s + (i : Nat)) = some x := by
    intro i x hx
    obtain ⟨h1, h2⟩ := he i x hx
    rw [← h2]
    exact fstEn_some ((hm x).2 h1) hu'
  have h2 := many_le es.length (frsOf rows) s (fun i hi => by
    rw [h1 i _ (List.getElem?_eq_getElem hi)]; rfl)
  unfold mergeL
  rw [if_neg (by omega)]
  exact goM_eq es _ _ s h1 (fstEn_none fun x hx => hn x ((hm x).1 hx)) (by omega)
theorem least_eq : ∀ (l : List En) (n m : Int), (∀ x ∈ l, m ≤ x.s) → 1 ≤ m → ((n = 0 ∧ ∃ x ∈ l, x.s = m) ∨ n = m ∨ (m < n ∧ ∃ x ∈ l, x.s = m)) → l.foldl leastF n = m
  | [], n, m, _, h1, h => by
    rcases h with ⟨_, x, hx, _⟩ | h | ⟨_, x, hx, _⟩
    · simp at hx
    · exact h
    · simp at hx
  | x :: l, n, m, hm, h1, h => by
    rw [List.foldl_cons]
    refine least_eq l _ m (fun y hy => hm y (by simp [hy])) h1 ?_
    have hx := hm x (by simp)
    unfold leastF
    have key : (∃ y ∈ x :: l, y.s = m) → x.s = m ∨ ∃ y ∈ l, y.s = m := by
      rintro ⟨y, hy, e⟩
      rcases List.mem_cons.1 hy with rfl | hy
      · exact .inl e
      · exact .inr ⟨y, hy, e⟩
    rcases h with ⟨rfl, hy⟩ | rfl | ⟨hlt, hy⟩
    · rw [if_pos (.inl rfl)]
      rcases key hy with e | hy
      · exact .inr (.inl e)
      · by_cases e : x.s = m
        · exact .inr (.inl e)
        · exact .inr (.inr ⟨by omega, hy⟩)
    · rw [if_neg (by omega)]
      exact .inr (.inl rfl)
    · split
      · rcases key hy with e | hy
        · exact .inr (.inl e)
        · by_cases e : x.s = m
          · exact .inr (.inl e)
          · exact .inr (.inr ⟨by omega, hy⟩)
      · rename_i hno
        rcases key hy with e | hy
        · omega
        · exact .inr (.inr ⟨hlt, hy⟩)
theorem first_dealt {N : Nat} {xs : List En} {rows : List (List UInt8)} {s : Int} (h : Dealt N xs rows) (hN : 0 < N) (hr : ∀ x ∈ xs, enRt x = true) (hs : 1 ≤ s) (he : ∃ x ∈ xs, x.s = s) (hle : ∀ x ∈ xs, s ≤ x.s) : firstL rows = s := by
  have hm := dealt_mem h hN hr
  obtain ⟨x, hx, e⟩ := he
  exact least_eq _ 0 s (fun x hx => hle x ((hm x).1 hx)) hs (.inl ⟨rfl, x, (hm x).2 hx, e⟩)
theorem end_dealt {N : Nat} {xs : List En} {j : Nat} {t : List UInt8} (ht : allL t = ([], 0)) (hr : ∀ x ∈ xs, enRt x = true) (last : Int) : endL (rowE (part N xs j) ++ t) last = lenF ((part N xs j).takeWhile fun f => decide (f.s ≤ last)) := by
  unfold endL
  rw [dealt_row ht hr]
theorem lenF_while (p : En → Bool) : ∀ l : List En, lenF (l.takeWhile p) < lenF l ↔ ∃ x ∈ l, p x = false
  | [] => by simp [lenF]
  | x :: l => by
    have ih := lenF_while p l
    rw [List.takeWhile_cons]
    cases hp : p x with
    | false => exact ⟨fun _ => ⟨x, by simp, hp⟩, fun _ => by unfold lenF; simp; omega⟩
    | true =>
      simp only [if_true]
      unfold lenF at ih ⊢
      simp only [List.map_cons, List.sum_cons, List.mem_cons, exists_eq_or_imp, hp]
      simp
      rw [← ih]
/-- whether anything is behind a number -/
theorem torn_dealt {N : Nat} {xs : List En} {rows : List (List UInt8)} (h : rows.length = N ∧ ∀ j r, rows[j]? = some r → r = rowE (part N xs j)) (hN : 0 < N) (hr : ∀ x ∈ xs, enRt x = true) (last : Int) : tornL rows last = xs.any fun x => decide (last < x.s) := by
  have key : ∀ j, (endL (rowE (part N xs j)) last < (rowE (part N xs j)).length ↔ ∃ x ∈ part N xs j, last < x.s) := by
    intro j
    have e := end_dealt (N := N) (j := j) (t := []) allL_nil hr last
    rw [List.append_nil] at e
    rw [e, rowE_len, lenF_while]
    simp
  rw [Bool.eq_iff_iff]
  unfold tornL
  simp only [List.any_eq_true, decide_eq_true_eq]
  constructor
  · rintro ⟨r, hm, hlt⟩
    obtain ⟨j, hj⟩ := List.getElem?_of_mem hm
    obtain rfl := h.2 j r hj
    obtain ⟨x, hx, hlt⟩ := (key j).1 hlt
    exact ⟨x, (List.mem_filter.1 hx).1, hlt⟩
  · rintro ⟨x, hx, hlt⟩
    have hj : x.s.toNat % N < rows.length := by rw [h.1]; exact Nat.mod_lt _ hN
    have e := h.2 _ _ (List.getElem?_eq_getElem hj)
    refine ⟨_, List.getElem_mem hj, ?_⟩
    rw [e]
    exact (key _).2 ⟨x, List.mem_filter.2 ⟨hx, by simp⟩, hlt⟩

/-! what is dealt -/
def pay (d : List UInt8) : List UInt8 := if d = [] then [0] else d.take 40
def ensF : Int → List (List UInt8) → List En
  | _, [] => []
  | s, d :: ds => ⟨3, s, pay d⟩ :: ensF (s + 1) ds
theorem ensF_len : ∀ (ds : List (List UInt8)) (s : Int), (ensF s ds).length = ds.length
  | [], _ => rfl
  | d :: ds, s => by simp [ensF, ensF_len ds]
theorem ensF_get : ∀ (ds : List (List UInt8)) (s : Int) (i : Nat) (d : List UInt8), ds[i]? = some d → (ensF s ds)[i]? = some ⟨3, s + (i : Nat), pay d⟩
  | [], _, _, _, h => by simp at h
  | d :: ds, s, 0, d', h => by simp at h; subst h; simp [ensF]
  | d :: ds, s, i + 1, d', h => by
    have := ensF_get ds (s + 1) i d' (by simpa using h)
    simp only [ensF, List.getElem?_cons_succ]
    rw [this, show s + 1 + (i : Nat) = s + ((i + 1 : Nat) : Int) by omega]
theorem ensF_mem {ds : List (List UInt8)} {s : Int} {x : En} (h : x ∈ ensF s ds) : ∃ i d, ds[i]? = some d ∧ x = ⟨3, s + (i : Nat), pay d⟩ := by
  obtain ⟨i, hi⟩ := List.getElem?_of_mem h
  have hl := (List.getElem?_eq_some_iff.1 hi).1
  rw [ensF_len] at hl
  refine ⟨i, ds[i], List.getElem?_eq_getElem hl, ?_⟩
  rw [ensF_get ds s i _ (List.getElem?_eq_getElem hl)] at hi
  exact (Option.some.inj hi).symm
theorem ensF_app : ∀ (a b : List (List UInt8)) (s : Int), ensF s (a ++ b) = ensF s a ++ ensF (s + (a.length : Nat)) b
  | [], b, s => by simp [ensF]
  | d :: a, b, s => by
    simp only [List.cons_append, ensF, ensF_app a b (s + 1), List.length_cons]
    rw [show s + 1 + (a.length : Nat) = s + ((a.length + 1 : Nat) : Int) by omega]
theorem pay_len (d : List UInt8) : 1 ≤ (pay d).length ∧ (pay d).length ≤ 40 := by
  unfold pay
  split
  · simp
  · rename_i h
    have : d.length ≠ 0 := fun e => h (List.eq_nil_of_length_eq_zero e)
    rw [List.length_take]
    omega
theorem ensF_right {ds : List (List UInt8)} {s : Int} (hs : 1 ≤ s) (hb : s ≤ 1000000) (hl : ds.length ≤ 1000) : ∀ x ∈ ensF s ds, enRt x = true := by
  intro x hx
  obtain ⟨i, d, hi, rfl⟩ := ensF_mem hx
  have := (List.getElem?_eq_some_iff.1 hi).1
  have hp := pay_len d
  exact rightN_iff.2 (by simp only; omega)
theorem part_app (N : Nat) (xs ys : List En) (j : Nat) : part N (xs ++ ys) j = part N xs j ++ part N ys j := by
  unfold part
  rw [List.filter_append]
/-- rows of entries by their numbers -/
def rowsOf (N : Nat) (xs : List En) : List (List UInt8) := (List.range N).map fun j => rowE (part N xs j)
theorem rowsOf_len (N : Nat) (xs : List En) : (rowsOf N xs).length = N := by simp [rowsOf]
theorem rowsOf_get {N : Nat} {xs : List En} {j : Nat} {r : List UInt8} (h : (rowsOf N xs)[j]? = some r) : r = rowE (part N xs j) := by
  unfold rowsOf at h
  rw [List.getElem?_map] at h
  cases e : (List.range N)[j]? with
  | none => rw [e] at h; cases h
  | some q =>
    rw [e] at h
    obtain ⟨h1, h2⟩ := List.getElem?_eq_some_iff.1 e
    simp at h2
    subst h2
    exact (Option.some.inj h).symm
theorem rowsOf_nil (N : Nat) : rowsOf N [] = List.replicate N [] := by
  unfold rowsOf
  rw [List.eq_replicate_iff]
  refine ⟨by simp, fun b hb => ?_⟩
  obtain ⟨j, _, rfl⟩ := List.mem_map.1 hb
  simp [part, rowE]
/-- one entry more -/
theorem rowsOf_next {N : Nat} {xs : List En} {x : En} {j : Nat} (hj : x.s.toNat % N = j) (hN : 0 < N) : rowsOf N (xs ++ [x]) = (rowsOf N xs).set j (rowE (part N xs j) ++ frE x) := by
  apply List.ext_getElem?
  intro i
  rw [List.getElem?_set]
  unfold rowsOf
  simp only [List.length_map, List.length_range, List.getElem?_map]
  by_cases e : j = i
  · subst e
    have hl : j < N := by rw [← hj]; exact Nat.mod_lt _ hN
    simp only [hl, if_true]
    rw [List.getElem?_eq_getElem (by simpa using hl)]
    simp only [List.getElem_range, Option.map_some]
    rw [part_app, rowE_app]
    congr 2
    unfold part rowE
    simp [hj]
  · rw [if_neg e]
    by_cases hl : i < N
    · rw [List.getElem?_eq_getElem (by simpa using hl)]
      simp only [List.getElem_range, Option.map_some]
      rw [part_app]
      have : part N [x] i = [] := by
        unfold part
        simp [hj, e]
      rw [this, List.append_nil]
    · rw [List.getElem?_eq_none (by simpa using hl)]
      rfl
theorem rowsOf_small {N : Nat} {xs : List En} {j : Nat} {r : List UInt8} (h : (rowsOf N xs)[j]? = some r) (hd : ∀ x ∈ xs, x.d.length ≤ 40) : r.length ≤ xs.length * 62 := by
  rw [rowsOf_get h, rowE_len]
  have : ∀ l : List En, (∀ x ∈ l, x.d.length ≤ 40) → lenF l ≤ l.length * 62 := by
    intro l
    induction l with
    | nil => intro _; simp [lenF]
    | cons x l ih =>
      intro hx
      have h1 := ih fun y hy => hx y (by simp [hy])
      have h2 := hx x (by simp)
      unfold lenF at h1 ⊢
      simp only [List.map_cons, List.sum_cons, List.length_cons]
      omega
  have h1 := this (part N xs j) (fun x hx => hd x (List.mem_filter.1 hx).1)
  have h2 : (part N xs j).length ≤ xs.length := List.length_filter_le _ _
  omega
theorem dealt_rows (N : Nat) (xs : List En) : Dealt N xs (rowsOf N xs) := ⟨rowsOf_len N xs, fun j r h => ⟨[], by rw [rowsOf_get h, List.append_nil], allL_nil⟩⟩
end Go.Proofs.Ytcchlkialgjamaa
