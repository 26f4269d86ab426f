/-
  Images with snapshots, event by event: what stays right, what a snapshot keeps; plain.
-/
import Derived.Test.YtcklkjklepmabaaZRightPlain
import Derived.Test.YtcklkjklepmabaaZStNew
import Derived.Test.YtcklkjklepmabaaZRead
import Derived.Test.YtcklkjklepmabaaZFoldPlain
namespace Go.Proofs.Ytcklkjklepmabaa
open Go.RowKit
set_option linter.unusedVariables false

/-- the names of the snapshots are unlike -/
def apartS (sn : List Ol) : Prop := sn.Pairwise fun a b => a.nm ≠ b.nm
theorem right_iff {st : St} : rightS st = true ↔ (∀ x ∈ st.sn, nameB x.nm = true ∧ x.d.length ≤ 512) ∧ apartS st.sn ∧ st.d.length ≤ 512 ∧ st.sn.length ≤ 8 := by
  unfold rightS apartS
  rw [Bool.and_eq_true, Bool.and_eq_true, decide_eq_true_eq, decide_eq_true_eq, decide_eq_true_eq]
  constructor
  · rintro ⟨h, h1, h2⟩
    refine ⟨fun x hx => ?_, ?_, h1, h2⟩
    · obtain ⟨k, hk, rfl⟩ := List.mem_iff_getElem.1 hx
      have := h k hk
      simp only [okO, Bool.and_eq_true, decide_eq_true_eq] at this
      exact this.1
    · rw [List.pairwise_iff_getElem]
      intro i j hi hj hij
      have := h j hj
      simp only [okO, Bool.and_eq_true, decide_eq_true_eq] at this
      exact (find_first (List.getElem?_eq_getElem hj) rfl).1 this.2 i hij _ (List.getElem?_eq_getElem hi)
  · rintro ⟨h, hp, h1, h2⟩
    refine ⟨fun k hk => ?_, h1, h2⟩
    simp only [okO, Bool.and_eq_true, decide_eq_true_eq]
    refine ⟨h _ (List.getElem_mem hk), (find_first (List.getElem?_eq_getElem hk) rfl).2 fun j hj y hy => ?_⟩
    obtain ⟨hj', rfl⟩ := List.getElem?_eq_some_iff.1 hy
    exact List.pairwise_iff_getElem.1 hp j k hj' hk hj
abbrev lookO (sn : List Ol) (s : ByteArray) : Option Ol := sn.find? fun y => decide (y.nm = s)
theorem find_look : ∀ (xs : List Ol) (s : ByteArray) (b : Nat), (findF xs s b < 0 ∧ lookO xs s = none) ∨ ∃ p x, findF xs s b = ((b + p : Nat) : Int) ∧ xs[p]? = some x ∧ x.nm = s ∧ lookO xs s = some x
  | [], s, b => .inl ⟨by simp [findF], rfl⟩
  | x :: xs, s, b => by
    rw [findF]
    by_cases h : x.nm = s
    · rw [if_pos h]
      exact .inr ⟨0, x, rfl, rfl, h, by simp [lookO, h]⟩
    · rw [if_neg h]
      have e : lookO (x :: xs) s = lookO xs s := by simp [lookO, h]
      rw [e]
      rcases find_look xs s (b + 1) with h1 | ⟨p, y, h1, h2, h3, h4⟩
      · exact .inl h1
      · exact .inr ⟨p + 1, y, by rw [h1]; congr 1; omega, by simpa using h2, h3, h4⟩
theorem find_none {sn : List Ol} {s : ByteArray} (h : findI sn s < 0) : ∀ x ∈ sn, x.nm ≠ s := by
  rcases find_look sn s 0 with ⟨_, h2⟩ | ⟨p, x, h1, _⟩
  · intro x hx
    have := List.find?_eq_none.1 h2 x hx
    simpa using this
  · unfold findI at h
    omega
theorem okS_right {st : St} (h : rightS st = true) : okS st := by
  obtain ⟨h1, _, h2, h3⟩ := right_iff.1 h
  exact ⟨by omega, by omega, fun x hx => by have := (h1 x hx).2; omega⟩
theorem right_new (z : Int) : rightS (newS z) = true := by
  rw [right_iff]
  refine ⟨fun x hx => by simp [newS] at hx, .nil, ?_, by simp [newS]⟩
  simp [newS, newN]
  omega
theorem right_apply {st : St} {k o m : Int} {l : List UInt8} {s : ByteArray} (h : rightS st = true) (hc : checkN st k o m l.length s = 0) : rightS (applyS st k o m l s) = true := by
  obtain ⟨hn, hp, h1, h2⟩ := right_iff.1 h
  have hre := check_right hc
  have hpl : (k = 1 ∨ k = 2 ∨ k = 3) → plainE k o m l.length s = true := fun hk => by unfold plainE; rw [hre]; simpa using hk
  have hfit : (k = 1 ∨ k = 2 ∨ k = 3) → ¬ (st.d.length : Int) < spanO k o m l.length s + spanN k o m l.length s := fun hk hh => by
    rw [check_span hre hk, if_pos hh] at hc
    cases hc
  rw [right_iff]
  rcases right_cases hre with ⟨rfl, _, ⟨q1, q2, q3, q4⟩, _⟩ | ⟨hk, _, ⟨q1, q2, q3, q4⟩, _⟩ | ⟨rfl, _, _, q1, q2, _⟩ | ⟨hk, _, _, _, hnm⟩ | ⟨rfl, _⟩
  · have hf := hfit (.inl rfl)
    unfold spanO spanN at hf
    rw [if_pos (hpl (.inl rfl)), if_pos (hpl (.inl rfl)), if_pos rfl] at hf
    have e : applyS st 1 o m l s = ⟨over st.d o.toNat l, st.sn⟩ := by simp [applyS]
    rw [e]
    refine ⟨hn, hp, ?_, h2⟩
    simp only
    rw [over_length (by omega)]
    exact h1
  · have hf := hfit (.inr hk)
    unfold spanO spanN at hf
    rw [if_pos (hpl (.inr hk)), if_pos (hpl (.inr hk)), if_neg (by omega)] at hf
    have e : applyS st k o m l s = ⟨over st.d o.toNat (List.replicate m.toNat 0), st.sn⟩ := by unfold applyS; rw [if_neg (by omega), if_pos hk]
    rw [e]
    refine ⟨hn, hp, ?_, h2⟩
    simp only
    rw [over_length (by simp; omega)]
    exact h1
  · have e : applyS st 4 o m l s = ⟨sizedL st.d m.toNat, st.sn⟩ := by simp [applyS]
    rw [e]
    refine ⟨hn, hp, ?_, h2⟩
    simp only
    rw [sized_length]
    omega
  · rcases hk with rfl | rfl | rfl
    · have e : applyS st 5 o m l s = ⟨st.d, st.sn ++ [⟨s, st.d⟩]⟩ := by simp [applyS]
      rw [e]
      rw [check_snap hre] at hc
      split at hc
      · cases hc
      · rename_i hlt
        split at hc
        · cases hc
        · refine ⟨fun x hx => ?_, ?_, h1, by simp; omega⟩
          · rcases List.mem_append.1 hx with hx | hx
            · exact hn x hx
            · simp at hx; subst hx; exact ⟨hnm, h1⟩
          · unfold apartS
            rw [List.pairwise_append]
            refine ⟨hp, by simp, fun a ha b hb => ?_⟩
            simp at hb
            subst hb
            exact find_none (Int.not_le.1 hlt) a ha
    · have e : applyS st 6 o m l s = ⟨st.d, st.sn.take (findN st s) ++ st.sn.drop (findN st s + 1)⟩ := by simp [applyS]
      rw [e, ← List.eraseIdx_eq_take_drop_succ]
      have hsub := List.eraseIdx_sublist st.sn (findN st s)
      exact ⟨fun x hx => hn x (hsub.subset hx), hp.sublist hsub, h1, by have := hsub.length_le; simp only; omega⟩
    · have e : applyS st 7 o m l s = ⟨(st.sn.getD (findN st s) ⟨s, []⟩).d, st.sn⟩ := by simp [applyS]
      rw [e]
      refine ⟨hn, hp, ?_, h2⟩
      simp only
      rw [List.getD_eq_getElem?_getD]
      cases hx : st.sn[findN st s]? with
      | none => simp
      | some x => exact (hn x (List.mem_of_getElem? hx)).2
  · have e : applyS st 8 o m l s = st := by simp [applyS]
    rw [e]
    exact ⟨hn, hp, h1, h2⟩
theorem right_step {st : St} {e : Ev} (h : rightS st = true) : rightS (stepS st e) = true := by
  unfold stepS
  split
  · rename_i hc; exact right_apply h hc
  · exact h
theorem right_fold {st : St} (h : rightS st = true) : ∀ l : List Ev, rightS (foldS st l) = true := by
  intro l
  unfold foldS
  induction l generalizing st with
  | nil => exact h
  | cons x xs ih => exact ih (right_step h)
theorem fold_append (st : St) (a b : List Ev) : foldS st (a ++ b) = foldS (foldS st a) b := List.foldl_append
theorem fold_one (st : St) (e : Ev) : foldS st [e] = stepS st e := rfl
theorem step_yes {st : St} {e : Ev} (h : checkN st e.k e.o e.m e.l.length e.s = 0) : stepS st e = applyS st e.k e.o e.m e.l e.s := if_pos h
theorem step_no {st : St} {e : Ev} (h : checkN st e.k e.o e.m e.l.length e.s ≠ 0) : stepS st e = st := if_neg h

/-- a snapshot of a name holds these bytes -/
def keptS (st : St) (s : ByteArray) (d : List UInt8) : Prop := ∃ x, lookO st.sn s = some x ∧ x.d = d
theorem kept_at {st : St} {s : ByteArray} {d : List UInt8} (h : keptS st s d) : ∃ (p : Nat) (x : Ol), findI st.sn s = (p : Int) ∧ st.sn[p]? = some x ∧ x.d = d := by
  obtain ⟨x, h1, h2⟩ := h
  rcases find_look st.sn s 0 with ⟨_, h3⟩ | ⟨p, y, h3, h4, _, h5⟩
  · rw [h1] at h3; cases h3
  · rw [h1] at h5
    cases h5
    exact ⟨p, x, by unfold findI; rw [h3, Nat.zero_add], h4, h2⟩
theorem kept_getD {st : St} {s : ByteArray} {d : List UInt8} (h : keptS st s d) : (st.sn.getD (findN st s) ⟨s, []⟩).d = d := by
  obtain ⟨p, x, h1, h2, h3⟩ := kept_at h
  unfold findN
  rw [h1, Int.toNat_natCast, List.getD_eq_getElem?_getD, h2]
  exact h3
theorem look_erase {s t : ByteArray} (hst : t ≠ s) : ∀ (xs : List Ol) (p : Nat), (∀ x, xs[p]? = some x → x.nm = t) → lookO (xs.eraseIdx p) s = lookO xs s
  | [], p, h => by simp
  | x :: xs, 0, h => by
    have := h x rfl
    simp [lookO, this, hst]
  | x :: xs, p + 1, h => by
    have ih := look_erase hst xs p fun y hy => h y (by simpa using hy)
    simp only [lookO] at ih ⊢
    simp only [List.eraseIdx_cons_succ, List.find?_cons, ih]
theorem kept_step {st : St} {e : Ev} {s : ByteArray} {d : List UInt8} (h : keptS st s d) (hne : e.k ≠ 6 ∨ e.s ≠ s) : keptS (stepS st e) s d := by
  unfold stepS
  split
  · rename_i hc
    obtain ⟨x, h1, h2⟩ := h
    refine ⟨x, ?_, h2⟩
    unfold applyS
    split
    · exact h1
    split
    · exact h1
    split
    · exact h1
    split
    · simp only [lookO, List.find?_append]
      rw [show st.sn.find? (fun y => decide (y.nm = s)) = some x from h1]
      rfl
    split
    · rename_i h6
      have hne' : e.s ≠ s := by rcases hne with h | h; exact absurd h6 h; exact h
      simp only
      rw [← List.eraseIdx_eq_take_drop_succ, look_erase hne' _ _ fun y hy => ?_]
      · exact h1
      · rcases find_look st.sn e.s 0 with ⟨h3, _⟩ | ⟨p, z, h3, h4, h5, _⟩
        · rw [check_gone (check_right hc) (.inl h6), if_pos (show findI st.sn e.s < 0 from h3)] at hc
          cases hc
        · have : findN st e.s = p := by unfold findN findI; rw [h3]; omega
          rw [this, h4] at hy
          cases hy
          exact h5
    split
    · exact h1
    · exact h1
  · exact h
theorem kept_read {st : St} {s : ByteArray} {d : List UInt8} (h : keptS st s d) (hs : s ≠ ⟨#[]⟩) : readN st s 0 d.length = 0 ∧ readL st s 0 d.length = d := by
  obtain ⟨p, x, h1, h2, h3⟩ := kept_at h
  have hd : readD st s = d := by unfold readD; rw [if_neg hs]; exact kept_getD h
  have h0 : readN st s 0 d.length = 0 := by
    unfold readN
    rw [if_neg (by omega), if_neg (by omega), if_neg (by rw [hd]; omega)]
  refine ⟨h0, ?_⟩
  unfold readL
  rw [if_pos h0, hd]
  simp
theorem right_roll {s : ByteArray} {k : Int} (hk : k = 5 ∨ k = 6 ∨ k = 7) (hn : nameB s = true) : rightE k 0 0 0 s = true := by
  unfold rightE
  rw [if_neg (by omega), if_neg (by omega), if_neg (by omega), if_pos hk]
  simp [hn]
theorem kept_roll {st : St} {s : ByteArray} {d : List UInt8} (h : keptS st s d) (hn : nameB s = true) : checkN st 7 0 0 0 s = 0 ∧ applyS st 7 0 0 [] s = ⟨d, st.sn⟩ := by
  obtain ⟨p, x, h1, h2, h3⟩ := kept_at h
  constructor
  · rw [check_gone (right_roll (by omega) hn) (by omega), if_neg (by omega)]
  · simp only [applyS]
    simp only [show ¬ (7 : Int) = 1 by omega, show ¬ ((7 : Int) = 2 ∨ (7 : Int) = 3) by omega, show ¬ (7 : Int) = 4 by omega, show ¬ (7 : Int) = 5 by omega, show ¬ (7 : Int) = 6 by omega, if_false, if_true]
    rw [kept_getD h]
theorem snap_made {st : St} {s : ByteArray} (hn : nameB s = true) (hc : checkN st 5 0 0 0 s = 0) : keptS (applyS st 5 0 0 [] s) s st.d := by
  refine ⟨⟨s, st.d⟩, ?_, rfl⟩
  rw [check_snap (right_roll (by omega) hn)] at hc
  split at hc
  · cases hc
  · rename_i h
    rcases find_look st.sn s 0 with ⟨_, h2⟩ | ⟨p, x, h1, _⟩
    · have e : applyS st 5 0 0 [] s = ⟨st.d, st.sn ++ [⟨s, st.d⟩]⟩ := by simp [applyS]
      rw [e]
      simp only [lookO] at h2 ⊢
      rw [List.find?_append, h2]
      simp
    · exact absurd (show 0 ≤ findI st.sn s by unfold findI; omega) h
theorem snap_no {st : St} {s : ByteArray} (hn : nameB s = true) (hc : checkN st 5 0 0 0 s ≠ 0) : (checkN st 5 0 0 0 s = 6 ∨ checkN st 5 0 0 0 s = 5) ∧ 0 < st.sn.length := by
  rw [check_snap (right_roll (by omega) hn)] at hc ⊢
  split
  · rename_i h
    refine ⟨.inr rfl, ?_⟩
    cases hs : st.sn with
    | nil => rw [hs] at h; simp [findI, findF] at h
    | cons x xs => simp
  · rename_i h
    rw [if_neg h] at hc
    split
    · exact ⟨.inl rfl, by omega⟩
    · rename_i h2; rw [if_neg h2] at hc; exact absurd rfl hc
/-- what a nought answers -/
def noughtN (n : Nat) (o m : Nat) : Nat := if o + m ≤ n then 0 else if o + m ≤ 512 then 3 else 1
theorem nought_right {o m : Nat} {k : Int} (hk : k = 2 ∨ k = 3) (hm : 1 ≤ m ∧ m ≤ 64) : rightE k o m 0 ⟨#[]⟩ = decide (o + m ≤ 512) := by
  unfold rightE within
  rw [if_neg (by omega), if_pos hk, show (⟨#[]⟩ : ByteArray).toList = [] by rw [ByteArray.toList_eq]]
  simp
  rw [Bool.eq_iff_iff]
  simp
  omega
theorem nought_write {o m : Nat} (hm : 1 ≤ m ∧ m ≤ 64) : rightE 1 o 0 m ⟨#[]⟩ = decide (o + m ≤ 512) := by
  unfold rightE within
  rw [if_pos rfl, show (⟨#[]⟩ : ByteArray).toList = [] by rw [ByteArray.toList_eq]]
  simp
  rw [Bool.eq_iff_iff]
  simp
  omega
theorem nought_check {st : St} {o m : Nat} {k : Int} (hl : st.d.length ≤ 512) (hk : k = 2 ∨ k = 3) (hm : 1 ≤ m ∧ m ≤ 64) : checkN st k o m 0 ⟨#[]⟩ = noughtN st.d.length o m := by
  have hr := nought_right (o := o) hk hm
  unfold noughtN
  by_cases h : o + m ≤ 512
  · rw [decide_eq_true h] at hr
    have hp : plainE k o m 0 ⟨#[]⟩ = true := by unfold plainE; rw [hr]; simp; omega
    rw [check_span hr (by omega)]
    unfold spanO spanN
    rw [if_pos hp, if_pos hp, if_neg (show ¬ k = 1 by omega), if_pos h]
    by_cases h3 : o + m ≤ st.d.length
    · rw [if_pos h3, if_neg (by omega)]
    · rw [if_neg h3, if_pos (by omega)]
  · rw [decide_eq_false h] at hr
    rw [check_wrong hr, if_neg (by omega), if_neg h]
theorem nought_checkW {st : St} {o m : Nat} (hl : st.d.length ≤ 512) (hm : 1 ≤ m ∧ m ≤ 64) : checkN st 1 o 0 m ⟨#[]⟩ = noughtN st.d.length o m := by
  have hr := nought_write (o := o) hm
  unfold noughtN
  by_cases h : o + m ≤ 512
  · rw [decide_eq_true h] at hr
    have hp : plainE 1 o 0 m ⟨#[]⟩ = true := by unfold plainE; rw [hr]; simp
    rw [check_span hr (by omega)]
    unfold spanO spanN
    rw [if_pos hp, if_pos hp, if_pos rfl, if_pos h]
    by_cases h3 : o + m ≤ st.d.length
    · rw [if_pos h3, if_neg (by omega)]
    · rw [if_neg h3, if_pos (by omega)]
  · rw [decide_eq_false h] at hr
    rw [check_wrong hr, if_neg (by omega), if_neg h]
theorem nought_apply {r : Nat} {st : St} {o m : Nat} {k : Int} (hk : k = 2 ∨ k = 3) : appliedS r st k o m [] ⟨#[]⟩ = appliedS r st 1 o 0 (List.replicate m 0) ⟨#[]⟩ := by
  have e1 : applyS st k o m [] ⟨#[]⟩ = ⟨over st.d o (List.replicate m 0), st.sn⟩ := by
    unfold applyS
    rw [if_neg (show ¬ k = 1 by omega), if_pos hk]
    simp
  have e2 : applyS st 1 o 0 (List.replicate m 0) ⟨#[]⟩ = ⟨over st.d o (List.replicate m 0), st.sn⟩ := by simp [applyS]
  unfold appliedS
  rw [e1, e2]
theorem resize_check {st : St} {m : Nat} (hm : m ≤ 512) : checkN st 4 0 m 0 ⟨#[]⟩ = 0 := by
  have hr : rightE 4 0 m 0 ⟨#[]⟩ = true := by
    unfold rightE
    rw [if_neg (by omega), if_neg (by omega), if_pos rfl, show (⟨#[]⟩ : ByteArray).toList = [] by rw [ByteArray.toList_eq]]
    simp
    omega
  rw [check_none hr (by omega)]
theorem resize_step {st : St} {m : Nat} (hm : m ≤ 512) : stepS st ⟨4, 0, m, [], ⟨#[]⟩⟩ = ⟨sizedL st.d m, st.sn⟩ := by
  rw [step_yes (resize_check hm)]
  simp [applyS]
theorem resize_back {st : St} {o m : Nat} (ho : o ≤ 512) (hm : m ≤ 512) : foldS st [⟨4, 0, o, [], ⟨#[]⟩⟩, ⟨4, 0, m, [], ⟨#[]⟩⟩] = ⟨sizedL (sizedL st.d o) m, st.sn⟩ := by
  show stepS (stepS st _) _ = _
  rw [resize_step ho, resize_step hm]
theorem sized_get {l : List UInt8} {m i : Nat} (hi : i < m) : (sizedL l m).getD i 0 = l.getD i 0 := by
  unfold sizedL
  simp only [List.getD_eq_getElem?_getD, List.getElem?_append, List.length_take, List.getElem?_take, List.getElem?_replicate]
  by_cases h : i < l.length
  · rw [if_pos (by omega), if_pos hi]
  · rw [if_neg (by omega), List.getElem?_eq_none (by omega)]
    split <;> rfl
theorem resize_get {d : List UInt8} {o i : Nat} (hi : i < d.length) : (sizedL (sizedL d o) d.length).getD i 0 = if i < o then d.getD i 0 else 0 := by
  rw [sized_get hi]
  split
  · rename_i h; exact sized_get h
  · rename_i h
    rw [List.getD_eq_getElem?_getD, List.getElem?_eq_none (by rw [sized_length]; omega)]
    rfl
end Go.Proofs.Ytcklkjklepmabaa
