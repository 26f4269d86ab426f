/-
  Chains: how two histories lie to each other: plain lists, no program in sight.
-/
import Derived.Test.YtkoknleopmlhcaaChainPlain
import Derived.Test.YtkoknleopmlhcaaTagOf
import Derived.Test.YtkoknleopmlhcaaTagSame
namespace Go.Proofs.Ytkoknleopmlhcaa
open Go.RowKit
set_option linter.unusedVariables false

def headPt (tl : List Tg) (e : Int) : Int := match tl with | [] => e | y :: _ => y.pt
theorem alike_app : ∀ (xs tl : List Tg), alikeN xs (xs ++ tl) = xs.length
  | [], tl => by unfold alikeN; cases tl <;> rfl
  | x :: xs, tl => by rw [List.cons_append, alikeN, if_pos rfl, alike_app xs tl]; rfl
theorem alike_pre : ∀ (xs ys : List Tg), alikeN xs ys = xs.length → ∃ tl, ys = xs ++ tl
  | [], ys, _ => ⟨ys, rfl⟩
  | x :: xs, [], h => by simp [alikeN] at h
  | x :: xs, y :: ys, h => by
    rw [alikeN] at h
    split at h
    · rename_i e
      subst e
      obtain ⟨tl, e⟩ := alike_pre xs ys (by simpa using h)
      exact ⟨tl, by rw [e]; rfl⟩
    · simp at h
theorem alike_comm : ∀ (xs ys : List Tg), alikeN xs ys = alikeN ys xs
  | [], [] => rfl
  | [], y :: ys => rfl
  | x :: xs, [] => rfl
  | x :: xs, y :: ys => by
    rw [alikeN, alikeN, alike_comm xs ys]
    by_cases e : x = y
    · rw [if_pos e, if_pos e.symm]
    · rw [if_neg e, if_neg (fun h => e h.symm)]
theorem nextPt_app (xs tl : List Tg) (be : Int) : nextPt (xs ++ tl) xs.length be = headPt tl be := by
  unfold nextPt headPt
  rw [List.getElem?_append_right (Nat.le_refl _), Nat.sub_self]
  cases tl <;> rfl
theorem begins_iff {xs ys : List Tg} {ae be : Int} : beginsB xs ae ys be = true ↔ ∃ tl, ys = xs ++ tl ∧ ae ≤ headPt tl be := by
  unfold beginsB
  have hle := alikeN_le xs ys
  constructor
  · intro h
    split at h
    · cases h
    · obtain ⟨tl, rfl⟩ := alike_pre xs ys (by omega)
      rw [alike_app, nextPt_app] at h
      exact ⟨tl, rfl, by simpa using h⟩
  · rintro ⟨tl, rfl, h⟩
    rw [alike_app, if_neg (by omega), nextPt_app]
    simpa using h
theorem begins_refl {xs : List Tg} {ae be : Int} (h : ae ≤ be) : beginsB xs ae xs be = true := begins_iff.2 ⟨[], by simp, h⟩
theorem begins_trans {xs ys zs : List Tg} {a b c : Int} (h1 : beginsB xs a ys b = true) (h2 : beginsB ys b zs c = true) : beginsB xs a zs c = true := by
  obtain ⟨t1, rfl, g1⟩ := begins_iff.1 h1
  obtain ⟨t2, rfl, g2⟩ := begins_iff.1 h2
  clear h1 h2
  refine begins_iff.2 ⟨t1 ++ t2, by simp, ?_⟩
  cases t1 with
  | nil => exact Int.le_trans g1 g2
  | cons y t1 => exact g1
theorem begins_both {xs ys : List Tg} {a b : Int} (h1 : beginsB xs a ys b = true) (h2 : beginsB ys b xs a = true) : xs = ys ∧ a = b := by
  obtain ⟨t1, rfl, g1⟩ := begins_iff.1 h1
  obtain ⟨t2, e, g2⟩ := begins_iff.1 h2
  clear h1 h2
  have hl := congrArg List.length e
  simp at hl
  obtain rfl := hl.1
  obtain rfl := hl.2
  exact ⟨by simp, Int.le_antisymm g1 g2⟩
theorem begins_more {xs tl : List Tg} {a b : Int} (h : a ≤ headPt tl b) : beginsB xs a (xs ++ tl) b = true := begins_iff.2 ⟨tl, rfl, h⟩
theorem begins_long {xs tl : List Tg} {a b : Int} (h : tl ≠ []) : beginsB (xs ++ tl) a xs b = false := by
  cases e : beginsB (xs ++ tl) a xs b with
  | false => rfl
  | true =>
    obtain ⟨t, e1, _⟩ := begins_iff.1 e
    have := congrArg List.length e1
    simp at this
    exact absurd this.1 h

/-! verdicts -/
def judgeI (xs : List Tg) (ae : Int) (ys : List Tg) (be : Int) : Int := if beginsB xs ae ys be = true then 2 else if beginsB ys be xs ae = true then 1 else 3

/-! the fork -/
theorem capPt_comm (xs ys : List Tg) (k : Nat) (e : Int) : capPt ys k (capPt xs k e) = capPt xs k (capPt ys k e) := by
  unfold capPt
  cases xs[k]? <;> cases ys[k]? <;> simp only [] <;> omega
theorem forkI_comm (xs ys : List Tg) (ae be : Int) : forkI xs ae ys be = forkI ys be xs ae := by
  unfold forkI
  rw [alike_comm ys xs, capPt_comm xs ys, Int.min_comm ae be]
theorem capPt_le (xs : List Tg) (k : Nat) (e : Int) : capPt xs k e ≤ e := by
  unfold capPt
  split <;> omega
theorem forkI_le {xs ys : List Tg} {ae be : Int} (ha : 0 ≤ ae) (hb : 0 ≤ be) : 0 ≤ forkI xs ae ys be ∧ forkI xs ae ys be ≤ ae ∧ forkI xs ae ys be ≤ be := by
  have h1 := capPt_le ys (alikeN xs ys) (capPt xs (alikeN xs ys) (min ae be))
  have h2 := capPt_le xs (alikeN xs ys) (min ae be)
  unfold forkI
  omega
theorem alike_take : ∀ (xs ys : List Tg), xs.take (alikeN xs ys) = ys.take (alikeN xs ys)
  | [], ys => by unfold alikeN; cases ys <;> rfl
  | x :: xs, [] => by unfold alikeN; rfl
  | x :: xs, y :: ys => by
    rw [alikeN]
    split
    · rename_i e
      rw [List.take_succ_cons, List.take_succ_cons, e, alike_take xs ys]
    · rfl
theorem of_fork {xs : List Tg} {e : Int} (h : Grown xs e) {k : Nat} {s : Int} (hs : ∀ x, xs[k]? = some x → s ≤ x.pt) : ofI xs s 0 = ofI (xs.take k) s 0 := by
  refine ofI_back xs.length k (by omega) fun j y hj hy => ?_
  have hjl := (List.getElem?_eq_some_iff.1 hy).1
  obtain ⟨x, hx⟩ : ∃ x, xs[k]? = some x := ⟨_, List.getElem?_eq_getElem (by omega : k < xs.length)⟩
  have h1 := hs x hx
  rcases Nat.lt_or_eq_of_le hj with hlt | rfl
  · have hpw := List.pairwise_iff_getElem.1 h.pw k j (by omega) hjl hlt
    obtain ⟨_, e1⟩ := List.getElem?_eq_some_iff.1 hx
    obtain ⟨_, e2⟩ := List.getElem?_eq_some_iff.1 hy
    rw [e1, e2] at hpw
    omega
  · rw [hx] at hy
    injection hy with hy
    subst hy
    omega
theorem fork_pt {xs ys : List Tg} {ae be s : Int} (hs : s ≤ forkI xs ae ys be) (h0 : 0 < s) : (∀ x, xs[alikeN xs ys]? = some x → s ≤ x.pt) ∧ ∀ y, ys[alikeN xs ys]? = some y → s ≤ y.pt := by
  have h1 := capPt_le ys (alikeN xs ys) (capPt xs (alikeN xs ys) (min ae be))
  have hx : ∀ x, xs[alikeN xs ys]? = some x → capPt xs (alikeN xs ys) (min ae be) ≤ x.pt := fun x hx => by unfold capPt; rw [hx]; simp only; omega
  have hy : ∀ y, ys[alikeN xs ys]? = some y → capPt ys (alikeN xs ys) (capPt xs (alikeN xs ys) (min ae be)) ≤ y.pt := fun y hy => by unfold capPt; rw [hy]; simp only; omega
  unfold forkI at hs
  exact ⟨fun x e => by have := hx x e; omega, fun y e => by have := hy y e; omega⟩
theorem of_same {xs ys : List Tg} {e f ae be s : Int} (hx : Grown xs e) (hy : Grown ys f) (h0 : 0 < s) (hs : s ≤ forkI xs ae ys be) : ofI xs s 0 = ofI ys s 0 := by
  obtain ⟨h1, h2⟩ := fork_pt hs h0
  rw [of_fork hx h1, of_fork hy h2, alike_take]
theorem ofI_pos : ∀ (xs : List Tg) (s d : Int), (∀ x ∈ xs, 1 ≤ x.id) → 1 ≤ d → 1 ≤ ofI xs s d
  | [], _, _, _, h => h
  | x :: xs, s, d, hx, h => by
    rw [ofI]
    refine ofI_pos xs s _ (fun y hy => hx y (by simp [hy])) ?_
    have := hx x (by simp)
    split <;> omega
theorem of_some {xs : List Tg} {e s : Int} (h : Grown xs e) (h0 : 0 < s) : 1 ≤ ofI xs s 0 := by
  obtain ⟨tl, rfl⟩ := h.head
  rw [ofI, if_pos (by show (0 : Int) < s; exact h0)]
  exact ofI_pos _ _ _ (fun y hy => (h.ok y (by simp [hy])).1) (by simp [tag1])
theorem ofI_zero : ∀ (xs : List Tg) (s d : Int), (∀ x ∈ xs, s ≤ x.pt) → ofI xs s d = d
  | [], _, _, _ => rfl
  | x :: xs, s, d, h => by
    rw [ofI, if_neg (by have := h x (by simp); omega)]
    exact ofI_zero xs s d fun y hy => h y (by simp [hy])
theorem of_zero {xs : List Tg} {e : Int} (h : Grown xs e) : ofI xs 0 0 = 0 := ofI_zero _ _ _ fun x hx => (h.ok x hx).2.1
theorem fork_begins {xs ys : List Tg} {m n : Int} (hy : Grown ys n) (hm : 0 ≤ m) (h : beginsB xs m ys n = true) : forkI xs m ys n = m := by
  obtain ⟨tl, rfl, h1⟩ := begins_iff.1 h
  unfold forkI
  rw [alike_app]
  unfold capPt
  rw [List.getElem?_eq_none (Nat.le_refl _), List.getElem?_append_right (Nat.le_refl _), Nat.sub_self]
  cases tl with
  | nil =>
    simp only [headPt] at h1
    simp only [List.getElem?_nil]
    omega
  | cons y tl =>
    have := (hy.ok y (by simp)).2.2.1
    simp only [headPt] at h1
    simp only [List.getElem?_cons_zero]
    omega

/-! chains cut -/
def cutL : List Tg → Int → List Tg
  | [], _ => []
  | x :: xs, e => if x.pt ≤ e then x :: cutL xs e else []
theorem cutL_pre : ∀ (xs : List Tg) (e : Int), ∃ tl, xs = cutL xs e ++ tl ∧ ∀ y zs, tl = y :: zs → e < y.pt
  | [], e => ⟨[], rfl, by simp⟩
  | x :: xs, e => by
    rw [cutL]
    split
    · obtain ⟨tl, h1, h2⟩ := cutL_pre xs e
      exact ⟨tl, by rw [List.cons_append, ← h1], h2⟩
    · rename_i h
      refine ⟨x :: xs, rfl, fun y zs e1 => ?_⟩
      injection e1 with e1
      subst e1
      omega
theorem cutL_begins {xs : List Tg} {e m : Int} (h : e ≤ m) : beginsB (cutL xs e) e xs m = true := by
  obtain ⟨tl, h1, h2⟩ := cutL_pre xs e
  refine begins_iff.2 ⟨tl, h1, ?_⟩
  cases tl with
  | nil => exact h
  | cons y tl => exact Int.le_of_lt (h2 y tl rfl)
theorem begins_cut {xs : List Tg} {j : Nat} {k e : Int} (hj : j ≤ xs.length) (hk : k ≤ e) (hp : ∀ y, xs[j]? = some y → k ≤ y.pt) : beginsB (xs.take j) k xs e = true := by
  refine begins_iff.2 ⟨xs.drop j, (List.take_append_drop _ _).symm, ?_⟩
  cases hd : xs.drop j with
  | nil => exact hk
  | cons y tl =>
    refine hp y ?_
    have : (xs.drop j)[0]? = some y := by rw [hd]; rfl
    rwa [List.getElem?_drop] at this
end Go.Proofs.Ytkoknleopmlhcaa
