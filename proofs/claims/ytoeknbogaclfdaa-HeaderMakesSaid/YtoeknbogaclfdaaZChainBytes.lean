/-
  Chains in bytes: what is put is got. Lists of bytes alone.
-/
import Derived.Test.YtoeknbogaclfdaaZChainPlain
import Derived.Test.YtoeknbogaclfdaaZVarBack
namespace Go.Proofs.Ytoeknbogaclfdaa
open Go.RowKit
set_option linter.unusedVariables false

def tgNs (t : Tg) : List Int := [t.id, t.ow, t.he, t.pt]
def varsL : List Int → List UInt8
  | [] => []
  | k :: ks => varl k.toNat ++ varsL ks
theorem varsL_append : ∀ (ks ms : List Int), varsL (ks ++ ms) = varsL ks ++ varsL ms
  | [], ms => rfl
  | k :: ks, ms => by rw [List.cons_append, varsL, varsL, varsL_append ks ms, List.append_assoc]
theorem varsL_len : ∀ (ks : List Int), ks.length ≤ (varsL ks).length ∧ (varsL ks).length ≤ 9 * ks.length
  | [] => by simp [varsL]
  | k :: ks => by
    have := varsL_len ks
    have := varl_length k.toNat
    simp only [varsL, List.length_append, List.length_cons]
    omega
def allNs : List Tg → List Int
  | [] => []
  | t :: ts => tgNs t ++ allNs ts
theorem allNs_append : ∀ (xs ys : List Tg), allNs (xs ++ ys) = allNs xs ++ allNs ys
  | [], ys => rfl
  | x :: xs, ys => by rw [List.cons_append, allNs, allNs, allNs_append xs ys, List.append_assoc]
theorem allNs_len : ∀ (xs : List Tg), (allNs xs).length = 4 * xs.length
  | [] => rfl
  | x :: xs => by
    have := allNs_len xs
    simp only [allNs, tgNs, List.length_append, List.length_cons, List.length_nil]
    omega
def putTs (l : List Tg) : List UInt8 := varsL (allNs l)
def putL (l : List Tg) : List UInt8 := varl l.length ++ putTs l
theorem putTs_next {xs : List Tg} {k : Nat} {x : Tg} (hx : xs[k]? = some x) : putTs (xs.take (k + 1)) = putTs (xs.take k) ++ varsL (tgNs x) := by
  unfold putTs
  rw [List.take_add_one, hx, allNs_append, varsL_append]
  simp [allNs]
theorem putL_len (l : List Tg) : 1 ≤ (putL l).length ∧ (putL l).length ≤ 9 + 36 * l.length := by
  have h1 := varl_length l.length
  have h2 := varsL_len (allNs l)
  have h3 := allNs_len l
  unfold putL putTs
  rw [List.length_append]
  omega

/-- so many numbers, one behind the other -/
def numsF : Nat → List UInt8 → Int → Option (List Int × Int)
  | 0, _, a => some ([], a)
  | f + 1, b, a => if gvC b a = true then (numsF f b (gvB b a)).map fun p => (gvA b a :: p.1, p.2) else none
theorem numsF_len : ∀ (f : Nat) (b : List UInt8) (a : Int) (p : List Int × Int), numsF f b a = some p → p.1.length = f
  | 0, b, a, p, h => by
    simp [numsF] at h
    subst h
    rfl
  | f + 1, b, a, p, h => by
    rw [numsF] at h
    split at h
    · cases hq : numsF f b (gvB b a) with
      | none => simp [hq] at h
      | some q =>
        simp [hq] at h
        subst h
        simp [numsF_len f b _ q hq]
    · cases h
theorem gv_vals {b : List UInt8} {a : Int} {k n : Nat} (h : gvN b a = some (k, n)) : gvA b a = k ∧ gvB b a = a + n ∧ gvC b a = true := by
  unfold gvA gvB gvC
  rw [h]
  exact ⟨rfl, rfl, rfl⟩
theorem nums_there : ∀ (ks : List Int) (b pre r : List UInt8) (a : Int), (∀ k ∈ ks, 0 ≤ k ∧ k ≤ 9223372036854775807) → b = pre ++ varsL ks ++ r → a = (pre.length : Int) → numsF ks.length b a = some (ks, a + ((varsL ks).length : Int))
  | [], b, pre, r, a, _, hb, ha => by simp [numsF, varsL]
  | k :: ks, b, pre, r, a, hk, hb, ha => by
    have h1 := hk k (by simp)
    have hg := gv_there' (b := b) (a := pre) (r := varsL ks ++ r) (k := k.toNat) (i := a) (by rw [hb, varsL]; simp) ha (by omega)
    obtain ⟨e1, e2, e3⟩ := gv_vals hg
    have ih := nums_there ks b (pre ++ varl k.toNat) r (a + ((varl k.toNat).length : Int)) (fun y hy => hk y (by simp [hy])) (by rw [hb, varsL]; simp) (by rw [ha, List.length_append]; omega)
    rw [List.length_cons, numsF, if_pos e3, e2, ih, e1, varsL, List.length_append]
    simp only [Option.map_some, Option.some.injEq, Prod.mk.injEq, List.cons.injEq, and_true]
    omega
def tgOf (l : List Int) : Tg := ⟨l.getD 0 0, l.getD 1 0, l.getD 2 0, l.getD 3 0⟩
theorem tgOf_ns (t : Tg) : tgOf (tgNs t) = t := rfl
/-- so many tags, one behind the other -/
def tgsF : Nat → List UInt8 → Int → Option (List Tg)
  | 0, _, _ => some []
  | f + 1, b, a => match numsF 4 b a with | some p => (tgsF f b p.2).map fun l => tgOf p.1 :: l | none => none
theorem tgs_there : ∀ (l : List Tg) (b pre r : List UInt8) (a : Int), (∀ k ∈ allNs l, 0 ≤ k ∧ k ≤ 9223372036854775807) → b = pre ++ putTs l ++ r → a = (pre.length : Int) → tgsF l.length b a = some l
  | [], b, pre, r, a, _, hb, ha => rfl
  | t :: ts, b, pre, r, a, hk, hb, ha => by
    have hn := nums_there (tgNs t) b pre (putTs ts ++ r) a (fun k h => hk k (by simp [allNs, h])) (by rw [hb, putTs, putTs, allNs, varsL_append]; simp) ha
    have ih := tgs_there ts b (pre ++ varsL (tgNs t)) r (a + ((varsL (tgNs t)).length : Int)) (fun k h => hk k (by simp [allNs, h])) (by rw [hb, putTs, putTs, allNs, varsL_append]; simp) (by rw [ha, List.length_append]; omega)
    rw [List.length_cons, tgsF, show numsF 4 b a = _ from hn]
    simp only
    rw [ih]
    rfl
def parseL (b : List UInt8) : Option (List Tg) := if gvC b 0 = true ∧ gvA b 0 ≤ 32 then tgsF (gvA b 0).toNat b (gvB b 0) else none
def getL (b : List UInt8) : Option (List Tg) := match parseL b with | some l => if rightL l = true ∧ putL l = b then some l else none | none => none
theorem getD_take {xs : List Tg} {i : Nat} {t : Tg} (h : xs[i]? = some t) : xs.getD i tag1 = t := getD_some h
theorem RightL.nums {l : List Tg} (h : RightL l) : ∀ k ∈ allNs l, 0 ≤ k ∧ k ≤ 9223372036854775807 := by
  obtain ⟨h1, h2, h3⟩ := h
  have hpt : ∀ (i : Nat) (t : Tg), l[i]? = some t → tgOk t = true ∧ 0 ≤ t.pt := by
    intro i
    induction i with
    | zero =>
      intro t ht
      have := h3 0 (List.getElem?_eq_some_iff.1 ht).1
      unfold okAt tagB at this
      rw [getD_some ht] at this
      simp only [decide_eq_true_eq] at this
      exact ⟨this.2.2.2, by have := this.2.2.1 (by simp); omega⟩
    | succ i ih =>
      intro t ht
      have hl := (List.getElem?_eq_some_iff.1 ht).1
      obtain ⟨y, hy⟩ : ∃ y, l[i]? = some y := ⟨_, List.getElem?_eq_getElem (by omega : i < l.length)⟩
      have := h3 (i + 1) hl
      unfold okAt tagB at this
      rw [getD_some ht, lastPt_next hy] at this
      simp only [decide_eq_true_eq] at this
      have h5 := ih y hy
      exact ⟨this.2.2.2, by omega⟩
  have hall : ∀ (xs : List Tg), (∀ t ∈ xs, tgOk t = true ∧ 0 ≤ t.pt) → ∀ k ∈ allNs xs, 0 ≤ k ∧ k ≤ 9223372036854775807 := by
    intro xs
    induction xs with
    | nil => intro _ k hk; simp [allNs] at hk
    | cons x xs ih =>
      intro hx k hk
      rw [allNs] at hk
      rcases List.mem_append.1 hk with hk | hk
      · obtain ⟨ho, hp⟩ := hx x (by simp)
        unfold tgOk at ho
        simp only [decide_eq_true_eq] at ho
        simp only [tgNs, List.mem_cons, List.not_mem_nil, or_false] at hk
        rcases hk with rfl | rfl | rfl | rfl <;> omega
      · exact ih (fun t ht => hx t (by simp [ht])) k hk
  refine hall l fun t ht => ?_
  obtain ⟨i, hi⟩ := List.mem_iff_getElem?.1 ht
  exact hpt i t hi
theorem parse_put {l : List Tg} (h : RightL l) (r : List UInt8) : parseL (putL l ++ r) = some l := by
  have h2 := h.2.1
  have hg := gv_there' (b := putL l ++ r) (a := []) (r := putTs l ++ r) (k := l.length) (i := 0) (by simp [putL]) rfl (by omega)
  obtain ⟨e1, e2, e3⟩ := gv_vals hg
  unfold parseL
  rw [if_pos ⟨e3, by omega⟩, e1, e2, Int.toNat_natCast]
  exact tgs_there l _ (varl l.length) r _ h.nums (by simp [putL]) (by omega)
theorem get_put {l : List Tg} (h : RightL l) : getL (putL l) = some l := by
  have := parse_put h []
  rw [List.append_nil] at this
  unfold getL
  rw [this]
  simp only
  simp [rightL_iff.2 h]
theorem get_some {b : List UInt8} {l : List Tg} (h : getL b = some l) : RightL l ∧ putL l = b := by
  unfold getL at h
  split at h
  · split at h
    · rename_i e
      injection h with h
      subst h
      exact ⟨rightL_iff.1 e.1, e.2⟩
    · cases h
  · cases h
theorem get_less {l : List Tg} (h : RightL l) {b : List UInt8} {k : Nat} (hb : b = (putL l).take k) (hk : k < (putL l).length) : getL b = none := by
  cases e : getL b with
  | none => rfl
  | some y =>
    obtain ⟨h1, h2⟩ := get_some e
    have p1 := parse_put h1 ((putL l).drop k)
    rw [h2, hb, List.take_append_drop] at p1
    have p2 := parse_put h []
    rw [List.append_nil, p1] at p2
    injection p2 with p2
    subst p2
    have := congrArg List.length (h2.trans hb)
    rw [List.length_take] at this
    omega
theorem get_more {l : List Tg} (h : RightL l) {r : List UInt8} (hr : r ≠ []) : getL (putL l ++ r) = none := by
  cases e : getL (putL l ++ r) with
  | none => rfl
  | some y =>
    obtain ⟨h1, h2⟩ := get_some e
    have p1 := parse_put h1 []
    rw [List.append_nil, h2, parse_put h r] at p1
    injection p1 with p1
    subst p1
    have := congrArg List.length h2
    rw [List.length_append] at this
    exact absurd (List.eq_nil_of_length_eq_zero (by omega)) hr
end Go.Proofs.Ytoeknbogaclfdaa
