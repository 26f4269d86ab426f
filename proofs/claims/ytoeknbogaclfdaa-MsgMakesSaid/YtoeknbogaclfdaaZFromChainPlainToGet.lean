/-
  Chains: a new tag's number, chains that grow by numbers, chains that may be: plain lists, no program in sight.
-/
/-
  Chains in bytes: what is put is got. Lists of bytes alone.
-/
/-
  Marks and records: what may be, their bytes, what bytes are. Plain lists, no program in sight.
-/
/-
  Contracts of package bits: Put, Var.
-/
/-
  Contracts of Get, of the program and of the reference.
-/
import Derived.Test.YtoeknbogaclfdaaZFromNmToTag
import Derived.Test.YtoeknbogaclfdaaZFromLePlainToMask2
import Derived.Test.YtoeknbogaclfdaaZCore
namespace Go.Proofs.Ytoeknbogaclfdaa
open Go.RowKit
set_option linter.unusedVariables false
def mostI : List Tg → Int → Int
  | [], d => d
  | x :: xs, d => mostI xs (max d x.id)
theorem mostI_append : ∀ (xs ys : List Tg) (d : Int), mostI (xs ++ ys) d = mostI ys (mostI xs d)
  | [], ys, d => rfl
  | x :: xs, ys, d => by rw [List.cons_append, mostI, mostI, mostI_append xs ys]
theorem mostI_next {xs : List Tg} {k : Nat} {x : Tg} (hx : xs[k]? = some x) (d : Int) : mostI (xs.take (k + 1)) d = max (mostI (xs.take k) d) x.id := by
  rw [List.take_add_one, hx, mostI_append]
  rfl
theorem mostI_le : ∀ (xs : List Tg) (d : Int), d ≤ mostI xs d
  | [], d => Int.le_refl _
  | x :: xs, d => by
    have := mostI_le xs (max d x.id)
    rw [mostI]
    omega
theorem mostI_take (xs : List Tg) (k : Nat) (d : Int) : mostI (xs.take k) d ≤ mostI xs d := by
  conv => rhs; rw [← List.take_append_drop k xs, mostI_append]
  exact mostI_le _ _
theorem mostI_mem : ∀ {xs : List Tg} {d : Int} {x : Tg}, x ∈ xs → x.id ≤ mostI xs d
  | y :: ys, d, x, h => by
    rw [mostI]
    rcases List.mem_cons.1 h with rfl | h
    · have := mostI_le ys (max d x.id)
      omega
    · exact mostI_mem h
def nextI (xs : List Tg) (s : Int) : Int := if 1073741824 < mostI xs 0 then 0 else if (decide ((mostI xs 0 + 1) % 2 = 1) != decide (s = 1)) = true then mostI xs 0 + 2 else mostI xs 0 + 1
theorem nextI_one {xs : List Tg} {s : Int} (h : mostI xs 0 ≤ 1073741824) (hs : s = 1) : mostI xs 0 < nextI xs s ∧ nextI xs s ≤ mostI xs 0 + 2 ∧ nextI xs s % 2 = 1 := by
  unfold nextI
  rw [if_neg (by omega)]
  by_cases hp : (mostI xs 0 + 1) % 2 = 1 <;> simp [hp, hs] <;> omega
theorem nextI_two {xs : List Tg} {s : Int} (h : mostI xs 0 ≤ 1073741824) (hs : s ≠ 1) : mostI xs 0 < nextI xs s ∧ nextI xs s ≤ mostI xs 0 + 2 ∧ nextI xs s % 2 = 0 := by
  unfold nextI
  rw [if_neg (by omega)]
  by_cases hp : (mostI xs 0 + 1) % 2 = 1 <;> simp [hp, hs] <;> omega
theorem nextI_le {xs : List Tg} {s : Int} : 0 ≤ nextI xs s ∧ nextI xs s ≤ 1073741826 := by
  unfold nextI
  have := mostI_le xs 0
  split
  · omega
  · split <;> omega
def newTg (out : List Tg) (x e : Int) : Tg := if x / 16 % 2 = 0 then ⟨nextI out (1 + x / 8 % 2), 1 + x / 8 % 2, 0, e⟩ else ⟨nextI out (1 + x / 8 % 2), 0, 3 - (1 + x / 8 % 2), e⟩
def growF : List Int → List Tg → Int → List Tg × Int
  | [], out, e => (out, e)
  | x :: xs, out, e => if out.length < 20 then (if x / 4 % 2 = 0 then growF xs out (e + x % 4) else growF xs (out ++ [newTg out x (e + x % 4)]) (e + x % 4)) else (out, e)
def tag1 : Tg := ⟨1, 1, 0, 0⟩
def growL (l : List Int) : List Tg × Int := growF l [tag1] 0
theorem growF_full : ∀ (l : List Int) {out : List Tg} {e : Int}, ¬ out.length < 20 → growF l out e = (out, e)
  | [], _, _, _ => rfl
  | x :: xs, _, _, h => by rw [growF, if_neg h]
structure Grown (out : List Tg) (e : Int) : Prop where
  pos : 0 ≤ e
  head : ∃ tl, out = tag1 :: tl
  pw : out.Pairwise fun x y => x.id < y.id ∧ x.pt ≤ y.pt
  ok : ∀ x ∈ out, 1 ≤ x.id ∧ 0 ≤ x.pt ∧ x.pt ≤ e ∧ (x.ow = 1 ∧ x.he = 0 ∨ x.ow = 2 ∧ x.he = 0 ∨ x.ow = 0 ∧ x.he = 1 ∨ x.ow = 0 ∧ x.he = 2)
  most : mostI out 0 ≤ 2 * out.length
  size : out.length ≤ 20
theorem Grown.one : Grown [tag1] 0 where
  pos := by omega
  head := ⟨[], rfl⟩
  pw := by simp
  ok := by
    intro x hx
    simp at hx
    subst hx
    simp [tag1]
  most := by simp only [mostI, tag1, List.length_singleton]; omega
  size := by simp
theorem Grown.wait {out : List Tg} {e d : Int} (h : Grown out e) (hd : 0 ≤ d) : Grown out (e + d) where
  pos := by have := h.pos; omega
  head := h.head
  pw := h.pw
  ok := fun x hx => by
    obtain ⟨h1, h2, h3, h4⟩ := h.ok x hx
    exact ⟨h1, h2, by omega, h4⟩
  most := h.most
  size := h.size
theorem Grown.next {out : List Tg} {e : Int} (h : Grown out e) (x : Int) (hl : out.length < 20) : Grown (out ++ [newTg out x e]) e := by
  have hm := h.most
  have hm0 := mostI_le out 0
  have hid : mostI out 0 < nextI out (1 + x / 8 % 2) ∧ nextI out (1 + x / 8 % 2) ≤ mostI out 0 + 2 := by
    by_cases hs : 1 + x / 8 % 2 = 1
    · have := nextI_one (xs := out) (by omega) hs; omega
    · have := nextI_two (xs := out) (by omega) hs; omega
  have e1 : (newTg out x e).id = nextI out (1 + x / 8 % 2) := by unfold newTg; split <;> rfl
  have e2 : (newTg out x e).pt = e := by unfold newTg; split <;> rfl
  have e3 : (newTg out x e).ow = 1 ∧ (newTg out x e).he = 0 ∨ (newTg out x e).ow = 2 ∧ (newTg out x e).he = 0 ∨ (newTg out x e).ow = 0 ∧ (newTg out x e).he = 1 ∨ (newTg out x e).ow = 0 ∧ (newTg out x e).he = 2 := by
    unfold newTg
    split <;> simp <;> omega
  refine ⟨h.pos, ?_, ?_, ?_, ?_, ?_⟩
  · obtain ⟨tl, rfl⟩ := h.head
    exact ⟨_, List.cons_append ..⟩
  · refine List.pairwise_append.2 ⟨h.pw, by simp, fun y hy z hz => ?_⟩
    simp at hz
    subst hz
    have := mostI_mem (d := 0) hy
    have := (h.ok y hy).2.2.1
    omega
  · intro y hy
    rcases List.mem_append.1 hy with hy | hy
    · exact h.ok y hy
    · simp at hy
      subst hy
      have := h.pos
      exact ⟨by omega, by omega, by omega, e3⟩
  · rw [mostI_append, mostI, mostI, e1, List.length_append]
    simp
    omega
  · simp
    omega
theorem growF_grown : ∀ (l : List Int) {out : List Tg} {e : Int}, Grown out e → Grown (growF l out e).1 (growF l out e).2
  | [], _, _, h => h
  | x :: xs, out, e, h => by
    rw [growF]
    split
    · rename_i hl
      have hw := h.wait (d := x % 4) (Int.emod_nonneg _ (by omega))
      split
      · exact growF_grown xs hw
      · exact growF_grown xs (hw.next x hl)
    · exact h
theorem grown (l : List Int) : Grown (growL l).1 (growL l).2 := growF_grown l Grown.one
theorem growF_bounds : ∀ (l : List Int) (out : List Tg) (e : Int), e ≤ (growF l out e).2 ∧ (growF l out e).2 ≤ e + 3 * l.length
  | [], _, e => by simp [growF]
  | x :: xs, out, e => by
    rw [growF]
    have h1 := growF_bounds xs out (e + x % 4)
    have h2 := growF_bounds xs (out ++ [newTg out x (e + x % 4)]) (e + x % 4)
    simp only [List.length_cons]
    split
    · split <;> omega
    · simp only
      omega
theorem growL_bounds (l : List Int) : 0 ≤ (growL l).2 ∧ (growL l).2 ≤ 3 * l.length := by
  have := growF_bounds l [tag1] 0
  unfold growL
  omega
def lastPt : List Tg → Int → Int
  | [], d => d
  | x :: xs, _ => lastPt xs x.pt
def tgOk (t : Tg) : Bool := decide (1 ≤ t.id ∧ t.id ≤ 1073741824 ∧ 0 ≤ t.ow ∧ t.ow ≤ 2 ∧ 0 ≤ t.he ∧ t.he ≤ 2 ∧ (t.ow = 0 ↔ 0 < t.he) ∧ t.pt ≤ 1099511627776)
def tagB (t : Tg) (ahead : List Tg) : Bool := decide ((∀ x ∈ ahead, x.id ≠ t.id) ∧ lastPt ahead 0 ≤ t.pt ∧ (ahead.length = 0 → t.pt = 0) ∧ tgOk t = true)
def okAt (l : List Tg) (i : Nat) : Bool := tagB (l.getD i tag1) (l.take i)
def RightL (l : List Tg) : Prop := 1 ≤ l.length ∧ l.length ≤ 32 ∧ ∀ i, i < l.length → okAt l i = true
def rightL (l : List Tg) : Bool := decide (1 ≤ l.length) && (decide (l.length ≤ 32) && (List.range l.length).all fun i => okAt l i)
theorem rightL_iff {l : List Tg} : rightL l = true ↔ RightL l := by
  unfold rightL RightL
  simp [List.all_eq_true]
theorem rightL_no {l : List Tg} (h : ¬ RightL l) : rightL l = false := by
  cases e : rightL l
  · rfl
  · exact absurd (rightL_iff.1 e) h
theorem lastPt_append : ∀ (xs : List Tg) (x : Tg) (d : Int), lastPt (xs ++ [x]) d = x.pt
  | [], x, d => rfl
  | y :: ys, x, d => by rw [List.cons_append, lastPt, lastPt_append ys]
theorem lastPt_next {xs : List Tg} {k : Nat} {x : Tg} (hx : xs[k]? = some x) (d : Int) : lastPt (xs.take (k + 1)) d = x.pt := by
  rw [List.take_add_one, hx]
  exact lastPt_append _ _ _
theorem lastPt_mem : ∀ (xs : List Tg) (d : Int), lastPt xs d = d ∧ xs = [] ∨ ∃ x ∈ xs, lastPt xs d = x.pt
  | [], d => .inl ⟨rfl, rfl⟩
  | x :: xs, d => by
    rw [lastPt]
    rcases lastPt_mem xs x.pt with ⟨h, _⟩ | ⟨y, hy, h⟩
    · exact .inr ⟨x, by simp, h⟩
    · exact .inr ⟨y, by simp [hy], h⟩
theorem getD_some {xs : List Tg} {k : Nat} {x : Tg} (hx : xs[k]? = some x) : xs.getD k tag1 = x := by
  rw [List.getD_eq_getElem?_getD, hx]
  rfl
theorem Grown.right {out : List Tg} {e : Int} (h : Grown out e) (he : e ≤ 1099511627776) : RightL out := by
  obtain ⟨tl, rfl⟩ := h.head
  have hs := h.size
  refine ⟨by simp, by omega, fun i hi => ?_⟩
  obtain ⟨x, hx⟩ : ∃ x, (tag1 :: tl)[i]? = some x := ⟨_, List.getElem?_eq_getElem hi⟩
  unfold okAt
  rw [getD_some hx]
  have hm := List.mem_of_getElem? hx
  obtain ⟨h1, h2, h3, h4⟩ := h.ok x hm
  have hmost := mostI_mem (d := 0) hm
  have hmo := h.most
  have hp : ∀ y ∈ (tag1 :: tl).take i, y.id < x.id ∧ y.pt ≤ x.pt := by
    intro y hy
    have hsp : tag1 :: tl = (tag1 :: tl).take i ++ (tag1 :: tl).drop i := (List.take_append_drop _ _).symm
    have hpw := h.pw
    rw [hsp, List.pairwise_append] at hpw
    refine hpw.2.2 y hy x ?_
    rw [List.mem_iff_getElem?]
    exact ⟨0, by rw [List.getElem?_drop]; simpa using hx⟩
  unfold tagB tgOk
  simp only [decide_eq_true_eq]
  refine ⟨fun y hy => by have := hp y hy; omega, ?_, fun h0 => ?_, by omega, by omega, by omega, by omega, by omega, by omega, by omega, by omega⟩
  · rcases lastPt_mem ((tag1 :: tl).take i) 0 with ⟨e1, _⟩ | ⟨y, hy, e1⟩
    · omega
    · rw [e1]; exact (hp y hy).2
  · rw [List.length_take] at h0
    have : i = 0 := by simp at h0; omega
    subst this
    simp at hx
    subst hx
    rfl
end Go.Proofs.Ytoeknbogaclfdaa

namespace Go.Proofs.Ytoeknbogaclfdaa
open Go.RowKit
set_option linter.unusedVariables false
def tgNs (t : Tg) : List Int := [t.id, t.ow, t.he, t.pt]
def varsL : List Int → List UInt8
  | [] => []
  | k :: ks => varl k.toNat ++ varsL ks
theorem varsL_append : ∀ (ks ms : List Int), varsL (ks ++ ms) = varsL ks ++ varsL ms
  | [], ms => rfl
  | k :: ks, ms => by rw [List.cons_append, varsL, varsL, varsL_append ks ms, List.append_assoc]
theorem varsL_len : ∀ (ks : List Int), ks.length ≤ (varsL ks).length ∧ (varsL ks).length ≤ 9 * ks.length
  | [] => by simp [varsL]
  | k :: ks => by
    have := varsL_len ks
    have := varl_length k.toNat
    simp only [varsL, List.length_append, List.length_cons]
    omega
def allNs : List Tg → List Int
  | [] => []
  | t :: ts => tgNs t ++ allNs ts
theorem allNs_append : ∀ (xs ys : List Tg), allNs (xs ++ ys) = allNs xs ++ allNs ys
  | [], ys => rfl
  | x :: xs, ys => by rw [List.cons_append, allNs, allNs, allNs_append xs ys, List.append_assoc]
theorem allNs_len : ∀ (xs : List Tg), (allNs xs).length = 4 * xs.length
  | [] => rfl
  | x :: xs => by
    have := allNs_len xs
    simp only [allNs, tgNs, List.length_append, List.length_cons, List.length_nil]
    omega
def putTs (l : List Tg) : List UInt8 := varsL (allNs l)
def putL (l : List Tg) : List UInt8 := varl l.length ++ putTs l
theorem putTs_next {xs : List Tg} {k : Nat} {x : Tg} (hx : xs[k]? = some x) : putTs (xs.take (k + 1)) = putTs (xs.take k) ++ varsL (tgNs x) := by
  unfold putTs
  rw [List.take_add_one, hx, allNs_append, varsL_append]
  simp [allNs]
theorem putL_len (l : List Tg) : 1 ≤ (putL l).length ∧ (putL l).length ≤ 9 + 36 * l.length := by
  have h1 := varl_length l.length
  have h2 := varsL_len (allNs l)
  have h3 := allNs_len l
  unfold putL putTs
  rw [List.length_append]
  omega
def numsF : Nat → List UInt8 → Int → Option (List Int × Int)
  | 0, _, a => some ([], a)
  | f + 1, b, a => if gvC b a = true then (numsF f b (gvB b a)).map fun p => (gvA b a :: p.1, p.2) else none
theorem gv_vals {b : List UInt8} {a : Int} {k n : Nat} (h : gvN b a = some (k, n)) : gvA b a = k ∧ gvB b a = a + n ∧ gvC b a = true := by
  unfold gvA gvB gvC
  rw [h]
  exact ⟨rfl, rfl, rfl⟩
theorem nums_there : ∀ (ks : List Int) (b pre r : List UInt8) (a : Int), (∀ k ∈ ks, 0 ≤ k ∧ k ≤ 9223372036854775807) → b = pre ++ varsL ks ++ r → a = (pre.length : Int) → numsF ks.length b a = some (ks, a + ((varsL ks).length : Int))
  | [], b, pre, r, a, _, hb, ha => by simp [numsF, varsL]
  | k :: ks, b, pre, r, a, hk, hb, ha => by
    have h1 := hk k (by simp)
    have hg := gv_there' (b := b) (a := pre) (r := varsL ks ++ r) (k := k.toNat) (i := a) (by rw [hb, varsL]; simp) ha (by omega)
    obtain ⟨e1, e2, e3⟩ := gv_vals hg
    have ih := nums_there ks b (pre ++ varl k.toNat) r (a + ((varl k.toNat).length : Int)) (fun y hy => hk y (by simp [hy])) (by rw [hb, varsL]; simp) (by rw [ha, List.length_append]; omega)
    rw [List.length_cons, numsF, if_pos e3, e2, ih, e1, varsL, List.length_append]
    simp only [Option.map_some, Option.some.injEq, Prod.mk.injEq, List.cons.injEq, and_true]
    omega
def tgOf (l : List Int) : Tg := ⟨l.getD 0 0, l.getD 1 0, l.getD 2 0, l.getD 3 0⟩
def tgsF : Nat → List UInt8 → Int → Option (List Tg)
  | 0, _, _ => some []
  | f + 1, b, a => match numsF 4 b a with | some p => (tgsF f b p.2).map fun l => tgOf p.1 :: l | none => none
theorem tgs_there : ∀ (l : List Tg) (b pre r : List UInt8) (a : Int), (∀ k ∈ allNs l, 0 ≤ k ∧ k ≤ 9223372036854775807) → b = pre ++ putTs l ++ r → a = (pre.length : Int) → tgsF l.length b a = some l
  | [], b, pre, r, a, _, hb, ha => rfl
  | t :: ts, b, pre, r, a, hk, hb, ha => by
    have hn := nums_there (tgNs t) b pre (putTs ts ++ r) a (fun k h => hk k (by simp [allNs, h])) (by rw [hb, putTs, putTs, allNs, varsL_append]; simp) ha
    have ih := tgs_there ts b (pre ++ varsL (tgNs t)) r (a + ((varsL (tgNs t)).length : Int)) (fun k h => hk k (by simp [allNs, h])) (by rw [hb, putTs, putTs, allNs, varsL_append]; simp) (by rw [ha, List.length_append]; omega)
    rw [List.length_cons, tgsF, show numsF 4 b a = _ from hn]
    simp only
    rw [ih]
    rfl
def parseL (b : List UInt8) : Option (List Tg) := if gvC b 0 = true ∧ gvA b 0 ≤ 32 then tgsF (gvA b 0).toNat b (gvB b 0) else none
def getL (b : List UInt8) : Option (List Tg) := match parseL b with | some l => if rightL l = true ∧ putL l = b then some l else none | none => none
theorem RightL.nums {l : List Tg} (h : RightL l) : ∀ k ∈ allNs l, 0 ≤ k ∧ k ≤ 9223372036854775807 := by
  obtain ⟨h1, h2, h3⟩ := h
  have hpt : ∀ (i : Nat) (t : Tg), l[i]? = some t → tgOk t = true ∧ 0 ≤ t.pt := by
    intro i
    induction i with
    | zero =>
      intro t ht
      have := h3 0 (List.getElem?_eq_some_iff.1 ht).1
      unfold okAt tagB at this
      rw [getD_some ht] at this
      simp only [decide_eq_true_eq] at this
      exact ⟨this.2.2.2, by have := this.2.2.1 (by simp); omega⟩
    | succ i ih =>
      intro t ht
      have hl := (List.getElem?_eq_some_iff.1 ht).1
      obtain ⟨y, hy⟩ : ∃ y, l[i]? = some y := ⟨_, List.getElem?_eq_getElem (by omega : i < l.length)⟩
      have := h3 (i + 1) hl
      unfold okAt tagB at this
      rw [getD_some ht, lastPt_next hy] at this
      simp only [decide_eq_true_eq] at this
      have h5 := ih y hy
      exact ⟨this.2.2.2, by omega⟩
  have hall : ∀ (xs : List Tg), (∀ t ∈ xs, tgOk t = true ∧ 0 ≤ t.pt) → ∀ k ∈ allNs xs, 0 ≤ k ∧ k ≤ 9223372036854775807 := by
    intro xs
    induction xs with
    | nil => intro _ k hk; simp [allNs] at hk
    | cons x xs ih =>
      intro hx k hk
      rw [allNs] at hk
      rcases List.mem_append.1 hk with hk | hk
      · obtain ⟨ho, hp⟩ := hx x (by simp)
        unfold tgOk at ho
        simp only [decide_eq_true_eq] at ho
        simp only [tgNs, List.mem_cons, List.not_mem_nil, or_false] at hk
        rcases hk with rfl | rfl | rfl | rfl <;> omega
      · exact ih (fun t ht => hx t (by simp [ht])) k hk
  refine hall l fun t ht => ?_
  obtain ⟨i, hi⟩ := List.mem_iff_getElem?.1 ht
  exact hpt i t hi
theorem parse_put {l : List Tg} (h : RightL l) (r : List UInt8) : parseL (putL l ++ r) = some l := by
  have h2 := h.2.1
  have hg := gv_there' (b := putL l ++ r) (a := []) (r := putTs l ++ r) (k := l.length) (i := 0) (by simp [putL]) rfl (by omega)
  obtain ⟨e1, e2, e3⟩ := gv_vals hg
  unfold parseL
  rw [if_pos ⟨e3, by omega⟩, e1, e2, Int.toNat_natCast]
  exact tgs_there l _ (varl l.length) r _ h.nums (by simp [putL]) (by omega)
theorem get_put {l : List Tg} (h : RightL l) : getL (putL l) = some l := by
  have := parse_put h []
  rw [List.append_nil] at this
  unfold getL
  rw [this]
  simp only
  simp [rightL_iff.2 h]
end Go.Proofs.Ytoeknbogaclfdaa

namespace Go.Proofs.Ytoeknbogaclfdaa
set_option linter.unusedVariables false
set_option linter.unusedSimpArgs false
structure Mk where
  id : Int
  nm : ByteArray
  sz : Int
  gone : Bool
  deriving DecidableEq
def tildeB (s : ByteArray) : Bool := match s.data.toList with | b :: _ => decide (b.toNat = 126) | [] => false
def tailS (s : ByteArray) : ByteArray := s.extract 1 s.size
def nameM (s : ByteArray) : Bool := if tildeB s = true then nameB (tailS s) else nameB s
structure Hd where
  size : Int
  order : Int
  unit : Int
  count : Int
  next : Int
  seq : Int
  marks : List Mk
  deriving DecidableEq
def goneI (g : Bool) : Int := if g = true then 1 else 0
def mkNs (x : Mk) : List Int := [x.id, x.sz, goneI x.gone]
def mkBs (x : Mk) : List UInt8 := varsL (mkNs x) ++ (varl x.nm.size ++ x.nm.data.toList)
def mksBs (l : List Mk) : List UInt8 := (l.map mkBs).flatten
theorem mksBs_next {xs : List Mk} {k : Nat} {x : Mk} (hx : xs[k]? = some x) : mksBs (xs.take (k + 1)) = mksBs (xs.take k) ++ mkBs x := by
  unfold mksBs
  rw [List.take_add_one, hx]
  simp
theorem mkBs_len (x : Mk) : 4 ≤ (mkBs x).length ∧ (mkBs x).length ≤ 36 + x.nm.size := by
  have h1 : 3 ≤ (varsL (mkNs x)).length ∧ (varsL (mkNs x)).length ≤ 9 * 3 := varsL_len (mkNs x)
  have h2 := varl_length x.nm.size
  unfold mkBs
  rw [List.length_append, List.length_append, size_list]
  omega
def mkOf (l : List Int) (s : List UInt8) : Mk := ⟨l.getD 0 0, ⟨s.toArray⟩, l.getD 1 0, decide (l.getD 2 0 = 1)⟩
def mostG (rf : Bool) : Int := if rf = true then 20 else 13
def mkG (rf : Bool) (b : List UInt8) (a : Int) : Option (Mk × Int) :=
  (numsF 3 b a).bind fun p => if rf = true ∧ 1 < p.1.getD 2 0 then none else (gtO b p.2 (mostG rf)).map fun q => (mkOf p.1 q.1, q.2)
def mksG (rf : Bool) : Nat → List UInt8 → Int → Option (List Mk × Int)
  | 0, _, a => some ([], a)
  | f + 1, b, a => (mkG rf b a).bind fun p => (mksG rf f b p.2).map fun q => (p.1 :: q.1, q.2)
def mksO (rf : Bool) (b : List UInt8) (a : Int) : Option (List Mk × Int) := if gvC b a = true ∧ gvA b a ≤ 17 then mksG rf (gvA b a).toNat b (gvB b a) else none
theorem gt_there {b pre r : List UInt8} {s : ByteArray} {i most : Int} (hb : b = pre ++ (varl s.size ++ s.data.toList) ++ r) (hi : i = (pre.length : Int)) (hm : (s.size : Int) ≤ most) (h63 : s.size < 9223372036854775808) :
    gtO b i most = some (s.data.toList, i + (((varl s.size).length + s.size : Nat) : Int)) := by
  have hg := gv_there' (b := b) (a := pre) (r := s.data.toList ++ r) (k := s.size) (i := i) (by rw [hb]; simp) hi h63
  have hl : s.data.toList.length = s.size := size_list s
  have hbl : b.length = pre.length + ((varl s.size).length + s.size) + r.length := by rw [hb]; simp only [List.length_append]; omega
  have ht : i.toNat = pre.length := by omega
  unfold gtO
  rw [hg, Option.bind_some, if_pos ⟨hm, by simp only; omega⟩]
  simp only [Option.some.injEq, Prod.mk.injEq]
  refine ⟨?_, by omega⟩
  have e : b = (pre ++ varl s.size) ++ (s.data.toList ++ r) := by rw [hb]; simp
  have hd : b.drop (pre.length + (varl s.size).length) = s.data.toList ++ r := by
    rw [e]
    have : pre.length + (varl s.size).length = (pre ++ varl s.size).length := by rw [List.length_append]
    rw [this, List.drop_left]
  rw [ht, hd, ← hl, List.take_left]
def fitM (x : Mk) : Prop := (0 ≤ x.id ∧ x.id ≤ 9223372036854775807) ∧ (0 ≤ x.sz ∧ x.sz ≤ 9223372036854775807) ∧ x.nm.size ≤ 13
theorem mk_there {rf : Bool} {b pre r : List UInt8} {x : Mk} {a : Int} (hx : fitM x) (hb : b = pre ++ mkBs x ++ r) (ha : a = (pre.length : Int)) : mkG rf b a = some (x, a + ((mkBs x).length : Int)) := by
  obtain ⟨h1, h2, h3⟩ := hx
  have hn := nums_there (mkNs x) b pre ((varl x.nm.size ++ x.nm.data.toList) ++ r) a (fun k hk => by
    simp only [mkNs, List.mem_cons, List.not_mem_nil, or_false] at hk
    rcases hk with rfl | rfl | rfl
    · exact h1
    · exact h2
    · unfold goneI; split <;> omega) (by rw [hb]; unfold mkBs; simp) ha
  have ht := gt_there (b := b) (pre := pre ++ varsL (mkNs x)) (r := r) (s := x.nm) (i := a + ((varsL (mkNs x)).length : Int)) (most := mostG rf) (by rw [hb]; unfold mkBs; simp) (by rw [List.length_append]; omega) (by unfold mostG; split <;> omega) (by omega)
  unfold mkG
  rw [show numsF 3 b a = _ from hn, Option.bind_some]
  have h4 : ¬ (rf = true ∧ 1 < (mkNs x).getD 2 0) := by
    rintro ⟨_, h⟩
    simp only [mkNs, List.getD_cons_succ, List.getD_cons_zero] at h
    unfold goneI at h
    split at h <;> omega
  rw [if_neg h4, ht, Option.map_some]
  simp only [Option.some.injEq, Prod.mk.injEq]
  refine ⟨?_, ?_⟩
  · obtain ⟨i, nm, s, g⟩ := x
    simp only [mkOf, mkNs, List.getD_cons_succ, List.getD_cons_zero, Array.toArray_toList, Mk.mk.injEq, true_and]
    cases g <;> rfl
  · unfold mkBs
    rw [List.length_append, List.length_append, size_list]
    omega
theorem mks_there {rf : Bool} : ∀ (l : List Mk) (b pre r : List UInt8) (a : Int), (∀ x ∈ l, fitM x) → b = pre ++ mksBs l ++ r → a = (pre.length : Int) → mksG rf l.length b a = some (l, a + ((mksBs l).length : Int))
  | [], b, pre, r, a, _, hb, ha => by simp [mksG, mksBs]
  | x :: xs, b, pre, r, a, hf, hb, ha => by
    have h1 := mk_there (rf := rf) (b := b) (pre := pre) (r := mksBs xs ++ r) (a := a) (hf x (by simp)) (by rw [hb]; unfold mksBs; simp) ha
    have h2 := mks_there (rf := rf) xs b (pre ++ mkBs x) r (a + ((mkBs x).length : Int)) (fun y hy => hf y (by simp [hy])) (by rw [hb]; unfold mksBs; simp) (by rw [ha, List.length_append]; omega)
    rw [List.length_cons, mksG, h1, Option.bind_some, h2, Option.map_some]
    simp only [Option.some.injEq, Prod.mk.injEq, true_and]
    have : (mksBs (x :: xs)).length = (mkBs x).length + (mksBs xs).length := by unfold mksBs; simp
    omega
theorem nameB_size {s : ByteArray} (h : nameB s = true) : 1 ≤ s.size ∧ s.size ≤ 12 := by
  unfold nameB at h
  simp only [Bool.and_eq_true, decide_eq_true_eq] at h
  exact h.1
theorem nameM_size {s : ByteArray} (h : nameM s = true) : 1 ≤ s.size ∧ s.size ≤ 13 := by
  unfold nameM at h
  split at h
  · have := nameB_size h
    unfold tailS at this
    rw [ByteArray.size_extract] at this
    omega
  · have := nameB_size h
    omega
end Go.Proofs.Ytoeknbogaclfdaa

namespace Go.Proofs.Ytoeknbogaclfdaa
open Go.RowKit
set_option linter.unusedVariables false
set_option maxRecDepth 100000
theorem bits_Put_loop (A : Option Addr) (n c : Nat) (l : List UInt8) (x wd : Nat) (w : World) (h : Sl w A n c l) (hn : n ≤ 1000000) (hx : x < 18446744073709551616) (hw1 : 1 ≤ wd) (hw8 : wd ≤ 8) :
    Calls Try.prog 82 #[.slice A n c, .int .u64 x, .int .i64 wd] w fun e w' => ∃ A' c', e = .returned (.slice A' (n + wd) c') ∧ Byt U8 w' w.heap.size A' (n + wd) c' (put l x wd) ∧ Ext w w' := by
  obtain ⟨i0, hi0, hz0, hz1, hz2⟩ := info_parts info_u8
  go_enter Try.func82, Try.ntmps82
  go_wp2_with (go_at_call 80; refine (slices_Clone A n c l _ h hn).mono ?_; rintro e w1 ⟨A1, c1, rfl, hb1, hx1⟩)
  go_loopw [7, 19] (fun v i wr => ∃ (k : Nat) (Ak : Option Addr) (ck : Nat), k ≤ wd ∧ i = .int .i64 k ∧ v = .slice Ak (n + k) ck ∧ Byt U8 wr w.heap.size Ak (n + k) ck (l ++ le k x) ∧ Ext w wr) (fun _ i _ => wd - (intOf i).toNat)
  case atStart => exact ⟨0, A1, c1, by omega, rfl, rfl, by simpa [le] using hb1, hx1⟩
  case round =>
    obtain ⟨k, Ak, ck, hk, rfl, rfl, hbk, hxk⟩ := hrel
    go_wp2_with (at_builtin; refine wpList_append_mine _ rfl _ _ _ _ rfl w.heap.size U8 i0 _ 1 1 under_bytes hi0 hz0 hz1 hz2 rfl Ak (n + k) ck _ rfl (hbk.own.alloc _) _ rfl 1 _ (src_one under_bytes _ rfl) (by simp only [maxLen]; omega) (by omega) (by have := hxk.size; simp; omega) ?_; intro A' c' w2 hown hg _)
    · have hk2 : k < wd := by assumption
      have hb2 : Byt U8 w2 w.heap.size A' (n + k + 1) c' (l ++ le (k + 1) x) := by
        have := Byt.more (l2 := [UInt8.ofNat (x / 256 ^ k)]) hbk.len rfl hown (by simp [byte_of_nat])
        rw [le_snoc]
        simpa using this
      have hx2 : Ext w w2 := below_grown (hxk.trans (Ext.alloc wr _)) (hbk.own.alloc _) hg (by have := hxk.size; simp; omega)
      clear hown hg hbk
      go_wp2
      go_roundw
      case rel => exact ⟨k + 1, A', c', by omega, by go_num, rfl, hb2, hx2⟩
      case measure => simp [intOf]; omega
    · have hk2 : k = wd := by omega
      subst hk2
      go_ret
      exact ⟨_, _, rfl, hbk, hxk⟩
def putI (l : List UInt8) (x : Nat) (wd : Int) : List UInt8 := if 1 ≤ wd ∧ wd ≤ 8 then put l x wd.toNat else l
theorem ref_Put (A : Option Addr) (n c : Nat) (l : List UInt8) (x : Nat) (wd : Int) (w : World) (h : Sl w A n c l) (hn : n ≤ 1000000) (hx : x < 18446744073709551616) :
    Calls Try.prog 53 #[.slice A n c, .int .u64 x, .int .i64 wd] w fun e w' => ∃ A' n' c', e = .returned (.slice A' n' c') ∧ Byt U8 w' w.heap.size A' n' c' (putI l x wd) ∧ Ext w w' := by
  obtain ⟨i0, hi0, hz0, hz1, hz2⟩ := info_parts info_u8
  obtain ⟨m, hm⟩ : ∃ m : Nat, m = if 1 ≤ wd ∧ wd ≤ 8 then wd.toNat else 0 := ⟨_, rfl⟩
  have hm8 : m ≤ 8 := by split at hm <;> omega
  have hm0 : ∀ k : Nat, k < m ↔ ((k : Int) < wd ∧ wd ≤ 8) := by intro k; split at hm <;> omega
  have hp : Hid (putI l x wd = l ++ le m x) := by
    unfold Hid putI
    split <;> rename_i hc
    · rw [if_pos hc] at hm; rw [hm]; rfl
    · rw [if_neg hc] at hm; rw [hm]; simp [le]
  have H0 := Lib.hid hm0
  clear hm hm0
  go_enter Try.func53, Try.ntmps53
  go_wp2_with (at_builtin; refine wpList_append_mine _ rfl _ _ _ _ rfl w.heap.size U8 i0 _ 1 1 under_bytes hi0 hz0 hz1 hz2 rfl _ 0 0 [] rfl (Own.nil _ _ _ _ _) _ rfl n (l.map bv) ((h.ext (Ext.alloc _ _)).src under_bytes) (by simp only [maxLen]; omega) (by omega) (by simp) ?_; intro A1 c1 w1 hown hg _)
  have hb1 : Byt U8 w1 w.heap.size A1 n c1 l := ⟨h.len, by simpa using hown⟩
  have hx1 : Ext w w1 := below_grown (Ext.alloc w _) (Own.nil _ _ U8 1 _) hg (by simp)
  clear hown hg
  go_loopw [7, 8] (fun v i wr => ∃ (k : Nat) (Ak : Option Addr) (ck : Nat), k ≤ m ∧ i = .int .i64 k ∧ v = .slice Ak (n + k) ck ∧ Byt U8 wr w.heap.size Ak (n + k) ck (l ++ le k x) ∧ Ext w wr) (fun _ i _ => m - (intOf i).toNat)
  case atStart => exact ⟨0, A1, c1, by omega, rfl, rfl, by simpa [le] using hb1, hx1⟩
  case round =>
    obtain ⟨k, Ak, ck, hk, rfl, rfl, hbk, hxk⟩ := hrel
    clear hb1 hx1
    have hkm := H0.out k
    by_cases hlt : k < m
    · obtain ⟨hk1, hk2⟩ := hkm.1 hlt
      clear hkm
      go_wp2_with (at_builtin; refine wpList_append_mine _ rfl _ _ _ _ rfl w.heap.size U8 i0 _ 1 1 under_bytes hi0 hz0 hz1 hz2 rfl Ak (n + k) ck _ rfl (hbk.own.alloc _) _ rfl 1 _ (src_one under_bytes _ rfl) (by simp only [maxLen]; omega) (by omega) (by have := hxk.size; simp; omega) ?_; intro A' c' w2 hown hg _)
      have hb2 : Byt U8 w2 w.heap.size A' (n + k + 1) c' (l ++ le (k + 1) x) := by
        have := Byt.more (l2 := [UInt8.ofNat (x / 256 ^ k)]) hbk.len rfl hown (by simp [byte_of_nat])
        rw [le_snoc]
        simpa using this
      have hx2 : Ext w w2 := below_grown (hxk.trans (Ext.alloc wr _)) (hbk.own.alloc _) hg (by have := hxk.size; simp; omega)
      clear hown hg hbk
      go_wp2
      go_roundw
      case rel => exact ⟨k + 1, A', c', by omega, by go_num, rfl, hb2, hx2⟩
      case measure => simp [intOf]; omega
    · have hno : ¬ ((k : Int) < wd ∧ wd ≤ 8) := fun h => hlt (hkm.2 h)
      obtain rfl : k = m := by omega
      clear hkm
      by_cases h1 : (k : Int) < wd
      · have h2 : 8 < wd := by omega
        go_wp2
        go_ret
        exact ⟨_, _, _, rfl, by rw [hp.out]; exact hbk, hxk⟩
      · go_wp2
        go_ret
        exact ⟨_, _, _, rfl, by rw [hp.out]; exact hbk, hxk⟩
end Go.Proofs.Ytoeknbogaclfdaa

namespace Go.Proofs.Ytoeknbogaclfdaa
open Go.RowKit
set_option linter.unusedVariables false
set_option maxRecDepth 100000
theorem bits_Get_yes (A : Option Addr) (n c : Nat) (l : List UInt8) (a wd : Nat) (w : World) (hs : Sl w A n c l) (h1 : 1 ≤ wd) (h8 : wd ≤ 8) (hn : a + wd ≤ n) :
    Calls Try.prog 110 #[.slice A n c, .int .i64 a, .int .i64 wd] w fun e w' => e = .returned (.tuple #[.int .u64 (unle ((l.drop a).take wd)), .bool true]) ∧ w = w' := by
  have h63 := hs.n63
  have hd : a ≤ n := by omega
  go_enter Try.func110, Try.ntmps110
  go_wp2
  go_loop [8, 35] (fun v i => ∃ k : Nat, k ≤ wd ∧ i = .int .i64 k ∧ v = .int .u64 (unle ((l.drop a).take k))) (fun _ i => (wd - (intOf i).toNat))
  case atStart => exact ⟨0, by omega, rfl, rfl⟩
  case round =>
    obtain ⟨k, hk, rfl, rfl⟩ := hrel
    obtain ⟨q, hq⟩ : ∃ q, q = unle ((l.drop a).take k) := ⟨_, rfl⟩
    have hql : q < 256 ^ k := by
      have h2 := unle_lt ((l.drop a).take k)
      have h3 : ((l.drop a).take k).length = k := by rw [List.length_take, List.length_drop, hs.len]; omega
      rw [h3] at h2
      rw [hq]; exact h2
    rw [← hq]
    by_cases hlt : k < wd
    · obtain ⟨ad, rfl, hcell⟩ := hs.atD (k := a + k) (by omega)
      obtain ⟨b, hb⟩ : ∃ b, b = l.getD (a + k) 0 := ⟨_, rfl⟩
      rw [← hb] at hcell
      have hbl := b.toNat_lt
      have HQ := Lib.hid hq
      have HB := Lib.hid hb
      have HL := Lib.hid hql
      clear hq hb hql
      go_wp2
      go_round
      case rel => exact ⟨k + 1, by omega, by go_num, by rw [or_up (by omega) HL.out hbl, unle_take_succ (by rw [hs.len]; omega), ← HQ.out, ← HB.out]⟩
      case measure => simp [intOf]; omega
    · have HQ := Lib.hid hq
      clear hq hql
      go_wp2
      go_ret2
      obtain rfl : k = wd := by omega
      rw [← HQ.out]
      exact ⟨rfl, rfl⟩
end Go.Proofs.Ytoeknbogaclfdaa
