/-
  Chains: a new tag's number, chains that grow by numbers, chains that may be: plain lists, no program in sight.
-/
import Derived.Test.YtoeknbogaclfdaaZTagLie
namespace Go.Proofs.Ytoeknbogaclfdaa
open Go.RowKit
set_option linter.unusedVariables false

def mostI : List Tg → Int → Int
  | [], d => d
  | x :: xs, d => mostI xs (max d x.id)
theorem mostI_append : ∀ (xs ys : List Tg) (d : Int), mostI (xs ++ ys) d = mostI ys (mostI xs d)
  | [], ys, d => rfl
  | x :: xs, ys, d => by rw [List.cons_append, mostI, mostI, mostI_append xs ys]
theorem mostI_next {xs : List Tg} {k : Nat} {x : Tg} (hx : xs[k]? = some x) (d : Int) : mostI (xs.take (k + 1)) d = max (mostI (xs.take k) d) x.id := by
  rw [List.take_add_one, hx, mostI_append]
  rfl
theorem mostI_le : ∀ (xs : List Tg) (d : Int), d ≤ mostI xs d
  | [], d => Int.le_refl _
  | x :: xs, d => by
    have := mostI_le xs (max d x.id)
    rw [mostI]
    omega
theorem mostI_take (xs : List Tg) (k : Nat) (d : Int) : mostI (xs.take k) d ≤ mostI xs d := by
  conv => rhs; rw [← List.take_append_drop k xs, mostI_append]
  exact mostI_le _ _
theorem mostI_mem : ∀ {xs : List Tg} {d : Int} {x : Tg}, x ∈ xs → x.id ≤ mostI xs d
  | y :: ys, d, x, h => by
    rw [mostI]
    rcases List.mem_cons.1 h with rfl | h
    · have := mostI_le ys (max d x.id)
      omega
    · exact mostI_mem h
def nextI (xs : List Tg) (s : Int) : Int := if 1073741824 < mostI xs 0 then 0 else if (decide ((mostI xs 0 + 1) % 2 = 1) != decide (s = 1)) = true then mostI xs 0 + 2 else mostI xs 0 + 1
theorem nextI_one {xs : List Tg} {s : Int} (h : mostI xs 0 ≤ 1073741824) (hs : s = 1) : mostI xs 0 < nextI xs s ∧ nextI xs s ≤ mostI xs 0 + 2 ∧ nextI xs s % 2 = 1 := by
  unfold nextI
  rw [if_neg (by omega)]
  by_cases hp : (mostI xs 0 + 1) % 2 = 1 <;> simp [hp, hs] <;> omega
theorem nextI_two {xs : List Tg} {s : Int} (h : mostI xs 0 ≤ 1073741824) (hs : s ≠ 1) : mostI xs 0 < nextI xs s ∧ nextI xs s ≤ mostI xs 0 + 2 ∧ nextI xs s % 2 = 0 := by
  unfold nextI
  rw [if_neg (by omega)]
  by_cases hp : (mostI xs 0 + 1) % 2 = 1 <;> simp [hp, hs] <;> omega
theorem nextI_le {xs : List Tg} {s : Int} : 0 ≤ nextI xs s ∧ nextI xs s ≤ 1073741826 := by
  unfold nextI
  have := mostI_le xs 0
  split
  · omega
  · split <;> omega

/-! growing -/
def newTg (out : List Tg) (x e : Int) : Tg := if x / 16 % 2 = 0 then ⟨nextI out (1 + x / 8 % 2), 1 + x / 8 % 2, 0, e⟩ else ⟨nextI out (1 + x / 8 % 2), 0, 3 - (1 + x / 8 % 2), e⟩
def growF : List Int → List Tg → Int → List Tg × Int
  | [], out, e => (out, e)
  | x :: xs, out, e => if out.length < 20 then (if x / 4 % 2 = 0 then growF xs out (e + x % 4) else growF xs (out ++ [newTg out x (e + x % 4)]) (e + x % 4)) else (out, e)
def tag1 : Tg := ⟨1, 1, 0, 0⟩
def growL (l : List Int) : List Tg × Int := growF l [tag1] 0
theorem growF_full : ∀ (l : List Int) {out : List Tg} {e : Int}, ¬ out.length < 20 → growF l out e = (out, e)
  | [], _, _, _ => rfl
  | x :: xs, _, _, h => by rw [growF, if_neg h]
theorem growF_append : ∀ (l m : List Int) (out : List Tg) (e : Int), growF (l ++ m) out e = growF m (growF l out e).1 (growF l out e).2
  | [], m, out, e => rfl
  | x :: xs, m, out, e => by
    rw [List.cons_append, growF, growF]
    split
    · split
      · exact growF_append xs m _ _
      · exact growF_append xs m _ _
    · rename_i h
      exact (growF_full m h).symm
structure Grown (out : List Tg) (e : Int) : Prop where
  pos : 0 ≤ e
  head : ∃ tl, out = tag1 :: tl
  pw : out.Pairwise fun x y => x.id < y.id ∧ x.pt ≤ y.pt
  ok : ∀ x ∈ out, 1 ≤ x.id ∧ 0 ≤ x.pt ∧ x.pt ≤ e ∧ (x.ow = 1 ∧ x.he = 0 ∨ x.ow = 2 ∧ x.he = 0 ∨ x.ow = 0 ∧ x.he = 1 ∨ x.ow = 0 ∧ x.he = 2)
  most : mostI out 0 ≤ 2 * out.length
  size : out.length ≤ 20
theorem Grown.one : Grown [tag1] 0 where
  pos := by omega
  head := ⟨[], rfl⟩
  pw := by simp
  ok := by
    intro x hx
    simp at hx
    subst hx
    simp [tag1]
  most := by simp only [mostI, tag1, List.length_singleton]; omega
  size := by simp
theorem Grown.wait {out : List Tg} {e d : Int} (h : Grown out e) (hd : 0 ≤ d) : Grown out (e + d) where
  pos := by have := h.pos; omega
  head := h.head
  pw := h.pw
  ok := fun x hx => by
    obtain ⟨h1, h2, h3, h4⟩ := h.ok x hx
    exact ⟨h1, h2, by omega, h4⟩
  most := h.most
  size := h.size
theorem Grown.next {out : List Tg} {e : Int} (h : Grown out e) (x : Int) (hl : out.length < 20) : Grown (out ++ [newTg out x e]) e := by
  have hm := h.most
  have hm0 := mostI_le out 0
  have hid : mostI out 0 < nextI out (1 + x / 8 % 2) ∧ nextI out (1 + x / 8 % 2) ≤ mostI out 0 + 2 := by
    by_cases hs : 1 + x / 8 % 2 = 1
    · have := nextI_one (xs := out) (by omega) hs; omega
    · have := nextI_two (xs := out) (by omega) hs; omega
  have e1 : (newTg out x e).id = nextI out (1 + x / 8 % 2) := by unfold newTg; split <;> rfl
  have e2 : (newTg out x e).pt = e := by unfold newTg; split <;> rfl
  have e3 : (newTg out x e).ow = 1 ∧ (newTg out x e).he = 0 ∨ (newTg out x e).ow = 2 ∧ (newTg out x e).he = 0 ∨ (newTg out x e).ow = 0 ∧ (newTg out x e).he = 1 ∨ (newTg out x e).ow = 0 ∧ (newTg out x e).he = 2 := by
    unfold newTg
    split <;> simp <;> omega
  refine ⟨h.pos, ?_, ?_, ?_, ?_, ?_⟩
  · obtain ⟨tl, rfl⟩ := h.head
    exact ⟨_, List.cons_append ..⟩
  · refine List.pairwise_append.2 ⟨h.pw, by simp, fun y hy z hz => ?_⟩
    simp at hz
    subst hz
    have := mostI_mem (d := 0) hy
    have := (h.ok y hy).2.2.1
    omega
  · intro y hy
    rcases List.mem_append.1 hy with hy | hy
    · exact h.ok y hy
    · simp at hy
      subst hy
      have := h.pos
      exact ⟨by omega, by omega, by omega, e3⟩
  · rw [mostI_append, mostI, mostI, e1, List.length_append]
    simp
    omega
  · simp
    omega
theorem growF_grown : ∀ (l : List Int) {out : List Tg} {e : Int}, Grown out e → Grown (growF l out e).1 (growF l out e).2
  | [], _, _, h => h
  | x :: xs, out, e, h => by
    rw [growF]
    split
    · rename_i hl
      have hw := h.wait (d := x % 4) (Int.emod_nonneg _ (by omega))
      split
      · exact growF_grown xs hw
      · exact growF_grown xs (hw.next x hl)
    · exact h
theorem grown (l : List Int) : Grown (growL l).1 (growL l).2 := growF_grown l Grown.one
theorem growF_bounds : ∀ (l : List Int) (out : List Tg) (e : Int), e ≤ (growF l out e).2 ∧ (growF l out e).2 ≤ e + 3 * l.length
  | [], _, e => by simp [growF]
  | x :: xs, out, e => by
    rw [growF]
    have h1 := growF_bounds xs out (e + x % 4)
    have h2 := growF_bounds xs (out ++ [newTg out x (e + x % 4)]) (e + x % 4)
    simp only [List.length_cons]
    split
    · split <;> omega
    · simp only
      omega
theorem growL_bounds (l : List Int) : 0 ≤ (growL l).2 ∧ (growL l).2 ≤ 3 * l.length := by
  have := growF_bounds l [tag1] 0
  unfold growL
  omega
theorem growF_pre : ∀ (l : List Int) (out : List Tg) (e : Int), ∃ tl, (growF l out e).1 = out ++ tl ∧ ∀ x ∈ tl, e ≤ x.pt
  | [], out, e => ⟨[], by simp [growF], by simp⟩
  | x :: xs, out, e => by
    rw [growF]
    split
    · split
      · obtain ⟨tl, h1, h2⟩ := growF_pre xs out (e + x % 4)
        exact ⟨tl, h1, fun y hy => by have := h2 y hy; omega⟩
      · obtain ⟨tl, h1, h2⟩ := growF_pre xs (out ++ [newTg out x (e + x % 4)]) (e + x % 4)
        refine ⟨newTg out x (e + x % 4) :: tl, by rw [h1]; simp, fun y hy => ?_⟩
        rcases List.mem_cons.1 hy with rfl | hy
        · have : (newTg out x (e + x % 4)).pt = e + x % 4 := by unfold newTg; split <;> rfl
          omega
        · have := h2 y hy
          omega
    · exact ⟨[], by simp, by simp⟩

/-! chains that may be -/
def lastPt : List Tg → Int → Int
  | [], d => d
  | x :: xs, _ => lastPt xs x.pt
def tgOk (t : Tg) : Bool := decide (1 ≤ t.id ∧ t.id ≤ 1073741824 ∧ 0 ≤ t.ow ∧ t.ow ≤ 2 ∧ 0 ≤ t.he ∧ t.he ≤ 2 ∧ (t.ow = 0 ↔ 0 < t.he) ∧ t.pt ≤ 1099511627776)
def tagB (t : Tg) (ahead : List Tg) : Bool := decide ((∀ x ∈ ahead, x.id ≠ t.id) ∧ lastPt ahead 0 ≤ t.pt ∧ (ahead.length = 0 → t.pt = 0) ∧ tgOk t = true)
def okAt (l : List Tg) (i : Nat) : Bool := tagB (l.getD i tag1) (l.take i)
def RightL (l : List Tg) : Prop := 1 ≤ l.length ∧ l.length ≤ 32 ∧ ∀ i, i < l.length → okAt l i = true
def rightL (l : List Tg) : Bool := decide (1 ≤ l.length) && (decide (l.length ≤ 32) && (List.range l.length).all fun i => okAt l i)
theorem rightL_iff {l : List Tg} : rightL l = true ↔ RightL l := by
  unfold rightL RightL
  simp [List.all_eq_true]
theorem rightL_no {l : List Tg} (h : ¬ RightL l) : rightL l = false := by
  cases e : rightL l
  · rfl
  · exact absurd (rightL_iff.1 e) h
theorem lastPt_append : ∀ (xs : List Tg) (x : Tg) (d : Int), lastPt (xs ++ [x]) d = x.pt
  | [], x, d => rfl
  | y :: ys, x, d => by rw [List.cons_append, lastPt, lastPt_append ys]
theorem lastPt_next {xs : List Tg} {k : Nat} {x : Tg} (hx : xs[k]? = some x) (d : Int) : lastPt (xs.take (k + 1)) d = x.pt := by
  rw [List.take_add_one, hx]
  exact lastPt_append _ _ _
theorem lastPt_mem : ∀ (xs : List Tg) (d : Int), lastPt xs d = d ∧ xs = [] ∨ ∃ x ∈ xs, lastPt xs d = x.pt
  | [], d => .inl ⟨rfl, rfl⟩
  | x :: xs, d => by
    rw [lastPt]
    rcases lastPt_mem xs x.pt with ⟨h, _⟩ | ⟨y, hy, h⟩
    · exact .inr ⟨x, by simp, h⟩
    · exact .inr ⟨y, by simp [hy], h⟩
theorem getD_some {xs : List Tg} {k : Nat} {x : Tg} (hx : xs[k]? = some x) : xs.getD k tag1 = x := by
  rw [List.getD_eq_getElem?_getD, hx]
  rfl
theorem Grown.right {out : List Tg} {e : Int} (h : Grown out e) (he : e ≤ 1099511627776) : RightL out := by
  obtain ⟨tl, rfl⟩ := h.head
  have hs := h.size
  refine ⟨by simp, by omega, fun i hi => ?_⟩
  obtain ⟨x, hx⟩ : ∃ x, (tag1 :: tl)[i]? = some x := ⟨_, List.getElem?_eq_getElem hi⟩
  unfold okAt
  rw [getD_some hx]
  have hm := List.mem_of_getElem? hx
  obtain ⟨h1, h2, h3, h4⟩ := h.ok x hm
  have hmost := mostI_mem (d := 0) hm
  have hmo := h.most
  have hp : ∀ y ∈ (tag1 :: tl).take i, y.id < x.id ∧ y.pt ≤ x.pt := by
    intro y hy
    have hsp : tag1 :: tl = (tag1 :: tl).take i ++ (tag1 :: tl).drop i := (List.take_append_drop _ _).symm
    have hpw := h.pw
    rw [hsp, List.pairwise_append] at hpw
    refine hpw.2.2 y hy x ?_
    rw [List.mem_iff_getElem?]
    exact ⟨0, by rw [List.getElem?_drop]; simpa using hx⟩
  unfold tagB tgOk
  simp only [decide_eq_true_eq]
  refine ⟨fun y hy => by have := hp y hy; omega, ?_, fun h0 => ?_, by omega, by omega, by omega, by omega, by omega, by omega, by omega, by omega⟩
  · rcases lastPt_mem ((tag1 :: tl).take i) 0 with ⟨e1, _⟩ | ⟨y, hy, e1⟩
    · omega
    · rw [e1]; exact (hp y hy).2
  · rw [List.length_take] at h0
    have : i = 0 := by simp at h0; omega
    subst this
    simp at hx
    subst hx
    rfl
end Go.Proofs.Ytoeknbogaclfdaa
