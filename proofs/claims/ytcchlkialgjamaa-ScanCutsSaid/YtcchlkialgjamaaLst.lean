/-
  Slices whose elements are rows of cells (structs, slices of slices): they read as a list; rows of a call's own that grow by append. Nothing here names a program.
-/
import Derived.Test.YtcchlkialgjamaaFsl
namespace Go.Proofs.Ytcchlkialgjamaa
open Go.RowKit
set_option linter.unusedVariables false

/-- the blocks that cells lead into -/
def Pts (cs : List Value) (k : Nat) : Prop := ∃ ad n c, Value.slice (some ad) n c ∈ cs ∧ 0 < n ∧ ad.block = k

/-- what an element reads as, out of its cells -/
structure Rep {α : Type} (size : Nat) (R : α → List Value → World → Prop) : Prop where
  len : ∀ x cs w, R x cs w → cs.length = size
  one : ∀ x cs w, R x cs w → ∀ u ∈ cs, u.oneCell' = true
  keep : ∀ x cs w w', R x cs w → (∀ k, Pts cs k → w'.heap[k]? = w.heap[k]?) → R x cs w'
  lt : ∀ x cs w, R x cs w → ∀ k, Pts cs k → k < w.heap.size

inductive All2 {α : Type} (R : α → List Value → World → Prop) (w : World) : List α → List (List Value) → Prop
  | nil : All2 R w [] []
  | cons {x : α} {cs : List Value} {xs : List α} {css : List (List Value)} : R x cs w → All2 R w xs css → All2 R w (x :: xs) (cs :: css)

section
variable {α : Type} {size : Nat} {R : α → List Value → World → Prop}
theorem All2.mono {w w' : World} : ∀ {xs : List α} {css : List (List Value)}, All2 R w xs css → (∀ x cs, cs ∈ css → R x cs w → R x cs w') → All2 R w' xs css
  | _, _, .nil, _ => .nil
  | _, _, .cons h t, hk => .cons (hk _ _ (by simp) h) (t.mono fun x cs hm => hk x cs (by simp [hm]))
theorem All2.length {w : World} : ∀ {xs : List α} {css : List (List Value)}, All2 R w xs css → css.length = xs.length
  | _, _, .nil => rfl
  | _, _, .cons _ t => by simp [t.length]
theorem All2.append {w : World} : ∀ {xs ys : List α} {css dss : List (List Value)}, All2 R w xs css → All2 R w ys dss → All2 R w (xs ++ ys) (css ++ dss)
  | _, _, _, _, .nil, h => h
  | _, _, _, _, .cons h t, k => .cons h (t.append k)
theorem All2.flat {w : World} (hR : Rep size R) : ∀ {xs : List α} {css : List (List Value)}, All2 R w xs css → css.flatten.length = xs.length * size
  | _, _, .nil => by simp
  | _, _, .cons h t => by
    simp only [List.flatten_cons, List.length_append, List.length_cons]
    rw [hR.len _ _ _ h, t.flat hR, Nat.add_mul, Nat.one_mul, Nat.add_comm]
theorem All2.one {w : World} (hR : Rep size R) : ∀ {xs : List α} {css : List (List Value)}, All2 R w xs css → ∀ u ∈ css.flatten, u.oneCell' = true
  | _, _, .nil, u, hu => by simp at hu
  | _, _, .cons h t, u, hu => by
    simp only [List.flatten_cons, List.mem_append] at hu
    rcases hu with hu | hu
    · exact hR.one _ _ _ h u hu
    · exact t.one hR u hu
theorem All2.get {w : World} (hR : Rep size R) : ∀ {xs : List α} {css : List (List Value)}, All2 R w xs css → ∀ (i : Nat) (x : α), xs[i]? = some x → ∃ cs, cs ∈ css ∧ R x cs w ∧ ∀ (j : Nat) (u : Value), cs[j]? = some u → css.flatten[i * size + j]? = some u
  | _, _, .nil, i, x, hx => by simp at hx
  | _, _, @All2.cons _ _ _ y cs ys css h t, 0, x, hx => by
    simp at hx
    subst hx
    refine ⟨cs, by simp, h, fun j u hu => ?_⟩
    rw [List.flatten_cons, Nat.zero_mul, Nat.zero_add, List.getElem?_append_left (List.getElem?_eq_some_iff.1 hu).1]
    exact hu
  | _, _, @All2.cons _ _ _ y cs ys css h t, i + 1, x, hx => by
    obtain ⟨ds, hm, hr, hj⟩ := t.get hR i x (by simpa using hx)
    refine ⟨ds, by simp [hm], hr, fun j u hu => ?_⟩
    have := hR.len _ _ _ h
    rw [List.flatten_cons, List.getElem?_append_right (by rw [this, Nat.add_mul, Nat.one_mul]; omega), ← hj j u hu]
    congr 1
    rw [this, Nat.add_mul, Nat.one_mul]
    omega
theorem All2.take {w : World} : ∀ {xs : List α} {css : List (List Value)} (m : Nat), All2 R w xs css → All2 R w (xs.take m) (css.take m)
  | _, _, 0, _ => by simp; exact .nil
  | _, _, m + 1, .nil => by simp; exact .nil
  | _, _, m + 1, .cons h t => by simp only [List.take_succ_cons]; exact .cons h (t.take m)
theorem All2.drop {w : World} : ∀ {xs : List α} {css : List (List Value)} (m : Nat), All2 R w xs css → All2 R w (xs.drop m) (css.drop m)
  | _, _, 0, h => h
  | _, _, m + 1, .nil => by simp; exact .nil
  | _, _, m + 1, .cons h t => by simp only [List.drop_succ_cons]; exact t.drop m
theorem All2.flat_take {w : World} (hR : Rep size R) : ∀ {xs : List α} {css : List (List Value)} (m : Nat), All2 R w xs css → (css.take m).flatten = css.flatten.take (m * size)
  | _, _, 0, _ => by simp
  | _, _, m + 1, .nil => by simp
  | _, _, m + 1, @All2.cons _ _ _ y cs ys css h t => by
    have := hR.len _ _ _ h
    rw [List.take_succ_cons, List.flatten_cons, List.flatten_cons, t.flat_take hR m, show (m + 1) * size = cs.length + m * size by rw [this, Nat.add_mul, Nat.one_mul, Nat.add_comm]]
    exact (List.take_length_add_append _).symm
theorem All2.flat_drop {w : World} (hR : Rep size R) : ∀ {xs : List α} {css : List (List Value)} (m : Nat), All2 R w xs css → (css.drop m).flatten = css.flatten.drop (m * size)
  | _, _, 0, _ => by simp
  | _, _, m + 1, .nil => by simp
  | _, _, m + 1, @All2.cons _ _ _ y cs ys css h t => by
    have := hR.len _ _ _ h
    rw [List.drop_succ_cons, List.flatten_cons, t.flat_drop hR m, show (m + 1) * size = cs.length + m * size by rw [this, Nat.add_mul, Nat.one_mul, Nat.add_comm]]
    exact (List.drop_length_add_append _).symm

/-- a slice reads as a list -/
structure Lst (size : Nat) (R : α → List Value → World → Prop) (w : World) (A : Option Addr) (n c : Nat) (xs : List α) : Prop where
  len : xs.length = n
  cap : n ≤ c
  max : c ≤ maxLen
  rd : ∃ css, All2 R w xs css ∧ Rd w size A n css.flatten
theorem Lst.n63 {w : World} {A : Option Addr} {n c : Nat} {xs : List α} (h : Lst size R w A n c xs) : n ≤ 9223372036854775807 ∧ c ≤ 9223372036854775807 := by
  have h1 := h.cap
  have h2 := h.max
  unfold maxLen at h2
  omega
theorem Lst.nil (w : World) : Lst size R w none 0 0 ([] : List α) := ⟨rfl, Nat.le_refl _, Nat.zero_le _, [], .nil, by simp, fun h => by omega⟩
theorem Lst.ext (hR : Rep size R) {w w' : World} {A : Option Addr} {n c : Nat} {xs : List α} (h : Lst size R w A n c xs) (hk : Ext w w') : Lst size R w' A n c xs := by
  obtain ⟨css, h1, h2⟩ := h.rd
  exact ⟨h.len, h.cap, h.max, css, h1.mono fun x cs _ hr => hR.keep _ _ _ _ hr fun k hp => Below.block hk k (hR.lt _ _ _ hr k hp), h2.ext hk⟩
theorem Lst.at_ (hR : Rep size R) {w : World} {A : Option Addr} {n c i : Nat} {xs : List α} (h : Lst size R w A n c xs) (hi : i < n) :
    ∃ (ad : Addr) (x : α) (cs : List Value), A = some ad ∧ xs[i]? = some x ∧ R x cs w ∧ ∀ (j : Nat) (u : Value), cs[j]? = some u → w.cell? (ad.add (i * size + j)) = some u := by
  obtain ⟨css, h1, h2⟩ := h.rd
  obtain ⟨ad, e, hc⟩ := h2.2 (by omega)
  have hx : xs[i]? = some (xs[i]'(by rw [h.len]; exact hi)) := List.getElem?_eq_getElem _
  obtain ⟨cs, _, hr, hj⟩ := h1.get hR i _ hx
  exact ⟨ad, _, cs, e, hx, hr, fun j u hu => hc _ _ (hj j u hu)⟩
theorem spot_of_cell {w : World} {a : Addr} {u : Value} (h : w.cell? a = some u) : a.spot = none := by
  unfold World.cell? at h
  split at h
  · cases hs : a.spot with
    | none => rfl
    | some s => simp [hs] at h
  · simp at h
theorem Lst.at2 (hR : Rep size R) (h0 : 0 < size) {w : World} {A : Option Addr} {n c i : Nat} {xs : List α} (h : Lst size R w A n c xs) (hi : i < n) :
    ∃ (g o : Nat) (x : α) (cs : List Value), A = some ⟨g, o, none⟩ ∧ xs[i]? = some x ∧ R x cs w ∧ ∀ (j : Nat) (u : Value), cs[j]? = some u → w.cell? ⟨g, o + i * size + j, none⟩ = some u := by
  obtain ⟨ad, x, cs, e, hx, hr, hc⟩ := h.at_ hR hi
  obtain ⟨ad', x', cs', e', _, hr', hc'⟩ := h.at_ hR (show 0 < n by omega)
  have hl := hR.len _ _ _ hr'
  have hz : cs'[0]? = some (cs'[0]'(by omega)) := List.getElem?_eq_getElem _
  have hs := spot_of_cell (hc' 0 _ hz)
  rw [e] at e'
  injection e' with e'
  subst e'
  obtain ⟨g, o, sp⟩ := ad
  have hsp : sp = none := by simpa [Addr.add] using hs
  subst hsp
  refine ⟨g, o, x, cs, e, hx, hr, fun j u hu => ?_⟩
  have := hc j u hu
  unfold Addr.add at this
  split at this
  · rename_i h0
    rw [show o + i * size + j = o by omega]
    exact this
  · rw [Nat.add_assoc]
    exact this
theorem Lst.upto (hR : Rep size R) {w : World} {A : Option Addr} {n c m : Nat} {xs : List α} (h : Lst size R w A n c xs) (hm : m ≤ n) : Lst size R w A m c (xs.take m) := by
  obtain ⟨css, h1, h2⟩ := h.rd
  have hlen := h.len
  have hcap := h.cap
  refine ⟨by simp; omega, by omega, h.max, css.take m, h1.take m, ?_, fun h0 => ?_⟩
  · rw [(h1.take m).flat hR, List.length_take, hlen, Nat.min_eq_left hm]
  · obtain ⟨ad, e, hc⟩ := h2.2 (by omega)
    refine ⟨ad, e, fun j u hu => hc j u ?_⟩
    rw [h1.flat_take hR, List.getElem?_take] at hu
    split at hu
    · exact hu
    · cases hu
theorem Lst.src {P : Program} (hR : Rep size R) {w : World} {A : Option Addr} {n c : Nat} {xs : List α} (h : Lst size R w A n c xs) {tx e' : TypeId} (hk : P.underlying tx = some (.slice e')) : ∃ css, All2 R w xs css ∧ Src P size tx (.slice A n c) n css.flatten w := by
  obtain ⟨css, h1, h2⟩ := h.rd
  exact ⟨css, h1, h2.src c hk (h1.one hR)⟩

/-- a row of the call's own -/
structure OwnL (e : TypeId) (size : Nat) (R : α → List Value → World → Prop) (w : World) (B : Nat) (A : Option Addr) (n c : Nat) (xs : List α) : Prop where
  len : xs.length = n
  own : ∃ css, All2 R w xs css ∧ Own w B e size A n c css.flatten ∧ ∀ cs ∈ css, ∀ k, Pts cs k → rowOf A c ≠ some k
theorem OwnL.lst {e : TypeId} {w : World} {B : Nat} {A : Option Addr} {n c : Nat} {xs : List α} (h : OwnL e size R w B A n c xs) : Lst size R w A n c xs := by
  obtain ⟨css, h1, h2, _⟩ := h.own
  exact ⟨h.len, h2.caps.1, h2.caps.2, css, h1, h2.rd⟩
theorem OwnL.nil (e : TypeId) (w : World) (B : Nat) (A : Option Addr) : OwnL e size R w B A 0 0 ([] : List α) := ⟨rfl, [], .nil, Own.nil _ _ _ _ _, by simp⟩
theorem OwnL.low {e : TypeId} {w : World} {B B' : Nat} {A : Option Addr} {n c : Nat} {xs : List α} (h : OwnL e size R w B A n c xs) (hB : B' ≤ B) : OwnL e size R w B' A n c xs := by
  obtain ⟨css, h1, h2, h3⟩ := h.own
  exact ⟨h.len, css, h1, h2.low hB, h3⟩
theorem OwnL.ext {e : TypeId} (hR : Rep size R) {w w' : World} {B : Nat} {A : Option Addr} {n c : Nat} {xs : List α} (h : OwnL e size R w B A n c xs) (hk : Ext w w') : OwnL e size R w' B A n c xs := by
  obtain ⟨css, h1, h2, h3⟩ := h.own
  exact ⟨h.len, css, h1.mono fun x cs _ hr => hR.keep _ _ _ _ hr fun k hp => Below.block hk k (hR.lt _ _ _ hr k hp), h2.ext hk, h3⟩
/-- what an append leaves -/
theorem OwnL.more {e : TypeId} (hR : Rep size R) {w w' : World} {B : Nat} {A A' : Option Addr} {n m c c' : Nat} {xs ys : List α} {css dss : List (List Value)}
    (hlx : xs.length = n) (hly : ys.length = m) (h1 : All2 R w xs css) (h3 : ∀ cs ∈ css, ∀ k, Pts cs k → rowOf A c ≠ some k)
    (k1 : All2 R w ys dss) (k3 : ∀ cs ∈ dss, ∀ k, Pts cs k → rowOf A c ≠ some k)
    (ho : Own w' B e size A' (n + m) c' (css.flatten ++ dss.flatten)) (hg : w.grownBy w' (rowOf A c)) (hr : rowOf A' c' = rowOf A c ∨ rowOf A' c' = some w.heap.size) :
    OwnL e size R w' B A' (n + m) c' (xs ++ ys) := by
  have step : ∀ {zs : List α} {ess : List (List Value)}, All2 R w zs ess → (∀ cs ∈ ess, ∀ k, Pts cs k → rowOf A c ≠ some k) → All2 R w' zs ess ∧ ∀ cs ∈ ess, ∀ k, Pts cs k → rowOf A' c' ≠ some k := by
    intro zs ess hz hp
    have hlt : ∀ {zs : List α} {ess : List (List Value)}, All2 R w zs ess → ∀ cs ∈ ess, ∀ k, Pts cs k → k < w.heap.size := by
      intro zs ess hz
      induction hz with
      | nil => intro cs hc; simp at hc
      | cons h t ih =>
        intro cs hc k hk
        rcases List.mem_cons.1 hc with rfl | hc
        · exact hR.lt _ _ _ h k hk
        · exact ih cs hc k hk
    refine ⟨hz.mono fun x cs hm hrx => hR.keep _ _ _ _ hrx fun k hk => hg.block k (hR.lt _ _ _ hrx k hk) fun e => hp cs hm k hk e.symm, fun cs hm k hk => ?_⟩
    rcases hr with hr | hr
    · rw [hr]; exact hp cs hm k hk
    · rw [hr]
      intro e
      injection e with e
      have := hlt hz cs hm k hk
      omega
  obtain ⟨a1, a2⟩ := step h1 h3
  obtain ⟨b1, b2⟩ := step k1 k3
  refine ⟨by simp [hlx, hly], css ++ dss, a1.append b1, by rw [List.flatten_append]; exact ho, fun cs hc k hk => ?_⟩
  rcases List.mem_append.1 hc with hc | hc
  · exact a2 cs hc k hk
  · exact b2 cs hc k hk
theorem OwnL.row_lt {e : TypeId} {w : World} {B : Nat} {A : Option Addr} {n c : Nat} {xs : List α} (h : OwnL e size R w B A n c xs) : ∀ k, rowOf A c = some k → B ≤ k ∧ k < w.heap.size := by
  obtain ⟨css, _, h2, _⟩ := h.own
  exact h2.row_ge
end

/-- an element's cells in a new block of their own -/
theorem src_cells {P : Program} {w : World} {size : Nat} {tx e e' : TypeId} (hk : P.underlying tx = some (.slice e')) (C : Array Value) (hC : C.size = size) (hu : ∀ u ∈ C.toList, u.oneCell' = true) : Src P size tx (.slice (some ⟨w.heap.size, 0, none⟩) 1 1) 1 C.toList (w.alloc (.cells C e)) := by
  refine Src.ofSlice (P := P) _ hk _ 1 1 _ (by simp [hC]) (fun j v hj => ?_) hu
  have hadd : (⟨w.heap.size, 0, none⟩ : Addr).add j = ⟨w.heap.size, j, none⟩ := by unfold Addr.add; split <;> simp_all
  rw [hadd, cell_of_row _ _ j C e (0, 0) (heap_alloc_new w _)]
  simpa using hj

/-! entries -/
structure En where
  t : Int
  s : Int
  d : List UInt8
  deriving DecidableEq
def enR (x : En) (cs : List Value) (w : World) : Prop := ∃ A n c, cs = [.int .i64 x.t, .int .i64 x.s, .slice A n c] ∧ Sl w A n c x.d
theorem pts_slice {cs : List Value} {A : Option Addr} {n k : Nat} (h : Pts cs k) (hcs : ∀ ad m c', Value.slice (some ad) m c' ∈ cs → A = some ad ∧ m = n) : ∃ ad, A = some ad ∧ 0 < n ∧ ad.block = k := by
  obtain ⟨ad, m, c', hm, h0, hb⟩ := h
  obtain ⟨e1, e2⟩ := hcs ad m c' hm
  exact ⟨ad, e1, by omega, hb⟩
theorem en_rep : Rep 3 enR where
  len := by rintro x cs w ⟨A, n, c, rfl, _⟩; rfl
  one := by
    rintro x cs w ⟨A, n, c, rfl, _⟩ u hu
    simp at hu
    rcases hu with rfl | rfl | rfl <;> rfl
  keep := by
    rintro x cs w w' ⟨A, n, c, rfl, hs⟩ hk
    exact ⟨A, n, c, rfl, hs.keepBlk fun ad e hn => hk _ ⟨ad, n, c, by simp [e], hn, rfl⟩⟩
  lt := by
    rintro x cs w ⟨A, n, c, rfl, hs⟩ k hp
    obtain ⟨ad, e, hn, rfl⟩ := pts_slice (A := A) (n := n) hp (by intro ad m c' hm; simp at hm; exact ⟨hm.1.symm, hm.2.1⟩)
    exact hs.blk ad e hn
end Go.Proofs.Ytcchlkialgjamaa
