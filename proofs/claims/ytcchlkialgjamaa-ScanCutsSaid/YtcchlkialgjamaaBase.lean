/-
  Words for memory that the walks of this claim share: slices of bytes that read as a list, rows that a call owns, append onto them from whatever source, texts out of bytes. Nothing here names a program.
-/
import Derived.WalkKit
import Derived.WalkLawsBesides
import Derived.WalkSpells
import Derived.BigQuiet
import Derived.Deep.AppendSrc
import Derived.Deep.Draws
import Derived.Lib.Hide
import Derived.Test.YtcchlkialgjamaaReg
namespace Go.Proofs.Ytcchlkialgjamaa
open Go.RowKit
set_option linter.unusedVariables false

/-- nothing that was there has turned -/
def Ext (w w' : World) : Prop := Below w.heap.size w w'
theorem Ext.refl (w : World) : Ext w w := Below.refl _ _
theorem Ext.trans {a b c : World} (h : Ext a b) (k : Ext b c) : Ext a c := Below.trans h (k.mono h.size)
theorem Ext.size {a b : World} (h : Ext a b) : a.heap.size ≤ b.heap.size := Below.size h
theorem Ext.drew (w : World) : Ext w w.drew := (Below.refl _ _).drew
theorem Ext.alloc (w : World) (o : Obj) : Ext w (w.alloc o) := (Below.refl _ _).alloc (Nat.le_refl _) o
theorem Ext.below {a b c : World} {B : Nat} (h : Below B a b) (k : Ext b c) (hB : B ≤ b.heap.size) : Below B a c := h.trans (k.mono hB)
theorem Ext.cell {a b : World} (h : Ext a b) {p : Addr} {u : Value} (hc : a.cell? p = some u) : b.cell? p = some u :=
  (Below.cell h (World.block_lt_of_cell? a p hc)).trans hc
theorem Ext.steady : Steady Ext := ⟨Ext.refl, fun _ _ _ => Ext.trans, fun w => Ext.drew w⟩
theorem below_cell {a b : World} {B : Nat} (h : Below B a b) {p : Addr} {u : Value} (hc : a.cell? p = some u) (hB : a.heap.size ≤ B) : b.cell? p = some u :=
  (Below.cell h (Nat.lt_of_lt_of_le (World.block_lt_of_cell? a p hc) hB)).trans hc

abbrev bv (b : UInt8) : Value := .int .u8 (b.toNat : Int)

/-- the cells of a slice -/
def Rd (w : World) (size : Nat) (A : Option Addr) (n : Nat) (xs : List Value) : Prop :=
  xs.length = n * size ∧ (0 < n → ∃ ad, A = some ad ∧ ∀ j u, xs[j]? = some u → w.cell? (ad.add j) = some u)

theorem Rd.keep {w w' : World} {size n : Nat} {A : Option Addr} {xs : List Value} (h : Rd w size A n xs) (hk : ∀ p u, w.cell? p = some u → w'.cell? p = some u) : Rd w' size A n xs :=
  ⟨h.1, fun hn => by obtain ⟨ad, e, hc⟩ := h.2 hn; exact ⟨ad, e, fun j u hu => hk _ _ (hc j u hu)⟩⟩
theorem Rd.ext {w w' : World} {size n : Nat} {A : Option Addr} {xs : List Value} (h : Rd w size A n xs) (hk : Ext w w') : Rd w' size A n xs := h.keep fun _ _ hc => hk.cell hc
theorem Rd.below {w w' : World} {size n B : Nat} {A : Option Addr} {xs : List Value} (h : Rd w size A n xs) (hk : Below B w w') (hB : w.heap.size ≤ B) : Rd w' size A n xs := h.keep fun _ _ hc => below_cell hk hc hB

/-- a slice of bytes reads as a list -/
structure Sl (w : World) (A : Option Addr) (n c : Nat) (l : List UInt8) : Prop where
  len : l.length = n
  cap : n ≤ c
  max : c ≤ maxLen
  rd : Rd w 1 A n (l.map bv)

theorem Sl.ext {w w' : World} {A : Option Addr} {n c : Nat} {l : List UInt8} (h : Sl w A n c l) (hk : Ext w w') : Sl w' A n c l := ⟨h.len, h.cap, h.max, h.rd.ext hk⟩
theorem Sl.below {w w' : World} {B : Nat} {A : Option Addr} {n c : Nat} {l : List UInt8} (h : Sl w A n c l) (hk : Below B w w') (hB : w.heap.size ≤ B) : Sl w' A n c l := ⟨h.len, h.cap, h.max, h.rd.below hk hB⟩
theorem Sl.nil (w : World) : Sl w none 0 0 [] := ⟨rfl, Nat.le_refl _, Nat.zero_le _, by simp, fun h => by omega⟩
theorem Sl.n63 {w : World} {A : Option Addr} {n c : Nat} {l : List UInt8} (h : Sl w A n c l) : n ≤ 9223372036854775807 ∧ c ≤ 9223372036854775807 := by
  have h1 := h.cap
  have h2 := h.max
  unfold maxLen at h2
  omega
theorem Sl.at_ {w : World} {A : Option Addr} {n c k : Nat} {l : List UInt8} (h : Sl w A n c l) (hk : k < n) : ∃ ad, A = some ad ∧ w.cell? (ad.add k) = some (.int .u8 ((l[k]'(by rw [h.len]; exact hk)).toNat : Int)) := by
  obtain ⟨ad, e, hc⟩ := h.rd.2 (by omega)
  exact ⟨ad, e, hc k _ (by rw [List.getElem?_map, List.getElem?_eq_getElem (by rw [h.len]; exact hk)]; rfl)⟩
theorem Sl.atD {w : World} {A : Option Addr} {n c k : Nat} {l : List UInt8} (h : Sl w A n c l) (hk : k < n) : ∃ ad, A = some ad ∧ w.cell? (ad.add k) = some (.int .u8 ((l.getD k 0).toNat : Int)) := by
  obtain ⟨ad, e, hc⟩ := h.at_ hk
  refine ⟨ad, e, ?_⟩
  rw [hc, List.getD_eq_getElem?_getD, List.getElem?_eq_getElem (by rw [h.len]; exact hk)]
  rfl

theorem block_of_add (a : Addr) (n : Nat) : (a.add n).block = a.block := by unfold Addr.add; split <;> rfl
theorem add_of_add (a : Addr) (i j : Nat) : (a.add i).add j = a.add (i + j) := by
  unfold Addr.add
  by_cases hi : i = 0 <;> by_cases hj : j = 0 <;> simp [hi, hj, Nat.add_assoc]

/-- a cut of a slice, as the model writes it -/
theorem Sl.cut {w : World} {A : Option Addr} {n c lo hi : Nat} {l : List UInt8} (h : Sl w A n c l) (h1 : lo ≤ hi) (h2 : hi ≤ n) :
    Sl w (if c = lo then A else A.map (·.add (lo * 1))) (hi - lo) (c - lo) ((l.drop lo).take (hi - lo)) := by
  have hl := h.len
  refine ⟨by simp; omega, by have := h.cap; omega, by have := h.max; omega, by simp; omega, fun hn => ?_⟩
  obtain ⟨ad, rfl, hc⟩ := h.rd.2 (by omega)
  have hcap := h.cap
  rw [if_neg (by omega)]
  refine ⟨ad.add (lo * 1), rfl, fun j u hu => ?_⟩
  rw [add_of_add]
  refine hc _ u ?_
  rw [List.getElem?_map, List.getElem?_take] at hu
  rw [List.getElem?_map]
  split at hu
  · rw [List.getElem?_drop] at hu
    simpa using hu
  · simp at hu

theorem Sl.upto {w : World} {A : Option Addr} {n c hi : Nat} {l : List UInt8} (h : Sl w A n c l) (h2 : hi ≤ n) : Sl w A hi c (l.take hi) := by
  have hl := h.len
  refine ⟨by simp; omega, Nat.le_trans h2 h.cap, h.max, by simp; omega, fun hn => ?_⟩
  obtain ⟨ad, rfl, hc⟩ := h.rd.2 (by omega)
  refine ⟨ad, rfl, fun j u hu => hc j u ?_⟩
  rw [List.getElem?_map, List.getElem?_take] at hu
  rw [List.getElem?_map]
  split at hu
  · exact hu
  · simp at hu

/-- text out of bytes -/
theorem run_text {P : Program} {w : World} {A : Option Addr} {n c : Nat} {l : List UInt8} (h : Sl w A n c l) (src dst e : TypeId) (hs : P.underlying src = some (.slice e)) (he : P.underlying e = some (.int .u8)) (hd : P.underlying dst = some .string) :
    (convert src dst (.slice A n c)).run P w = .ok (.string ⟨l.toArray⟩) w := by
  have hl := h.len
  subst hl
  rcases Nat.eq_zero_or_pos l.length with h0 | h0
  · have : l = [] := List.eq_nil_of_length_eq_zero h0
    subst this
    cases A with
    | none => exact run_convert_bytes_nil (P := P) w src e hs he 0 c dst hd
    | some ad => exact run_convert_bytes_back (P := P) w src dst e ad c [] hs he hd (by intro j hj; simp at hj)
  · obtain ⟨ad, rfl, hc⟩ := h.rd.2 h0
    exact run_convert_bytes_back (P := P) w src dst e ad c l hs he hd (fun j hj => hc j _ (by rw [List.getElem?_map, List.getElem?_eq_getElem hj]; rfl))

/-- what a second argument of append yields -/
theorem Rd.src {P : Program} {w : World} {size n : Nat} {A : Option Addr} {xs : List Value} (h : Rd w size A n xs) (c : Nat) {tx e' : TypeId} (hk : P.underlying tx = some (.slice e')) (h1 : ∀ u ∈ xs, u.oneCell' = true) :
    Src P size tx (.slice A n c) n xs w := by
  cases A with
  | none =>
    have hn : n = 0 := by
      rcases Nat.eq_zero_or_pos n with h0 | h0
      · exact h0
      · obtain ⟨ad, e, _⟩ := h.2 h0; cases e
    subst hn
    have hx : xs = [] := List.eq_nil_of_length_eq_zero (by simpa using h.1)
    subst hx
    exact Src.ofNil (P := P) w hk c
  | some ad =>
    refine Src.ofSlice (P := P) w hk ad n c xs h.1 (fun j u hu => ?_) h1
    rcases Nat.eq_zero_or_pos n with h0 | h0
    · subst h0
      have hx : xs = [] := List.eq_nil_of_length_eq_zero (by simpa using h.1)
      subst hx
      simp at hu
    · obtain ⟨ad', e, hc⟩ := h.2 h0
      injection e with e
      subst e
      exact hc j u hu

/-- a slice of the call's own: without room at all, or at the head of a block from B on -/
def Own (w : World) (B : Nat) (e : TypeId) (size : Nat) (A : Option Addr) (n c : Nat) (xs : List Value) : Prop :=
  (c = 0 ∧ n = 0 ∧ xs = []) ∨
  ∃ g cur, A = some ⟨g, 0, none⟩ ∧ B ≤ g ∧ w.heap[g]? = some (.cells cur e (0, 0)) ∧ n ≤ c ∧ c ≤ maxLen ∧ cur.size = c * size ∧ xs.length = n * size ∧ cur.toList.take (n * size) = xs

/-- the row that an append onto it may write -/
def rowOf (A : Option Addr) (c : Nat) : Option Nat := if c = 0 then none else A.map (·.block)

section
variable {w w' : World} {B : Nat} {e : TypeId} {size n c : Nat} {A : Option Addr} {xs : List Value}
theorem Own.nil (w : World) (B : Nat) (e : TypeId) (size : Nat) (A : Option Addr) : Own w B e size A 0 0 [] := .inl ⟨rfl, rfl, rfl⟩
theorem Own.made (w : World) (B : Nat) (e : TypeId) (size : Nat) (cur : Array Value) (n c : Nat) (hB : B ≤ w.heap.size) (hn : n ≤ c) (hc : c ≤ maxLen) (hs : cur.size = c * size) :
    Own (w.alloc (.cells cur e)) B e size (some ⟨w.heap.size, 0, none⟩) n c (cur.toList.take (n * size)) :=
  .inr ⟨w.heap.size, cur, rfl, hB, heap_alloc_new w _, hn, hc, hs, by have := Nat.mul_le_mul_right size hn; rw [List.length_take, Array.length_toList, hs]; omega, rfl⟩
theorem Own.length (h : Own w B e size A n c xs) : xs.length = n * size := by
  rcases h with ⟨_, rfl, rfl⟩ | ⟨_, _, _, _, _, _, _, _, h, _⟩
  · simp
  · exact h
theorem Own.caps (h : Own w B e size A n c xs) : n ≤ c ∧ c ≤ maxLen := by
  rcases h with ⟨rfl, rfl, rfl⟩ | ⟨_, _, _, _, _, h1, h2, _⟩
  · exact ⟨Nat.le_refl _, Nat.zero_le _⟩
  · exact ⟨h1, h2⟩
theorem Own.row_ge (h : Own w B e size A n c xs) : ∀ k, rowOf A c = some k → B ≤ k ∧ k < w.heap.size := by
  intro k hk
  unfold rowOf at hk
  split at hk
  · cases hk
  · rename_i h0
    rcases h with ⟨rfl, _⟩ | ⟨g, cur, rfl, hB, hg, _⟩
    · exact absurd rfl h0
    · simp at hk
      subst hk
      exact ⟨hB, (Array.getElem?_eq_some_iff.1 hg).1⟩
theorem Own.keepBlock (h : Own w B e size A n c xs) (hk : ∀ g, rowOf A c = some g → w'.heap[g]? = w.heap[g]?) : Own w' B e size A n c xs := by
  rcases h with h | ⟨g, cur, rfl, hB, hg, h1, h2, h3⟩
  · exact .inl h
  · by_cases h0 : c = 0
    · subst h0
      obtain rfl : n = 0 := by omega
      exact .inl ⟨rfl, rfl, List.eq_nil_of_length_eq_zero (by simpa using h3.2.1)⟩
    · exact .inr ⟨g, cur, rfl, hB, by rw [hk g (by simp [rowOf, h0])]; exact hg, h1, h2, h3⟩
theorem Own.ext (h : Own w B e size A n c xs) (hk : Ext w w') : Own w' B e size A n c xs :=
  h.keepBlock fun g hg => Below.block hk g (h.row_ge g hg).2
theorem Own.grown (h : Own w B e size A n c xs) {row : Option Nat} (hk : w.grownBy w' row) (hne : ∀ g, rowOf A c = some g → some g ≠ row) : Own w' B e size A n c xs :=
  h.keepBlock fun g hg => hk.block g (h.row_ge g hg).2 (hne g hg)
theorem Own.alloc (h : Own w B e size A n c xs) (o : Obj) : Own (w.alloc o) B e size A n c xs := h.ext (Ext.alloc w o)
theorem Own.drew (h : Own w B e size A n c xs) : Own w.drew B e size A n c xs := h.ext (Ext.drew w)
theorem Own.low {B' : Nat} (h : Own w B e size A n c xs) (hB : B' ≤ B) : Own w B' e size A n c xs := by
  rcases h with h | ⟨g, cur, h1, h2, h3⟩
  · exact .inl h
  · exact .inr ⟨g, cur, h1, Nat.le_trans hB h2, h3⟩
theorem Own.rd (h : Own w B e size A n c xs) : Rd w size A n xs := by
  refine ⟨h.length, fun hn => ?_⟩
  rcases h with ⟨_, rfl, _⟩ | ⟨g, cur, rfl, hB, hg, h1, h2, h3, h4, h5⟩
  · omega
  · refine ⟨_, rfl, fun j u hu => ?_⟩
    have hadd : (⟨g, 0, none⟩ : Addr).add j = ⟨g, j, none⟩ := by unfold Addr.add; split <;> simp_all
    rw [hadd, cell_of_row w g j cur e (0, 0) hg]
    rw [← h5, List.getElem?_take] at hu
    split at hu
    · simpa using hu
    · cases hu
end

theorem Own.open_ {w : World} {B : Nat} {e : TypeId} {n c : Nat} {A : Option Addr} {xs : List Value} (h : Own w B e 1 A n c xs) (hn : 0 < n) :
    ∃ g, A = some ⟨g, 0, none⟩ ∧ B ≤ g ∧ g < w.heap.size ∧ (∀ k u, xs[k]? = some u → w.cell? ⟨g, k, none⟩ = some u) ∧ ∀ k, w.frozen? ⟨g, k, none⟩ = false := by
  have hr := h.rd.2 hn
  rcases h with ⟨_, rfl, _⟩ | ⟨g, cur, rfl, hB, hg, h1, h2, h3, h4, h5⟩
  · omega
  · refine ⟨g, rfl, hB, (Array.getElem?_eq_some_iff.1 hg).1, fun k u hu => ?_, fun k => by simp [World.frozen?, hg]⟩
    rw [cell_of_row w g k cur e (0, 0) hg]
    rw [← h5, List.getElem?_take] at hu
    split at hu
    · simpa using hu
    · cases hu
theorem Own.set_ {w : World} {B : Nat} {e : TypeId} {n c g k : Nat} {xs : List Value} (h : Own w B e 1 (some ⟨g, 0, none⟩) n c xs) (hk : k < n) (u : Value) :
    Own (w.setCell ⟨g, k, none⟩ u) B e 1 (some ⟨g, 0, none⟩) n c (xs.set k u) := by
  rcases h with ⟨_, rfl, _⟩ | ⟨g', cur, hA, hB, hg, h1, h2, h3, h4, h5⟩
  · omega
  · injection hA with hA
    injection hA with hA
    subst hA
    refine .inr ⟨g, cur.setIfInBounds k u, rfl, hB, ?_, h1, h2, by simpa using h3, by simpa using h4, ?_⟩
    · simp [World.setCell, Array.getElem?_modify, hg]
    · rw [Array.toList_setIfInBounds, List.take_set, h5]
theorem Own.far {w : World} {B : Nat} {e : TypeId} {size n c : Nat} {A : Option Addr} {xs : List Value} (h : Own w B e size A n c xs) {p : Addr} (hp : ∀ g, rowOf A c = some g → g ≠ p.block) (u : Value) : Own (w.setCell p u) B e size A n c xs :=
  h.keepBlock fun g hg => Below.heap_setCell w p u g (hp g hg)

theorem setCells_row (w : World) (g : Nat) (cur : Array Value) (e : TypeId) (off : Nat) : ∀ (news : List Value), w.heap[g]? = some (.cells cur e (0, 0)) → off + news.length ≤ cur.size →
    ∃ cur', (w.setCells g off news).heap[g]? = some (.cells cur' e (0, 0)) ∧ cur'.size = cur.size ∧ cur'.toList.take (off + news.length) = cur.toList.take off ++ news ∧ w.grownBy (w.setCells g off news) (some g) := by
  intro news
  induction news generalizing w cur off with
  | nil => intro hg _; exact ⟨cur, hg, rfl, by simp, ⟨rfl, rfl, rfl, Nat.le_refl _, fun _ _ _ => rfl⟩⟩
  | cons v r ih =>
    intro hg hl
    simp only [List.length_cons] at hl
    have hg1 : (w.setCell ⟨g, off, none⟩ v).heap[g]? = some (.cells (cur.setIfInBounds off v) e (0, 0)) := by
      simp [World.setCell, Array.getElem?_modify, hg]
    obtain ⟨cur', h1, h2, h3, h4⟩ := ih (w.setCell ⟨g, off, none⟩ v) (cur.setIfInBounds off v) (off + 1) hg1 (by simp; omega)
    refine ⟨cur', by simpa [World.setCells] using h1, by simpa using h2, ?_, ?_⟩
    · rw [show off + (v :: r).length = off + 1 + r.length by simp; omega, h3]
      have : (cur.setIfInBounds off v).toList.take (off + 1) = cur.toList.take off ++ [v] := by
        rw [Array.toList_setIfInBounds]
        rw [List.take_succ_eq_append_getElem (by simp; omega)]
        simp [List.take_set_of_le]
      rw [this]
      simp
    · have hs : w.grownBy (w.setCell ⟨g, off, none⟩ v) (some g) := ⟨rfl, rfl, rfl, by simp [World.setCell], fun k _ hk => Below.heap_setCell w _ v k (fun e => hk (by rw [e]))⟩
      have h4' : (w.setCell ⟨g, off, none⟩ v).grownBy (w.setCells g off (v :: r)) (some g) := by simpa [World.setCells] using h4
      exact ⟨h4'.os.trans hs.os, h4'.tape.trans hs.tape, h4'.output.trans hs.output, Nat.le_trans hs.size h4'.size, fun k hk hne => (h4'.block k (Nat.lt_of_lt_of_le hk hs.size) hne).trans (hs.block k hk hne)⟩

section
variable {P : Program} (w : World)
/-- append onto a slice of the call's own, from whatever source -/
theorem run_append_mine (B : Nat) (t tx ty e : TypeId) (i : TypeInfo) (z : Value) (size bytes : Nat) (ht : P.underlying t = some (.slice e)) (hi : P.info? e = some i) (hz : i.zero = some z)
    (hsize : i.size = size) (hby : i.bytes = bytes) (hzs : z.cells.size = size)
    (A : Option Addr) (n c : Nat) (xs : List Value) (hown : Own w B e size A n c xs) (x : Value) (m : Nat) (news : List Value) (hs : Src P size tx x m news w)
    (h63 : n + m ≤ maxLen) (hbytes : (n + m) * bytes ≤ 140737488355328) (hB : B ≤ w.heap.size) :
    ∃ A' c' w', (Builtin.append_ #[t, tx] ty #[.slice A n c, x]).run P w = .ok (.slice A' (n + m) c') w' ∧ Own w' B e size A' (n + m) c' (xs ++ news) ∧ w.grownBy w' (rowOf A c) ∧
      (rowOf A' c' = rowOf A c ∨ rowOf A' c' = some w.heap.size) := by
  subst hsize
  subst hby
  have hlen : (xs ++ news).length = (n + m) * i.size := by rw [List.length_append, hown.length, hs.newsLen, Nat.add_mul]
  by_cases hroom : n + m ≤ c
  · rcases hown with ⟨rfl, rfl, rfl⟩ | ⟨g, cur, rfl, hBg, hg, h1, h2, h3, h4, h5⟩
    · obtain rfl : m = 0 := by omega
      have hn : news = [] := List.eq_nil_of_length_eq_zero (by simpa using hs.newsLen)
      subst hn
      refine ⟨A, 0, w, ?_, .inl ⟨rfl, rfl, rfl⟩, ⟨rfl, rfl, rfl, Nat.le_refl _, fun _ _ _ => rfl⟩, .inl rfl⟩
      have hc := hs.cells
      cases A <;> rcases hs.kind with ⟨e', hk⟩ | hk <;> simp [Builtin.append_, run_underlying ht, run_underlying hk, sizeOf, typeInfo, hi, hs.len, hc, storeCells]
    · have hfit : n * i.size + news.length ≤ cur.size := by rw [hs.newsLen, h3, ← Nat.add_mul]; exact Nat.mul_le_mul_right _ hroom
      have hcell : ∀ j, j < news.length → (w.cell? ⟨g, 0 + n * i.size + j, none⟩).isSome = true := by
        intro j hj
        rw [cell_of_row w g _ cur e (0, 0) hg, Array.getElem?_eq_getElem (by omega)]
        rfl
      have hfr : ∀ j, j < news.length → w.frozen? ⟨g, 0 + n * i.size + j, none⟩ = false := by
        intro j _
        simp [World.frozen?, hg]
      have hr := run_append_room_src (P := P) w t tx ty e i ht hi g 0 n c x m news hs hroom hcell hfr
      obtain ⟨cur', k1, k2, k3, k4⟩ := setCells_row w g cur e (n * i.size) news hg hfit
      simp only [Nat.zero_add] at hr
      refine ⟨_, _, _, hr, .inr ⟨g, cur', rfl, hBg, k1, hroom, h2, by rw [k2, h3], hlen, ?_⟩, ?_, .inl rfl⟩
      · rw [Nat.add_mul, ← hs.newsLen, k3, h5]
      · by_cases h0 : c = 0
        · subst h0
          obtain rfl : m = 0 := by omega
          have hn : news = [] := List.eq_nil_of_length_eq_zero (by simpa using hs.newsLen)
          subst hn
          exact ⟨rfl, rfl, rfl, Nat.le_refl _, fun _ _ _ => rfl⟩
        · simpa [rowOf, h0] using k4
  · have hrd := hown.rd
    have hold : (Builtin.firstCells i.size n (.slice A n c)).run P w.drew = .ok xs.toArray w.drew := by
      rcases Nat.eq_zero_or_pos n with h0 | h0
      · subst h0
        have hx : xs = [] := List.eq_nil_of_length_eq_zero (by simpa using hown.length)
        subst hx
        cases A with
        | none => exact run_firstCells_none w.drew i.size 0 0 c
        | some ad => exact run_firstCells_some w.drew i.size 0 ad 0 c [] (by simp) (by intro j v hj; simp at hj)
      · obtain ⟨ad, rfl, hc⟩ := hrd.2 h0
        exact run_firstCells_some w.drew i.size n ad n c xs hown.length (by simpa using hc)
    have hcn := hown.caps
    have hr := run_append_grow_src (P := P) w t tx ty e i z ht hi hz A n c xs hold x m news hs (by omega) (by simp only [maxLen] at h63; omega) (growslice_fits (by omega) hbytes)
    have hge := grownCap_ge w (n + m) c e
    have hcm : grownCap w (n + m) c e ≤ maxLen := grownCap_le_maxLen w (n + m) c e h63
    have hBd : B ≤ w.drew.heap.size := hB
    refine ⟨_, _, _, hr, .inr ⟨w.heap.size, _, rfl, hB, heap_alloc_new w.drew _, hge, hcm, ?_, hlen, ?_⟩, ⟨rfl, rfl, rfl, by simp, fun k hk _ => Below.heap_alloc w.drew _ k hk⟩, ?_⟩
    · simp only [Array.size_append, List.size_toArray, size_zeroCells, hzs, hlen, ← Nat.add_mul]
      congr 1
      omega
    · simp only [Array.toList_append]
      rw [← hlen]
      exact List.take_left
    · right
      have : grownCap w (n + m) c e ≠ 0 := by omega
      simp [rowOf, this]

theorem wp_append_mine {o : Oper} {a : Act} {K : Act → World → Prop} {Q : Exit → Act → World → Prop} (s y : Operand) (t tx : TypeId)
    (ho : o.op = .call { callee := .builtin .append, args := #[s, y], argTypes := #[t, tx] })
    (B : Nat) (e : TypeId) (i : TypeInfo) (z : Value) (size bytes : Nat) (ht : P.underlying t = some (.slice e)) (hi : P.info? e = some i) (hz : i.zero = some z)
    (hsize : i.size = size) (hby : i.bytes = bytes) (hzs : z.cells.size = size)
    (A : Option Addr) (n c : Nat) (xs : List Value) (hsv : a.eval s = .slice A n c) (hown : Own w B e size A n c xs) (x : Value) (hy : a.eval y = x) (m : Nat) (news : List Value) (hs : Src P size tx x m news w)
    (h63 : n + m ≤ maxLen) (hbytes : (n + m) * bytes ≤ 140737488355328) (hB : B ≤ w.heap.size)
    (h : ∀ A' c' w', Own w' B e size A' (n + m) c' (xs ++ news) → w.grownBy w' (rowOf A c) → (rowOf A' c' = rowOf A c ∨ rowOf A' c' = some w.heap.size) → K (a.put o.dst (.slice A' (n + m) c')) w') : o.wp P a w K Q := by
  obtain ⟨A', c', w', hr, h2, h3, h4⟩ := run_append_mine (P := P) w B t tx o.type e i z size bytes ht hi hz hsize hby hzs A n c xs hown x m news hs h63 hbytes hB
  unfold Oper.wp execOp
  simp only [ho, resolve, invoke, builtin, Sem.run_bind, Sem.run_pure, Result.andThen_ok, List.map_toArray, List.map_cons, List.map_nil, hsv, hy, hr]
  exact h A' c' w' h2 h3 h4

theorem wpList_append_mine {ops : Array Oper} {rest : List Oper} {o : Oper} {a : Act} {Q : Exit → Act → World → Prop} (hgd : o.guard = none) (s y : Operand) (t tx : TypeId)
    (ho : o.op = .call { callee := .builtin .append, args := #[s, y], argTypes := #[t, tx] })
    (B : Nat) (e : TypeId) (i : TypeInfo) (z : Value) (size bytes : Nat) (ht : P.underlying t = some (.slice e)) (hi : P.info? e = some i) (hz : i.zero = some z)
    (hsize : i.size = size) (hby : i.bytes = bytes) (hzs : z.cells.size = size)
    (A : Option Addr) (n c : Nat) (xs : List Value) (hsv : a.eval s = .slice A n c) (hown : Own w B e size A n c xs) (x : Value) (hy : a.eval y = x) (m : Nat) (news : List Value) (hs : Src P size tx x m news w)
    (h63 : n + m ≤ maxLen) (hbytes : (n + m) * bytes ≤ 140737488355328) (hB : B ≤ w.heap.size)
    (h : ∀ A' c' w', Own w' B e size A' (n + m) c' (xs ++ news) → w.grownBy w' (rowOf A c) → (rowOf A' c' = rowOf A c ∨ rowOf A' c' = some w.heap.size) → wpList P ops Q rest (a.put o.dst (.slice A' (n + m) c')) w') : wpList P ops Q (o :: rest) a w :=
  wpList_plain hgd fun _ hK => wp_append_mine w s y t tx ho B e i z size bytes ht hi hz hsize hby hzs A n c xs hsv hown x hy m news hs h63 hbytes hB fun A' c' w' h2 h3 h4 => hK _ _ (h A' c' w' h2 h3 h4)
end

theorem below_grown {a w w' : World} {B : Nat} {A : Option Addr} {c : Nat} {e : TypeId} {size n : Nat} {xs : List Value} (h : Below B a w) (ho : Own w B e size A n c xs) (hg : w.grownBy w' (rowOf A c)) (hB : B ≤ w.heap.size) : Below B a w' :=
  Below.grown h hg hB fun k hk => (ho.row_ge k hk).1

/-- bytes of the call's own -/
structure Byt (E : TypeId) (w : World) (B : Nat) (A : Option Addr) (n c : Nat) (l : List UInt8) : Prop where
  len : l.length = n
  own : Own w B E 1 A n c (l.map bv)

theorem Byt.sl {E : TypeId} {w : World} {B : Nat} {A : Option Addr} {n c : Nat} {l : List UInt8} (h : Byt E w B A n c l) : Sl w A n c l :=
  ⟨h.len, h.own.caps.1, h.own.caps.2, h.own.rd⟩
theorem Byt.ext {E : TypeId} {w w' : World} {B : Nat} {A : Option Addr} {n c : Nat} {l : List UInt8} (h : Byt E w B A n c l) (hk : Ext w w') : Byt E w' B A n c l := ⟨h.len, h.own.ext hk⟩
theorem Byt.low {E : TypeId} {w : World} {B B' : Nat} {A : Option Addr} {n c : Nat} {l : List UInt8} (h : Byt E w B A n c l) (hB : B' ≤ B) : Byt E w B' A n c l := ⟨h.len, h.own.low hB⟩
theorem Byt.nil (E : TypeId) (w : World) (B : Nat) (A : Option Addr) : Byt E w B A 0 0 [] := ⟨rfl, Own.nil w B E 1 A⟩
theorem Byt.open_ {E : TypeId} {w : World} {B : Nat} {A : Option Addr} {n c : Nat} {l : List UInt8} (h : Byt E w B A n c l) (hn : 0 < n) :
    ∃ g, A = some ⟨g, 0, none⟩ ∧ B ≤ g ∧ g < w.heap.size ∧ ∀ k, k < n → w.cell? ⟨g, k, none⟩ = some (.int .u8 ((l.getD k 0).toNat : Int)) ∧ w.frozen? ⟨g, k, none⟩ = false := by
  obtain ⟨g, h1, h2, h3, h4, h5⟩ := h.own.open_ hn
  refine ⟨g, h1, h2, h3, fun k hk => ⟨h4 k _ ?_, h5 k⟩⟩
  rw [List.getElem?_map, List.getD_eq_getElem?_getD, List.getElem?_eq_getElem (by rw [h.len]; exact hk)]
  rfl
theorem Byt.set_ {E : TypeId} {w : World} {B n c g k : Nat} {l : List UInt8} (h : Byt E w B (some ⟨g, 0, none⟩) n c l) (hk : k < n) (b : UInt8) :
    Byt E (w.setCell ⟨g, k, none⟩ (bv b)) B (some ⟨g, 0, none⟩) n c (l.set k b) := ⟨by simp [h.len], by rw [List.map_set]; exact h.own.set_ hk _⟩
theorem Byt.far {E : TypeId} {w : World} {B : Nat} {A : Option Addr} {n c : Nat} {l : List UInt8} (h : Byt E w B A n c l) {p : Addr} (hp : ∀ g, rowOf A c = some g → g ≠ p.block) (u : Value) : Byt E (w.setCell p u) B A n c l := ⟨h.len, h.own.far hp u⟩
theorem bv_one (l : List UInt8) : ∀ u ∈ l.map bv, u.oneCell' = true := by
  intro u hu
  obtain ⟨b, _, rfl⟩ := List.mem_map.1 hu
  rfl
theorem Sl.src {P : Program} {w : World} {A : Option Addr} {n c : Nat} {l : List UInt8} (h : Sl w A n c l) {tx e' : TypeId} (hk : P.underlying tx = some (.slice e')) : Src P 1 tx (.slice A n c) n (l.map bv) w :=
  h.rd.src c hk (bv_one l)
/-- a new block of bytes -/
theorem sl_new (w : World) (cs : Array Value) (e : TypeId) (fr : Nat × Nat) (l : List UInt8) (hcs : cs.toList = l.map bv) (hm : l.length ≤ maxLen) : Sl (w.alloc (.cells cs e fr)) (some ⟨w.heap.size, 0, none⟩) l.length l.length l := by
  refine ⟨rfl, Nat.le_refl _, hm, by simp, fun _ => ⟨_, rfl, fun j u hu => ?_⟩⟩
  have hadd : (⟨w.heap.size, 0, none⟩ : Addr).add j = ⟨w.heap.size, j, none⟩ := by unfold Addr.add; split <;> simp_all
  rw [hadd, cell_of_row _ _ j cs e fr (heap_alloc_new w _)]
  rw [← hcs] at hu
  simpa using hu

/-- as types of a region's temporaries -/
def SlT (l : List UInt8) : Ty := fun v w => ∃ A n c, v = .slice A n c ∧ Sl w A n c l
theorem SlT.keeps (l : List UInt8) : Keeps Ext (SlT l) := fun _ _ _ hx ⟨A, n, c, e, h⟩ => ⟨A, n, c, e, h.ext hx⟩
def BytT (E : TypeId) (B : Nat) (l : List UInt8) : Ty := fun v w => ∃ A n c, v = .slice A n c ∧ Byt E w B A n c l
theorem BytT.keeps (E : TypeId) (B : Nat) (l : List UInt8) : Keeps Ext (BytT E B l) := fun _ _ _ hx ⟨A, n, c, e, h⟩ => ⟨A, n, c, e, h.ext hx⟩

/-- one cell in a new block of its own -/
theorem src_one {P : Program} {w : World} {tx e e' : TypeId} (hk : P.underlying tx = some (.slice e')) (u : Value) (hu : u.oneCell' = true) : Src P 1 tx (.slice (some ⟨w.heap.size, 0, none⟩) 1 1) 1 [u] (w.alloc (.cells #[u] e)) := by
  refine Src.ofSlice (P := P) _ hk _ 1 1 _ (by simp) (fun j v hj => ?_) (fun v hv => ?_)
  · match j, hj with
    | 0, hj => simp at hj; subst hj; exact cell_of_row _ _ 0 #[u] e (0, 0) (heap_alloc_new w _)
    | j + 1, hj => simp at hj
  · simp at hv
    subst hv
    exact hu
theorem Byt.more {E : TypeId} {w' : World} {B : Nat} {A' : Option Addr} {n m c' : Nat} {l l2 : List UInt8} {news : List Value} (hl : l.length = n) (hm : l2.length = m) (h : Own w' B E 1 A' (n + m) c' (l.map bv ++ news)) (hn : news = l2.map bv) :
    Byt E w' B A' (n + m) c' (l ++ l2) := ⟨by simp [hl, hm], by subst hn; simpa using h⟩
theorem byte_of_nat (x k : Nat) : ((x : Int) / 2 ^ (8 * k) % 256) = ((UInt8.ofNat (x / 256 ^ k)).toNat : Int) := by
  have e : (2 : Int) ^ (8 * k) = ((256 ^ k : Nat) : Int) := by
    rw [Int.pow_mul, Int.natCast_pow]
    rfl
  rw [e]
  have : (UInt8.ofNat (x / 256 ^ k)).toNat = x / 256 ^ k % 256 := by simp
  rw [this]
  omega
end Go.Proofs.Ytcchlkialgjamaa
