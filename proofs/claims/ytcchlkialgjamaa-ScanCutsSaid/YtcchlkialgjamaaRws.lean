/-
  Rows of rows of bytes that a call made: an array of slices in a block of its own, each slice in memory of its own.
-/
import Derived.Test.YtcchlkialgjamaaBrow
import Derived.Test.YtcchlkialgjamaaLib
import Derived.Laws.MakeOwn
namespace Go.Proofs.Ytcchlkialgjamaa
open Go.RowKit
set_option linter.unusedVariables false
set_option maxRecDepth 100000

/-- where the rows lie -/
abbrev Spots := Nat → Option Addr × Nat × Nat
def spotV (v : Option Addr × Nat × Nat) : Value := .slice v.1 v.2.1 v.2.2
structure Rws (w : World) (B g N : Nat) (V : Spots) (rows : List (List UInt8)) : Prop where
  len : rows.length = N
  hB : B ≤ g
  blk : ∃ cur : Array Value, w.heap[g]? = some (.cells cur TRow (0, 0)) ∧ cur.size = N ∧ ∀ j, j < N → cur[j]? = some (spotV (V j))
  own : ∀ j r, rows[j]? = some r → Byt U8 w B (V j).1 (V j).2.1 (V j).2.2 r
  notg : ∀ j k, j < N → rowOf (V j).1 (V j).2.2 = some k → k ≠ g
  apart : ∀ i j k, i < N → j < N → i ≠ j → rowOf (V i).1 (V i).2.2 = some k → rowOf (V j).1 (V j).2.2 ≠ some k

theorem Rws.lt {w : World} {B g N : Nat} {V : Spots} {rows : List (List UInt8)} (h : Rws w B g N V rows) : g < w.heap.size := by
  obtain ⟨cur, h1, _⟩ := h.blk
  exact (Array.getElem?_eq_some_iff.1 h1).1
theorem Rws.ext {w w' : World} {B g N : Nat} {V : Spots} {rows : List (List UInt8)} (h : Rws w B g N V rows) (hx : Ext w w') : Rws w' B g N V rows where
  len := h.len
  hB := h.hB
  blk := by
    obtain ⟨cur, h1, h2⟩ := h.blk
    exact ⟨cur, (Below.block hx g h.lt).trans h1, h2⟩
  own := fun j r hr => (h.own j r hr).ext hx
  notg := h.notg
  apart := h.apart
theorem Rws.low {w : World} {B B' g N : Nat} {V : Spots} {rows : List (List UInt8)} (h : Rws w B g N V rows) (hB : B' ≤ B) : Rws w B' g N V rows where
  len := h.len
  hB := Nat.le_trans hB h.hB
  blk := h.blk
  own := fun j r hr => (h.own j r hr).low hB
  notg := h.notg
  apart := h.apart
/-- the row at a place -/
theorem Rws.at_ {w : World} {B g N j : Nat} {V : Spots} {rows : List (List UInt8)} (h : Rws w B g N V rows) (hj : j < N) :
    ∃ A n c r, V j = (A, n, c) ∧ rows[j]? = some r ∧ w.cell? ⟨g, j, none⟩ = some (.slice A n c) ∧ w.frozen? ⟨g, j, none⟩ = false ∧ Byt U8 w B A n c r := by
  obtain ⟨cur, h1, h2, h3⟩ := h.blk
  have hr : rows[j]? = some (rows[j]'(by rw [h.len]; exact hj)) := List.getElem?_eq_getElem _
  obtain ⟨⟨A, n, c⟩, hv⟩ : ∃ v, V j = v := ⟨_, rfl⟩
  have ho := h.own j _ hr
  have hc := h3 j hj
  rw [hv] at ho hc
  refine ⟨A, n, c, _, hv, hr, ?_, by simp [World.frozen?, h1], ho⟩
  rw [cell_of_row w g j cur TRow (0, 0) h1]
  exact hc
/-- a row that has grown, or moved -/
theorem Rws.grow {w w' : World} {B g N j : Nat} {V : Spots} {rows : List (List UInt8)} (h : Rws w B g N V rows) (hj : j < N) {A : Option Addr} {n c : Nat} (hv : V j = (A, n, c)) (hg : w.grownBy w' (rowOf A c))
    {A' : Option Addr} {n' c' : Nat} {r' : List UInt8} (hb : Byt U8 w' B A' n' c' r') (hr : rowOf A' c' = rowOf A c ∨ rowOf A' c' = some w.heap.size) :
    Rws (w'.setCell ⟨g, j, none⟩ (.slice A' n' c')) B g N (fun i => if i = j then (A', n', c') else V i) (rows.set j r') := by
  have hlt := h.lt
  have hng : ∀ k, rowOf A c = some k → k ≠ g := fun k hk => h.notg j k hj (by rw [hv]; exact hk)
  have hng' : ∀ k, rowOf A' c' = some k → k ≠ g := fun k hk => by
    rcases hr with e | e
    · exact hng k (by rw [← e]; exact hk)
    · rw [e] at hk
      injection hk with hk
      omega
  have hrow : ∀ i k, i < N → rowOf (V i).1 (V i).2.2 = some k → k < w.heap.size := fun i k hi hk => ((h.own i _ (List.getElem?_eq_getElem (by rw [h.len]; exact hi))).own.row_ge k hk).2
  have hnew : ∀ i k, i < N → i ≠ j → rowOf (V i).1 (V i).2.2 = some k → rowOf A' c' ≠ some k := fun i k hi hne hk e => by
    rcases hr with e2 | e2
    · exact h.apart i j k hi hj hne hk (by rw [hv]; show rowOf A c = some k; rw [← e2]; exact e)
    · rw [e2] at e
      injection e with e
      have := hrow i k hi hk
      omega
  obtain ⟨cur, h1, h2, h3⟩ := h.blk
  have h1' : w'.heap[g]? = some (.cells cur TRow (0, 0)) := (hg.block g hlt (fun e => hng g e.symm rfl)).trans h1
  refine ⟨by rw [List.length_set]; exact h.len, h.hB, ⟨cur.setIfInBounds j (.slice A' n' c'), by simp [World.setCell, Array.getElem?_modify, h1'], by simpa using h2, fun i hi => ?_⟩, fun i r hri => ?_, fun i k hi hk => ?_, fun i i' k hi hi' hne hk e => ?_⟩
  · by_cases e : i = j
    · subst e
      simp only [if_true]
      rw [Array.getElem?_setIfInBounds_self_of_lt (by omega)]
      rfl
    · simp only [e, if_false]
      rw [Array.getElem?_setIfInBounds_ne (fun q => e q.symm)]
      exact h3 i hi
  · by_cases e : i = j
    · subst e
      rw [List.getElem?_set_self (by rw [h.len]; exact hj)] at hri
      injection hri with hri
      subst hri
      simp only [if_true]
      exact hb.far (fun k hk => hng' k hk) _
    · simp only [e, if_false]
      rw [List.getElem?_set_ne (fun q => e q.symm)] at hri
      have hi : i < N := by rw [← h.len]; exact (List.getElem?_eq_some_iff.1 hri).1
      have ho := h.own i r hri
      have ho' : Byt U8 w' B (V i).1 (V i).2.1 (V i).2.2 r := ⟨ho.len, ho.own.grown hg fun k hk q => h.apart i j k hi hj e hk (by rw [hv]; exact q.symm)⟩
      exact ho'.far (fun k hk => h.notg i k hi hk) _
  · by_cases e : i = j
    · subst e
      simp only [if_true] at hk
      exact hng' k hk
    · simp only [e, if_false] at hk
      exact h.notg i k hi hk
  · by_cases e1 : i = j
    · subst e1
      have e2 : i' ≠ i := fun q => hne q.symm
      simp only [if_true, e2, if_false] at hk e
      exact hnew i' k hi' e2 e hk
    · by_cases e2 : i' = j
      · subst e2
        simp only [if_true, e1, if_false] at hk e
        exact hnew i k hi e1 hk e
      · simp only [e1, e2, if_false] at hk e
        exact h.apart i i' k hi hi' hne hk e
/-- a row that is cut -/
theorem Rws.cut {w : World} {B g N j m : Nat} {V : Spots} {rows : List (List UInt8)} (h : Rws w B g N V rows) (hj : j < N) {A : Option Addr} {n c : Nat} (hv : V j = (A, n, c)) (hm : m ≤ n) {r : List UInt8} (hb : Byt U8 w B A m c r) :
    Rws (w.setCell ⟨g, j, none⟩ (.slice A m c)) B g N (fun i => if i = j then (A, m, c) else V i) (rows.set j r) :=
  h.grow hj hv ⟨rfl, rfl, rfl, Nat.le_refl _, fun _ _ _ => rfl⟩ hb (.inl rfl)
/-- a byte that turns -/
theorem Rws.poke {w : World} {B g N j k gj : Nat} {V : Spots} {rows : List (List UInt8)} (h : Rws w B g N V rows) (hj : j < N) {n c : Nat} (hv : V j = (some ⟨gj, 0, none⟩, n, c)) {r : List UInt8} (hr : rows[j]? = some r) (hk : k < n) (y : UInt8) :
    Rws (w.setCell ⟨gj, k, none⟩ (bv y)) B g N V (rows.set j (r.set k y)) := by
  have ho := h.own j r hr
  rw [hv] at ho
  replace ho : Byt U8 w B (some ⟨gj, 0, none⟩) n c r := ho
  have hc : c ≠ 0 := by have := ho.own.caps.1; omega
  have hrow : rowOf (some ⟨gj, 0, none⟩) c = some gj := by simp [rowOf, hc]
  have hgj : gj ≠ g := h.notg j gj hj (by rw [hv]; exact hrow)
  obtain ⟨cur, h1, h2, h3⟩ := h.blk
  refine ⟨by rw [List.length_set]; exact h.len, h.hB, ⟨cur, (Below.heap_setCell _ _ _ _ (fun e => hgj e.symm)).trans h1, h2, h3⟩, fun i q hq => ?_, h.notg, h.apart⟩
  by_cases e : i = j
  · subst e
    rw [List.getElem?_set_self (by rw [h.len]; exact hj)] at hq
    injection hq with hq
    subst hq
    rw [hv]
    exact ho.set_ hk y
  · rw [List.getElem?_set_ne (fun q => e q.symm)] at hq
    have hi : i < N := by rw [← h.len]; exact (List.getElem?_eq_some_iff.1 hq).1
    exact (h.own i q hq).far (fun k' hk' e' => h.apart i j k' hi hj e hk' (by rw [hv]; show rowOf (some ⟨gj, 0, none⟩) c = some k'; rw [hrow, e'])) _
theorem all2_rows {w : World} : ∀ (rows : List (List UInt8)) (vs : List Value), rows.length = vs.length → (∀ (j : Nat) (r : List UInt8) (v : Value), rows[j]? = some r → vs[j]? = some v → blR r [v] w) → All2 blR w rows (vs.map fun v => [v])
  | [], [], _, _ => .nil
  | [], _ :: _, h, _ => by simp at h
  | _ :: _, [], h, _ => by simp at h
  | r :: rows, v :: vs, h, hr => .cons (hr 0 r v rfl rfl) (all2_rows rows vs (by simpa using h) fun j r v h1 h2 => hr (j + 1) r v (by simpa using h1) (by simpa using h2))
theorem flat_one (vs : List Value) : (vs.map fun v => [v]).flatten = vs := by
  induction vs with
  | nil => rfl
  | cons v vs ih => rw [List.map_cons, List.flatten_cons, ih]; rfl
theorem Rws.lst {w : World} {B g N : Nat} {V : Spots} {rows : List (List UInt8)} (h : Rws w B g N V rows) (hN : N ≤ maxLen) : Lst 1 blR w (some ⟨g, 0, none⟩) N N rows := by
  obtain ⟨cur, h1, h2, h3⟩ := h.blk
  have hO : Own w g TRow 1 (some ⟨g, 0, none⟩) N N cur.toList := .inr ⟨g, cur, rfl, Nat.le_refl _, h1, Nat.le_refl _, hN, by omega, by simp; omega, List.take_of_length_le (by simp; omega)⟩
  refine ⟨h.len, Nat.le_refl _, hN, cur.toList.map fun v => [v], all2_rows _ _ (by simp [h.len, h2]) (fun j r v hr hvj => ?_), ?_⟩
  · have hj : j < N := by rw [← h.len]; exact (List.getElem?_eq_some_iff.1 hr).1
    have e := h3 j hj
    rw [Array.getElem?_toList, e] at hvj
    injection hvj with hvj
    subst hvj
    exact ⟨_, _, _, rfl, (h.own j r hr).sl⟩
  · rw [flat_one]
    exact hO.rd
theorem Rws.made {w : World} {B N : Nat} {C : Array Value} (hC : C.toList = List.replicate N (.slice none 0 0)) (hB : B ≤ w.heap.size) : Rws (w.alloc (.cells C TRow)) B w.heap.size N (fun _ => (none, 0, 0)) (List.replicate N []) where
  len := by simp
  hB := hB
  blk := ⟨C, heap_alloc_new w _, by have := congrArg List.length hC; simpa using this, fun j hj => by
    rw [← Array.getElem?_toList, hC, List.getElem?_replicate_of_lt hj]
    rfl⟩
  own := fun j r hr => by
    have e := List.eq_of_mem_replicate (List.mem_of_getElem? hr)
    subst e
    exact Byt.nil _ _ _ _
  notg := fun j k _ hk => by simp [rowOf] at hk
  apart := fun i j k _ _ _ hk => by simp [rowOf] at hk
theorem make_rows (k : Nat) (x : Int) (hx : x = (k : Int)) (hk : k ≤ 1000000) :
    ∃ C : Array Value, C.toList = List.replicate k (.slice none 0 0) ∧ ∀ w, (Instr.makeSlice 48 (.int .i64 x) (.int .i64 x)).run Try.prog w = .ok (.slice (some ⟨w.heap.size, 0, none⟩) k k) (w.alloc (.cells C TRow)) := by
  subst hx
  obtain ⟨i0, hi0, hz0, hz1, hz2⟩ := info_parts info_row
  refine ⟨madeCells (Value.slice none 0 0).cells k, ?_, fun w => ?_⟩
  · unfold madeCells
    refine List.eq_replicate_iff.2 ⟨by simp, fun b hb => ?_⟩
    simp only [Array.toList_map, List.mem_map] at hb
    obtain ⟨j, _, rfl⟩ := hb
    simp [Value.cells, Nat.mod_one]
  · have := run_makeSlice (P := Try.prog) w 48 TRow i0 _ under_rows hi0 hz0 .i64 .i64 k k (by omega) (by omega) (by rw [hz1]; simp; omega) (by rw [hz2]; omega) (by omega)
    simpa [hz1] using this
end Go.Proofs.Ytcchlkialgjamaa
