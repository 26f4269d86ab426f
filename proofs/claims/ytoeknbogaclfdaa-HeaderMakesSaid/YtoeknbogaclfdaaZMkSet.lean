/-
  A row of marks of the call's own: one field of one of them is written.
-/
import Derived.Test.YtoeknbogaclfdaaZHdParse
namespace Go.Proofs.Ytoeknbogaclfdaa
open Go.RowKit
set_option linter.unusedVariables false

theorem Own.setS {w : World} {B : Nat} {e : TypeId} {size n c g k : Nat} {xs : List Value} (h : Own w B e size (some ⟨g, 0, none⟩) n c xs) (hk : k < n * size) (u : Value) :
    Own (w.setCell ⟨g, k, none⟩ u) B e size (some ⟨g, 0, none⟩) n c (xs.set k u) := by
  rcases h with ⟨_, rfl, _⟩ | ⟨g', cur, hA, hB, hg, h1, h2, h3, h4, h5⟩
  · simp at hk
  · injection hA with hA
    injection hA with hA
    subst hA
    refine .inr ⟨g, cur.setIfInBounds k u, rfl, hB, ?_, h1, h2, by simpa using h3, by simpa using h4, ?_⟩
    · simp [World.setCell, Array.getElem?_modify, hg]
    · rw [Array.toList_setIfInBounds, List.take_set, h5]
def mkL (x : Mk) : List Value := [.int .i64 x.id, .string x.nm, .int .i64 x.sz, .bool x.gone]
theorem all2_mk {w : World} : ∀ {xs : List Mk} {css : List (List Value)}, All2 mkR w xs css → css = xs.map mkL
  | _, _, .nil => rfl
  | _, _, .cons h t => by rw [all2_mk t, List.map_cons]; congr 1
theorem mk_all2 (w : World) : ∀ (xs : List Mk), All2 mkR w xs (xs.map mkL)
  | [] => .nil
  | x :: xs => .cons rfl (mk_all2 w xs)
theorem flat_setM : ∀ (xs : List Mk) (k j : Nat) (v : Value) (x x' : Mk), xs[k]? = some x → j < 4 → (mkL x).set j v = mkL x' → ((xs.map mkL).flatten).set (k * 4 + j) v = ((xs.set k x').map mkL).flatten
  | [], k, j, v, x, x', h, _, _ => by simp at h
  | y :: ys, 0, j, v, x, x', h, hj, hv => by
    simp at h
    subst h
    have e : (mkL y).length = 4 := rfl
    rw [List.map_cons, List.flatten_cons, Nat.zero_mul, Nat.zero_add, List.set_append_left _ _ (by rw [e]; exact hj), hv]
    rfl
  | y :: ys, k + 1, j, v, x, x', h, hj, hv => by
    have e : (mkL y).length = 4 := rfl
    rw [List.map_cons, List.flatten_cons, List.set_append_right _ _ (by rw [e]; omega), e, show (k + 1) * 4 + j - 4 = k * 4 + j by omega, flat_setM ys k j v x x' (by simpa using h) hj hv]
    rfl
theorem OwnL.setM {w : World} {B n c g k j : Nat} {xs : List Mk} (h : OwnL TMk 4 mkR w B (some ⟨g, 0, none⟩) n c xs) {x x' : Mk} (hx : xs[k]? = some x) (hj : j < 4) {v : Value} (hv : (mkL x).set j v = mkL x') :
    OwnL TMk 4 mkR (w.setCell ⟨g, k * 4 + j, none⟩ v) B (some ⟨g, 0, none⟩) n c (xs.set k x') := by
  obtain ⟨css, h1, h2, h3⟩ := h.own
  have hl := h.len
  have hk := (List.getElem?_eq_some_iff.1 hx).1
  obtain rfl := all2_mk h1
  refine ⟨by simp [hl], _, mk_all2 _ _, ?_, fun cs hcs q hq => ?_⟩
  · rw [← flat_setM xs k j v x x' hx hj hv]
    exact Own.setS h2 (by omega) v
  · obtain ⟨y, _, rfl⟩ := List.mem_map.1 hcs
    exact absurd hq (mk_nop (x := y) (w := w) rfl q)
theorem OwnL.openM {w : World} {B n c k : Nat} {A : Option Addr} {xs : List Mk} (h : OwnL TMk 4 mkR w B A n c xs) (hk : k < n) :
    ∃ g x, A = some ⟨g, 0, none⟩ ∧ B ≤ g ∧ g < w.heap.size ∧ xs[k]? = some x ∧ (w.cell? ⟨g, k * 4, none⟩ = some (.int .i64 x.id) ∧ w.cell? ⟨g, k * 4 + 1, none⟩ = some (.string x.nm) ∧ w.cell? ⟨g, k * 4 + 2, none⟩ = some (.int .i64 x.sz) ∧ w.cell? ⟨g, k * 4 + 3, none⟩ = some (.bool x.gone)) ∧ ∀ q, w.frozen? ⟨g, q, none⟩ = false := by
  obtain ⟨css, h1, h2, h3⟩ := h.own
  obtain ⟨g', o, x, cs, hA, hx, hr, hc⟩ := h.lst.at2 mk_rep (by omega) hk
  rcases h2 with ⟨_, rfl, _⟩ | ⟨g, cur, rfl, hB, hg, _⟩
  · omega
  · injection hA with hA
    injection hA with hA1 hA2
    subst hA1 hA2
    obtain rfl := hr
    exact ⟨_, x, rfl, hB, (Array.getElem?_eq_some_iff.1 hg).1, hx, ⟨by simpa using hc 0 _ rfl, by simpa using hc 1 _ rfl, by simpa using hc 2 _ rfl, by simpa using hc 3 _ rfl⟩, fun q => by simp [World.frozen?, hg]⟩
end Go.Proofs.Ytoeknbogaclfdaa
