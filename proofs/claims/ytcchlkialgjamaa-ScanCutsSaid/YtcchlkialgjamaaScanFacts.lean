/-
  Chapter 11: what frames' entries are; memory that a map's growth leaves.
-/
import Derived.Test.YtcchlkialgjamaaScanPlain
import Derived.Test.YtcchlkialgjamaaBrow
import Derived.Test.YtcchlkialgjamaaInts
import Derived.Test.YtcchlkialgjamaaAppL
import Derived.Test.YtcchlkialgjamaaMapE
namespace Go.Proofs.Ytcchlkialgjamaa
open Go.RowKit
set_option linter.unusedVariables false
set_option maxRecDepth 100000

theorem allL_facts (b : List UInt8) : (∀ x ∈ enL (allL b).1, 1 ≤ x.s ∧ x.s ≤ 1099511627776) ∧ (enL (allL b).1).length * 22 ≤ b.length := by
  induction h : b.length using Nat.strongRecOn generalizing b with
  | _ n ih =>
    subst h
    by_cases h0 : tkE b = 0
    · obtain ⟨_, h1, _, h6⟩ := lay_take h0
      have h2 := rightN_iff.1 h1
      have hd : (b.drop (tkN b + 22)).length = b.length - (tkN b + 22) := List.length_drop
      obtain ⟨i1, i2⟩ := ih _ (by omega) (b.drop (tkN b + 22)) rfl
      rw [allL_yes h0]
      unfold enL at i1 i2 ⊢
      simp only [List.map_cons, List.mem_cons, List.length_cons]
      refine ⟨?_, by omega⟩
      rintro x (rfl | hx)
      · unfold frOf
        simp only
        omega
      · exact i1 x hx
    · rw [allL_no h0]
      simp [enL]
theorem frsOf_next {rows : List (List UInt8)} {k : Nat} {r : List UInt8} (h : rows[k]? = some r) : frsOf (rows.take (k + 1)) = frsOf (rows.take k) ++ enL (allL r).1 := by
  unfold frsOf
  rw [List.take_add_one, h]
  simp
theorem frsOf_num {rows : List (List UInt8)} : ∀ x ∈ frsOf rows, 1 ≤ x.s ∧ x.s ≤ 1099511627776 := by
  unfold frsOf
  intro x hx
  simp only [List.mem_flatten, List.mem_map] at hx
  obtain ⟨l, ⟨r, _, rfl⟩, hx⟩ := hx
  exact (allL_facts r).1 x hx

/-- rows and boxes stay as they are -/
def Calm (w w' : World) : Prop := ∀ (k : Nat) (C : Array Value) (e : TypeId) (q : Nat × Nat), w.heap[k]? = some (Obj.cells C e q) → w'.heap[k]? = w.heap[k]?
theorem cells_of {w : World} {p : Addr} {u : Value} (h : w.cell? p = some u) : ∃ C e q, w.heap[p.block]? = some (Obj.cells C e q) := by
  unfold World.cell? at h
  split at h
  · rename_i C e q hq
    exact ⟨_, _, _, hq⟩
  · simp at h
theorem Calm.cell {w w' : World} (h : Calm w w') {p : Addr} {u : Value} (hc : w.cell? p = some u) : w'.cell? p = some u := by
  obtain ⟨C, e, q, hq⟩ := cells_of hc
  rw [← hc]
  exact World.cell?_of_block (h _ _ _ _ hq)
theorem Calm.of_ext {w w' : World} (h : Ext w w') : Calm w w' := fun k C e q hq => Below.block h k (Array.getElem?_eq_some_iff.1 hq).1
theorem Calm.trans {a b c : World} (h : Calm a b) (k : Calm b c) : Calm a c := fun i C e q hq => (k i C e q ((h i C e q hq).trans hq)).trans (h i C e q hq)
theorem MapE.calm {w w' : World} {b n : Nat} {f : Int → Option Value} (h : MapE w b n f) (hg : w.grownBy w' (some b)) : Calm w w' := by
  obtain ⟨D, ⟨es, clock, hb, r⟩, _⟩ := h
  intro k C e q hq
  refine hg.block k (Array.getElem?_eq_some_iff.1 hq).1 ?_
  intro e
  injection e with e
  subst e
  rw [hq] at hb
  cases hb
theorem Sl.calm {w w' : World} {A : Option Addr} {n c : Nat} {l : List UInt8} (h : Sl w A n c l) (hk : Calm w w') : Sl w' A n c l := ⟨h.len, h.cap, h.max, h.rd.keep fun _ _ hc => hk.cell hc⟩
theorem enR_calm {w w' : World} {x : En} {cs : List Value} (h : enR x cs w) (hk : Calm w w') : enR x cs w' := by
  obtain ⟨A, n, c, rfl, hs⟩ := h
  exact ⟨A, n, c, rfl, hs.calm hk⟩
theorem Lst.calm {w w' : World} {A : Option Addr} {n c : Nat} {xs : List En} (h : Lst 3 enR w A n c xs) (hk : Calm w w') : Lst 3 enR w' A n c xs := by
  obtain ⟨css, h1, h2⟩ := h.rd
  exact ⟨h.len, h.cap, h.max, css, h1.mono fun x cs _ hr => enR_calm hr hk, h2.keep fun _ _ hc => hk.cell hc⟩
/-- what a map holds of a list of entries -/
def Shown (w : World) (f : Int → Option Value) (L : List En) : Prop := ∀ s : Int, (fstEn L s = none → f s = none) ∧ ∀ x, fstEn L s = some x → ∃ A n c, f s = some (.agg #[.int .i64 x.t, .int .i64 x.s, .slice A n c]) ∧ Sl w A n c x.d
theorem Shown.nil (w : World) : Shown w (fun _ => none) [] := fun s => ⟨fun _ => rfl, fun x h => by simp [fstEn] at h⟩
theorem Shown.calm {w w' : World} {f : Int → Option Value} {L : List En} (h : Shown w f L) (hk : Calm w w') : Shown w' f L := fun s => ⟨(h s).1, fun x hx => by
  obtain ⟨A, n, c, e, hs⟩ := (h s).2 x hx
  exact ⟨A, n, c, e, hs.calm hk⟩⟩
/-- an entry whose number is known -/
theorem Shown.more {w : World} {f : Int → Option Value} {L : List En} (h : Shown w f L) {x y : En} (hy : fstEn L x.s = some y) : Shown w f (L ++ [x]) := fun s => by
  have e : fstEn (L ++ [x]) s = fstEn L s := by
    rw [fstEn_app]
    cases hL : fstEn L s with
    | some z => rfl
    | none =>
      unfold fstEn
      rw [Option.none_or, List.find?_cons]
      by_cases hs : x.s = s
      · rw [hs] at hy; rw [hy] at hL; cases hL
      · have : (x.s == s) = false := by simpa using hs
        rw [this]
        rfl
  rw [e]
  exact h s
/-- a new one -/
theorem Shown.put {w : World} {f : Int → Option Value} {L : List En} (h : Shown w f L) {x : En} (hy : fstEn L x.s = none) {A : Option Addr} {n c : Nat} (hs : Sl w A n c x.d) : Shown w (fun j => if j = x.s then some (.agg #[.int .i64 x.t, .int .i64 x.s, .slice A n c]) else f j) (L ++ [x]) := fun s => by
  by_cases e : s = x.s
  · subst e
    rw [fstEn_app, hy]
    refine ⟨fun q => ?_, fun z hz => ?_⟩
    · simp [fstEn] at q
    · simp [fstEn] at hz
      subst hz
      exact ⟨A, n, c, by simp, hs⟩
  · have e2 : fstEn (L ++ [x]) s = fstEn L s := by
      rw [fstEn_app]
      have : fstEn [x] s = none := by
        unfold fstEn
        have : ¬ x.s = s := fun q => e q.symm
        simp [this]
      rw [this, Option.or_none]
    rw [e2]
    simp only [e, if_false]
    exact h s
end Go.Proofs.Ytcchlkialgjamaa
