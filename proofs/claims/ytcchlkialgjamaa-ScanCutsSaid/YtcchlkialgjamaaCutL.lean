/-
  Cuts of slices of any elements.
-/
import Derived.Test.YtcchlkialgjamaaCut
import Derived.Test.YtcchlkialgjamaaLst
namespace Go.Proofs.Ytcchlkialgjamaa
open Go.RowKit
set_option linter.unusedVariables false
set_option linter.unusedSimpArgs false

theorem Lst.cut {α : Type} {size : Nat} {R : α → List Value → World → Prop} (hR : Rep size R) {w : World} {A : Option Addr} {n c lo hi : Nat} {l : List α} (h : Lst size R w A n c l) (h1 : lo ≤ hi) (h2 : hi ≤ n) :
    Lst size R w (if c = lo then A else A.map (·.add (lo * size))) (hi - lo) (c - lo) ((l.drop lo).take (hi - lo)) := by
  have hl := h.len
  have hcap := h.cap
  have hmax := h.max
  obtain ⟨css, q1, q2⟩ := h.rd
  refine ⟨by simp; omega, by omega, by omega, (css.drop lo).take (hi - lo), (q1.drop lo).take _, ?_, fun hn => ?_⟩
  · rw [((q1.drop lo).take _).flat hR, List.length_take, List.length_drop, hl, Nat.min_eq_left (by omega)]
  · obtain ⟨ad, rfl, hc⟩ := q2.2 (by omega)
    rw [if_neg (by omega)]
    refine ⟨ad.add (lo * size), rfl, fun j u hu => ?_⟩
    rw [add_of_add]
    refine hc _ u ?_
    rw [(q1.drop lo).flat_take hR, q1.flat_drop hR, List.getElem?_take] at hu
    split at hu
    · rw [List.getElem?_drop] at hu
      exact hu
    · cases hu
theorem run_cutL {t e : TypeId} {i : TypeInfo} {size : Nat} (ht : Try.prog.underlying t = some (.slice e)) (hi0 : Try.prog.info? e = some i) (hz1 : i.size = size) (w : World) (A : Option Addr) (n c lo hi : Nat) (h1 : lo ≤ hi) (h2 : hi ≤ c) :
    (Instr.slice t (.slice A n c) (some (.int .i64 (lo : Int))) (some (.int .i64 (hi : Int))) none).run Try.prog w = .ok (.slice (if c = lo then A else A.map (·.add (lo * size))) (hi - lo) (c - lo)) w := by
  have e2 : ((lo : Nat) : Int) ≤ (hi : Int) := by omega
  have e3 : ((hi : Nat) : Int) ≤ (c : Int) := by omega
  simp [Instr.slice, run_underlying ht, Instr.sliceBounds, run_sliceBound, sizeOf, typeInfo, hi0, hz1, h1, h2, e2, e3]
theorem cutL_mid {α : Type} {R : α → List Value → World → Prop} {t e : TypeId} {i : TypeInfo} {size : Nat} (hR : Rep size R) (ht : Try.prog.underlying t = some (.slice e)) (hi0 : Try.prog.info? e = some i) (hz1 : i.size = size)
    {w : World} {A : Option Addr} {n c : Nat} {l : List α} (h : Lst size R w A n c l) (lo m : Nat) (x y : Int) (hx : x = lo) (hy : y = ((lo + m : Nat) : Int)) (hm : lo + m ≤ n) :
    ∃ A1 c1, (∀ w', (Instr.slice t (.slice A n c) (some (.int .i64 x)) (some (.int .i64 y)) none).run Try.prog w' = .ok (.slice A1 m c1) w') ∧ Lst size R w A1 m c1 ((l.drop lo).take m) := by
  subst hx hy
  have hs := h.cut hR (lo := lo) (hi := lo + m) (by omega) (by omega)
  have hcap := h.cap
  rw [show lo + m - lo = m by omega] at hs
  refine ⟨_, _, fun w' => ?_, hs⟩
  have := run_cutL ht hi0 hz1 w' A n c lo (lo + m) (by omega) (by omega)
  rw [show lo + m - lo = m by omega] at this
  exact this
theorem cutL_from {α : Type} {R : α → List Value → World → Prop} {t e : TypeId} {i : TypeInfo} {size : Nat} (hR : Rep size R) (ht : Try.prog.underlying t = some (.slice e)) (hi0 : Try.prog.info? e = some i) (hz1 : i.size = size)
    {w : World} {A : Option Addr} {n c : Nat} {l : List α} (h : Lst size R w A n c l) (lo m : Nat) (x : Int) (hx : x = lo) (hm : lo + m = n) :
    ∃ A1 c1, (∀ w', (Instr.slice t (.slice A n c) (some (.int .i64 x)) none none).run Try.prog w' = .ok (.slice A1 m c1) w') ∧ Lst size R w A1 m c1 (l.drop lo) := by
  subst hx
  have hs := h.cut hR (lo := lo) (hi := n) (by omega) (by omega)
  have hcap := h.cap
  have hln := h.len
  rw [List.take_of_length_le (by rw [List.length_drop, hln]; omega), show n - lo = m by omega] at hs
  refine ⟨_, _, fun w' => ?_, hs⟩
  have e2 : ((lo : Nat) : Int) ≤ (n : Int) := by omega
  have e3 : lo ≤ n := by omega
  have e4 : n - lo = m := by omega
  simp [Instr.slice, run_underlying ht, Instr.sliceBounds, run_sliceBound, sizeOf, typeInfo, hi0, hz1, e3, e4, hcap, e2]
theorem cutL_upto {α : Type} {R : α → List Value → World → Prop} {t e : TypeId} {i : TypeInfo} {size : Nat} (hR : Rep size R) (ht : Try.prog.underlying t = some (.slice e)) (hi0 : Try.prog.info? e = some i) (hz1 : i.size = size)
    {w : World} {A : Option Addr} {n c : Nat} {l : List α} (h : Lst size R w A n c l) (m : Nat) (y : Int) (hy : y = (m : Int)) (hm : m ≤ n) :
    (∀ w', (Instr.slice t (.slice A n c) none (some (.int .i64 y)) none).run Try.prog w' = .ok (.slice A m c) w') ∧ Lst size R w A m c (l.take m) := by
  subst hy
  have hcap := h.cap
  refine ⟨fun w' => ?_, h.upto hR hm⟩
  have e1 : ((m : Nat) : Int) ≤ (c : Int) := by omega
  have e5 : m ≤ c := by omega
  by_cases hc : c = 0
  · have e6 : m = 0 := by omega
    subst hc e6
    cases A <;> simp [Instr.slice, run_underlying ht, Instr.sliceBounds, run_sliceBound, sizeOf, typeInfo, hi0, hz1]
  · cases A <;> simp [Instr.slice, run_underlying ht, Instr.sliceBounds, run_sliceBound, sizeOf, typeInfo, hi0, hz1, e1, e5, hc, Ne.symm hc, Addr.add]
end Go.Proofs.Ytcchlkialgjamaa
