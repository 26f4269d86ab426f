/-
  Cuts of slices of bytes, whatever their bounds, under one name.
-/
import Derived.Test.YtcchlkialgjamaaLib
namespace Go.Proofs.Ytcchlkialgjamaa
open Go.RowKit
set_option linter.unusedVariables false
set_option linter.unusedSimpArgs false

theorem Ext.allocs {a w : World} (h : Ext a w) (o : Obj) : Ext a (w.alloc o) := h.trans (Ext.alloc w o)
theorem Ext.draws {a w : World} (h : Ext a w) : Ext a w.drew := h.trans (Ext.drew w)
theorem Ext.sets {a w : World} {p : Addr} (h : Ext a w) (hp : a.heap.size ≤ p.block) (u : Value) : Ext a (w.setCell p u) := Below.setCell h hp u
theorem grown_nil {w w' : World} {A : Option Addr} (hg : w.grownBy w' (rowOf A 0)) : Ext w w' := below_grown (Ext.refl w) (Own.nil w w.heap.size 0 1 A) hg (Nat.le_refl _)
theorem cut_from {w : World} {A : Option Addr} {n c : Nat} {l : List UInt8} (h : Sl w A n c l) (lo m : Nat) (x : Int) (hx : x = lo) (hm : lo + m = n) :
    ∃ A1 c1, (∀ w', (Instr.slice 22 (.slice A n c) (some (.int .i64 x)) none none).run Try.prog w' = .ok (.slice A1 m c1) w') ∧ Sl w A1 m c1 (l.drop lo) := by
  subst hx
  have hs := h.cut (lo := lo) (hi := n) (by omega) (by omega)
  have hcap := h.cap
  have hln := h.len
  rw [List.take_of_length_le (by rw [List.length_drop, hln]; omega), show n - lo = m by omega] at hs
  obtain ⟨i0, hi0, hz0, hz1, hz2⟩ := info_parts info_u8
  refine ⟨_, _, fun w' => ?_, hs⟩
  have e2 : ((lo : Nat) : Int) ≤ (n : Int) := by omega
  have e3 : lo ≤ n := by omega
  have e4 : n - lo = m := by omega
  simp [Instr.slice, run_underlying under_bytes, Instr.sliceBounds, run_sliceBound, sizeOf, typeInfo, hi0, hz1, e3, e4, hcap, e2]
theorem cut_mid {w : World} {A : Option Addr} {n c : Nat} {l : List UInt8} (h : Sl w A n c l) (lo m : Nat) (x y : Int) (hx : x = lo) (hy : y = ((lo + m : Nat) : Int)) (hm : lo + m ≤ n) :
    ∃ A1 c1, (∀ w', (Instr.slice 22 (.slice A n c) (some (.int .i64 x)) (some (.int .i64 y)) none).run Try.prog w' = .ok (.slice A1 m c1) w') ∧ Sl w A1 m c1 ((l.drop lo).take m) := by
  subst hx hy
  have hs := h.cut (lo := lo) (hi := lo + m) (by omega) (by omega)
  have hcap := h.cap
  rw [show lo + m - lo = m by omega] at hs
  refine ⟨_, _, fun w' => ?_, hs⟩
  have := run_cut w' A n c lo (lo + m) (by omega) (by omega)
  rw [show lo + m - lo = m by omega] at this
  exact this
theorem cut_upto {w : World} {A : Option Addr} {n c : Nat} {l : List UInt8} (h : Sl w A n c l) (m : Nat) (y : Int) (hy : y = (m : Int)) (hm : m ≤ n) :
    (∀ w', (Instr.slice 22 (.slice A n c) none (some (.int .i64 y)) none).run Try.prog w' = .ok (.slice A m c) w') ∧ Sl w A m c (l.take m) := by
  subst hy
  have hcap := h.cap
  obtain ⟨i0, hi0, hz0, hz1, hz2⟩ := info_parts info_u8
  refine ⟨fun w' => ?_, h.upto hm⟩
  have e1 : ((m : Nat) : Int) ≤ (c : Int) := by omega
  have e5 : m ≤ c := by omega
  by_cases hc : c = 0
  · have e6 : m = 0 := by omega
    subst hc e6
    cases A <;> simp [Instr.slice, run_underlying under_bytes, Instr.sliceBounds, run_sliceBound, sizeOf, typeInfo, hi0, hz1]
  · cases A <;> simp [Instr.slice, run_underlying under_bytes, Instr.sliceBounds, run_sliceBound, sizeOf, typeInfo, hi0, hz1, e1, e5, hc, Ne.symm hc, Addr.add]
theorem cut_fromF {w : World} {B : Nat} {A : Option Addr} {n c : Nat} {l : List UInt8} (h : Sl w A n c l) (hfr : ∀ ad, A = some ad → 0 < n → B ≤ ad.block) (lo m : Nat) (x : Int) (hx : x = lo) (hm : lo + m = n) :
    ∃ A1 c1, (∀ w', (Instr.slice 22 (.slice A n c) (some (.int .i64 x)) none none).run Try.prog w' = .ok (.slice A1 m c1) w') ∧ Sl w A1 m c1 (l.drop lo) ∧ ∀ ad, A1 = some ad → 0 < m → B ≤ ad.block := by
  subst hx
  have hs := h.cut (lo := lo) (hi := n) (by omega) (by omega)
  have hcap := h.cap
  have hln := h.len
  rw [List.take_of_length_le (by rw [List.length_drop, hln]; omega), show n - lo = m by omega] at hs
  obtain ⟨i0, hi0, hz0, hz1, hz2⟩ := info_parts info_u8
  refine ⟨_, _, fun w' => ?_, hs, ?_⟩
  · have e2 : ((lo : Nat) : Int) ≤ (n : Int) := by omega
    have e3 : lo ≤ n := by omega
    have e4 : n - lo = m := by omega
    simp [Instr.slice, run_underlying under_bytes, Instr.sliceBounds, run_sliceBound, sizeOf, typeInfo, hi0, hz1, e3, e4, hcap, e2]
  · intro ad e h0
    rw [if_neg (by omega), Option.map_eq_some_iff] at e
    obtain ⟨ad', e', rfl⟩ := e
    rw [block_of_add]
    exact hfr ad' e' (by omega)
end Go.Proofs.Ytcchlkialgjamaa
