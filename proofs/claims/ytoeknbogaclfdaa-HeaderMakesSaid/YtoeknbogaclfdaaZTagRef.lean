/-
  Chains: contracts of the reference's Begins, Compare.
-/
import Derived.Test.YtoeknbogaclfdaaZTagSame
namespace Go.Proofs.Ytoeknbogaclfdaa
open Go.RowKit
set_option linter.unusedVariables false
set_option linter.unusedSimpArgs false
set_option linter.unnecessarySimpa false
set_option maxRecDepth 100000

abbrev TTg : TypeId := 104
theorem info_tg : (Try.prog.info? TTg).map (fun i => (i.zero, i.size, i.bytes)) = some (some (.agg #[.int .i64 0, .int .i64 0, .int .i64 0, .int .i64 0]), 4, 32) := by kernel_rfl
theorem under_tgs : Try.prog.underlying 25 = some (.slice TTg) := by kernel_rfl
theorem cut_tg {w : World} {A : Option Addr} {n c : Nat} {l : List Tg} (h : Lst 4 tgR w A n c l) (m : Nat) (y : Int) (hy : y = (m : Int)) (hm : m ≤ n) :
    (∀ w', (Instr.slice 25 (.slice A n c) none (some (.int .i64 y)) none).run Try.prog w' = .ok (.slice A m c) w') := by
  subst hy
  have hcap := h.cap
  obtain ⟨i0, hi0, hz0, hz1, hz2⟩ := info_parts info_tg
  intro w'
  have e1 : ((m : Nat) : Int) ≤ (c : Int) := by omega
  have e5 : m ≤ c := by omega
  by_cases hc : c = 0
  · have e6 : m = 0 := by omega
    subst hc e6
    cases A <;> simp [Instr.slice, run_underlying under_tgs, Instr.sliceBounds, run_sliceBound, sizeOf, typeInfo, hi0, hz1]
  · cases A <;> simp [Instr.slice, run_underlying under_tgs, Instr.sliceBounds, run_sliceBound, sizeOf, typeInfo, hi0, hz1, e1, e5, hc, Ne.symm hc, Addr.add]
theorem alike_all : ∀ (xs ys : List Tg), alikeN xs ys = xs.length ↔ xs = ys.take xs.length
  | [], ys => by unfold alikeN; simp
  | x :: xs, [] => by unfold alikeN; simp
  | x :: xs, y :: ys => by
    have := alike_all xs ys
    unfold alikeN
    by_cases e : x = y
    · subst e
      simp [← this]
    · simp [e]

end Go.Proofs.Ytoeknbogaclfdaa
