/-
  Chains: contracts of the reference's Begins, Compare.
-/
import Derived.Test.YtkoknleopmlhcaaTagSame
namespace Go.Proofs.Ytkoknleopmlhcaa
open Go.RowKit
set_option linter.unusedVariables false
set_option linter.unusedSimpArgs false
set_option linter.unnecessarySimpa false
set_option maxRecDepth 100000

abbrev TTg : TypeId := 35
theorem info_tg : (Try.prog.info? TTg).map (fun i => (i.zero, i.size, i.bytes)) = some (some (.agg #[.int .i64 0, .int .i64 0, .int .i64 0, .int .i64 0]), 4, 32) := by kernel_rfl
theorem under_tgs : Try.prog.underlying 24 = some (.slice TTg) := by kernel_rfl
theorem cut_tg {w : World} {A : Option Addr} {n c : Nat} {l : List Tg} (h : Lst 4 tgR w A n c l) (m : Nat) (y : Int) (hy : y = (m : Int)) (hm : m ≤ n) :
    (∀ w', (Instr.slice 24 (.slice A n c) none (some (.int .i64 y)) none).run Try.prog w' = .ok (.slice A m c) w') := by
  subst hy
  have hcap := h.cap
  obtain ⟨i0, hi0, hz0, hz1, hz2⟩ := info_parts info_tg
  intro w'
  have e1 : ((m : Nat) : Int) ≤ (c : Int) := by omega
  have e5 : m ≤ c := by omega
  by_cases hc : c = 0
  · have e6 : m = 0 := by omega
    subst hc e6
    cases A <;> simp [Instr.slice, run_underlying under_tgs, Instr.sliceBounds, run_sliceBound, sizeOf, typeInfo, hi0, hz1]
  · cases A <;> simp [Instr.slice, run_underlying under_tgs, Instr.sliceBounds, run_sliceBound, sizeOf, typeInfo, hi0, hz1, e1, e5, hc, Ne.symm hc, Addr.add]
theorem alike_all : ∀ (xs ys : List Tg), alikeN xs ys = xs.length ↔ xs = ys.take xs.length
  | [], ys => by unfold alikeN; simp
  | x :: xs, [] => by unfold alikeN; simp
  | x :: xs, y :: ys => by
    have := alike_all xs ys
    unfold alikeN
    by_cases e : x = y
    · subst e
      simp [← this]
    · simp [e]

set_option maxHeartbeats 1000000 in
theorem ref_Begins {A : Option Addr} {n c : Nat} {xs : List Tg} {A' : Option Addr} {n' c' : Nat} {ys : List Tg} {ae be : Int} {w : World} (l1 : Lst 4 tgR w A n c xs) (l2 : Lst 4 tgR w A' n' c' ys) {b : Bool} (hb : Hid (beginsB xs ae ys be = b)) :
    Calls Try.prog 32 #[.slice A n c, .int .i64 ae, .slice A' n' c', .int .i64 be] w fun e w' => e = .returned (.bool b) ∧ Ext w w' := by
  have h63 := l1.n63
  have h63' := l2.n63
  have hle := alikeN_le xs ys
  have hall := alike_all xs ys
  rw [l1.len, l2.len] at hle
  rw [l1.len] at hall
  have hb1 := hb.out
  unfold beginsB at hb1
  rw [l1.len] at hb1
  clear hb
  by_cases hnn : n' < n
  · rw [if_pos (by omega)] at hb1
    subst hb1
    clear hall hle
    go_enter Try.func32, Try.ntmps32
    go_wp2_with fail
    go_ret
    exact ⟨rfl, Ext.refl _⟩
  · have hcut := cut_tg l2 n (n : Int) rfl (by omega)
    have lcut := l2.upto tg_rep (m := n) (by omega)
    obtain ⟨q, hq⟩ : ∃ q, sameT xs (ys.take n) = q := ⟨_, rfl⟩
    have HQ := Lib.hid hq
    unfold sameT at hq
    cases q with
    | false =>
      rw [decide_eq_false_iff_not, ← hall] at hq
      rw [if_pos (by omega)] at hb1
      subst hb1
      clear hall hle hq
      go_enter Try.func32, Try.ntmps32
      go_wp2_with fail
      refine (ref_SameTags l1 lcut HQ).mono ?_
      rintro e w2 ⟨rfl, hx2⟩
      go_wp2_with fail
      go_ret
      exact ⟨rfl, hx2⟩
    | true =>
      rw [decide_eq_true_eq, ← hall] at hq
      rw [if_neg (by omega), hq] at hb1
      clear hall hle hq
      by_cases hlt : n < n'
      · obtain ⟨gb, ob, y, ds, rfl, hy, rfl, hd⟩ := l2.at2 tg_rep (by omega) hlt
        rw [nextPt_some hy] at hb1
        have b3 := hd 3 _ rfl
        obtain ⟨y1, y2, y3, y4⟩ := y
        subst hb1
        clear hd hy
        go_enter Try.func32, Try.ntmps32
        go_wp2_with fail
        refine (ref_SameTags l1 lcut HQ).mono ?_
        rintro e w2 ⟨rfl, hx2⟩
        replace b3 := hx2.cell b3
        go_wp2_with fail
        go_ret
        exact ⟨rfl, hx2⟩
      · rw [nextPt_none (by rw [l2.len]; omega)] at hb1
        subst hb1
        go_enter Try.func32, Try.ntmps32
        go_wp2_with fail
        refine (ref_SameTags l1 lcut HQ).mono ?_
        rintro e w2 ⟨rfl, hx2⟩
        go_wp2_with fail
        go_ret
        exact ⟨rfl, hx2⟩

set_option maxHeartbeats 1000000 in
theorem ref_Compare {A : Option Addr} {n c : Nat} {xs : List Tg} {A' : Option Addr} {n' c' : Nat} {ys : List Tg} {ae be : Int} {w : World} (l1 : Lst 4 tgR w A n c xs) (l2 : Lst 4 tgR w A' n' c' ys) {r : Int} (hr : Hid (compareI xs ae ys be = r)) :
    Calls Try.prog 33 #[.slice A n c, .int .i64 ae, .slice A' n' c', .int .i64 be] w fun e w' => e = .returned (.int .i64 r) ∧ Ext w w' := by
  have hr1 := hr.out
  unfold compareI at hr1
  obtain ⟨p, hp⟩ : ∃ p, beginsB xs ae ys be = p := ⟨_, rfl⟩
  obtain ⟨q, hq⟩ : ∃ q, beginsB ys be xs ae = q := ⟨_, rfl⟩
  rw [hp, hq] at hr1
  have HP := Lib.hid hp
  have HQ := Lib.hid hq
  clear hr hp hq
  cases p <;> cases q <;> simp at hr1 <;> subst hr1 <;> (
    go_enter Try.func33, Try.ntmps33
    go_wp2_with fail
    refine (ref_Begins l1 l2 HP).mono ?_
    rintro e w2 ⟨rfl, hx2⟩
    go_wp2_with fail
    refine (ref_Begins (l2.ext tg_rep hx2) (l1.ext tg_rep hx2) HQ).mono ?_
    rintro e w3 ⟨rfl, hx3⟩
    go_wp2_with fail
    go_ret
    exact ⟨rfl, hx2.trans hx3⟩)
end Go.Proofs.Ytkoknleopmlhcaa
