/-
  Chains: how two lie to each other: contracts of the program's Begins, Compare, Fork.
-/
import Derived.Test.YtkoknleopmlhcaaTag
namespace Go.Proofs.Ytkoknleopmlhcaa
open Go.RowKit
set_option linter.unusedVariables false
set_option linter.unusedSimpArgs false
set_option linter.unnecessarySimpa false
set_option maxRecDepth 100000

theorem alikeN_le : ∀ (xs ys : List Tg), alikeN xs ys ≤ xs.length ∧ alikeN xs ys ≤ ys.length
  | [], ys => by unfold alikeN; simp
  | x :: xs, [] => by unfold alikeN; simp
  | x :: xs, y :: ys => by
    have := alikeN_le xs ys
    unfold alikeN
    split <;> simp <;> omega
/-- where the part behind the first ones alike begins -/
def nextPt (ys : List Tg) (k : Nat) (be : Int) : Int := match ys[k]? with | some y => y.pt | none => be
theorem nextPt_some {ys : List Tg} {k : Nat} {y : Tg} (h : ys[k]? = some y) (be : Int) : nextPt ys k be = y.pt := by unfold nextPt; rw [h]
theorem nextPt_none {ys : List Tg} {k : Nat} (h : ys.length ≤ k) (be : Int) : nextPt ys k be = be := by unfold nextPt; rw [List.getElem?_eq_none h]
def beginsB (xs : List Tg) (ae : Int) (ys : List Tg) (be : Int) : Bool := if alikeN xs ys < xs.length then false else decide (ae ≤ nextPt ys (alikeN xs ys) be)
def compareI (xs : List Tg) (ae : Int) (ys : List Tg) (be : Int) : Int :=
  if beginsB xs ae ys be = true ∧ beginsB ys be xs ae = true then 0 else if beginsB xs ae ys be = true then -1 else if beginsB ys be xs ae = true then 1 else 2
def capPt (ys : List Tg) (k : Nat) (e : Int) : Int := match ys[k]? with | some y => min e y.pt | none => e
def forkI (xs : List Tg) (ae : Int) (ys : List Tg) (be : Int) : Int := max (capPt ys (alikeN xs ys) (capPt xs (alikeN xs ys) (min ae be))) 0

set_option maxHeartbeats 1000000 in
theorem chain_Begins {A : Option Addr} {n c : Nat} {xs : List Tg} {A' : Option Addr} {n' c' : Nat} {ys : List Tg} {ae be : Int} {w : World} (l1 : Lst 4 tgR w A n c xs) (l2 : Lst 4 tgR w A' n' c' ys) {b : Bool} (hb : Hid (beginsB xs ae ys be = b)) :
    Calls Try.prog 29 #[.slice A n c, .int .i64 ae, .slice A' n' c', .int .i64 be] w fun e w' => e = .returned (.bool b) ∧ Ext w w' := by
  have h63 := l1.n63
  have h63' := l2.n63
  have hle := alikeN_le xs ys
  rw [l1.len, l2.len] at hle
  have hb1 := hb.out
  unfold beginsB at hb1
  rw [l1.len] at hb1
  obtain ⟨r, hr⟩ : ∃ r, alikeN xs ys = r := ⟨_, rfl⟩
  rw [hr] at hle hb1
  have HR := Lib.hid hr
  clear hr hb
  by_cases hrn : r < n
  · rw [if_pos hrn] at hb1
    subst hb1
    go_enter Try.func29, Try.ntmps29
    go_wp2_with fail
    refine (chain_alike l1 l2 HR).mono ?_
    rintro e w2 ⟨rfl, hx2⟩
    go_wp2_with fail
    go_ret
    exact ⟨rfl, hx2⟩
  · rw [if_neg hrn] at hb1
    by_cases hrn' : r < n'
    · obtain ⟨gb, ob, y, ds, rfl, hy, rfl, hd⟩ := l2.at2 tg_rep (by omega) hrn'
      rw [nextPt_some hy] at hb1
      have b3 := hd 3 _ rfl
      obtain ⟨y1, y2, y3, y4⟩ := y
      subst hb1
      clear hd hy
      go_enter Try.func29, Try.ntmps29
      go_wp2_with fail
      refine (chain_alike l1 l2 HR).mono ?_
      rintro e w2 ⟨rfl, hx2⟩
      replace b3 := hx2.cell b3
      go_wp2_with fail
      go_ret
      exact ⟨rfl, hx2⟩
    · rw [nextPt_none (by rw [l2.len]; omega)] at hb1
      subst hb1
      go_enter Try.func29, Try.ntmps29
      go_wp2_with fail
      refine (chain_alike l1 l2 HR).mono ?_
      rintro e w2 ⟨rfl, hx2⟩
      go_wp2_with fail
      go_ret
      exact ⟨rfl, hx2⟩

set_option maxHeartbeats 1000000 in
theorem chain_Compare {A : Option Addr} {n c : Nat} {xs : List Tg} {A' : Option Addr} {n' c' : Nat} {ys : List Tg} {ae be : Int} {w : World} (l1 : Lst 4 tgR w A n c xs) (l2 : Lst 4 tgR w A' n' c' ys) {r : Int} (hr : Hid (compareI xs ae ys be = r)) :
    Calls Try.prog 30 #[.slice A n c, .int .i64 ae, .slice A' n' c', .int .i64 be] w fun e w' => e = .returned (.int .i64 r) ∧ Ext w w' := by
  have hr1 := hr.out
  unfold compareI at hr1
  obtain ⟨p, hp⟩ : ∃ p, beginsB xs ae ys be = p := ⟨_, rfl⟩
  obtain ⟨q, hq⟩ : ∃ q, beginsB ys be xs ae = q := ⟨_, rfl⟩
  rw [hp, hq] at hr1
  have HP := Lib.hid hp
  have HQ := Lib.hid hq
  clear hr hp hq
  cases p <;> cases q <;> simp at hr1 <;> subst hr1 <;> (
    go_enter Try.func30, Try.ntmps30
    go_wp2_with fail
    refine (chain_Begins l1 l2 HP).mono ?_
    rintro e w2 ⟨rfl, hx2⟩
    go_wp2_with fail
    refine (chain_Begins (l2.ext tg_rep hx2) (l1.ext tg_rep hx2) HQ).mono ?_
    rintro e w3 ⟨rfl, hx3⟩
    go_wp2_with fail
    go_ret
    exact ⟨rfl, hx2.trans hx3⟩)
set_option maxHeartbeats 1000000 in
theorem chain_Fork {A : Option Addr} {n c : Nat} {xs : List Tg} {A' : Option Addr} {n' c' : Nat} {ys : List Tg} {ae be : Int} {w : World} (l1 : Lst 4 tgR w A n c xs) (l2 : Lst 4 tgR w A' n' c' ys) {z : Int} (hz : Hid (forkI xs ae ys be = z)) :
    Calls Try.prog 34 #[.slice A n c, .int .i64 ae, .slice A' n' c', .int .i64 be] w fun e w' => e = .returned (.int .i64 z) ∧ Ext w w' := by
  have h63 := l1.n63
  have h63' := l2.n63
  have hle := alikeN_le xs ys
  rw [l1.len, l2.len] at hle
  have hz1 := hz.out
  unfold forkI at hz1
  obtain ⟨r, hr⟩ : ∃ r, alikeN xs ys = r := ⟨_, rfl⟩
  rw [hr] at hle hz1
  have HR := Lib.hid hr
  clear hr hz
  by_cases hrn : r < n
  · obtain ⟨ga, oa, x, cs, rfl, hx, rfl, hc⟩ := l1.at2 tg_rep (by omega) hrn
    rw [show capPt xs r (min ae be) = min (min ae be) x.pt by unfold capPt; rw [hx]] at hz1
    have a3 := hc 3 _ rfl
    obtain ⟨x1, x2, x3, x4⟩ := x
    clear hc hx
    by_cases hrn' : r < n'
    · obtain ⟨gb, ob, y, ds, rfl, hy, rfl, hd⟩ := l2.at2 tg_rep (by omega) hrn'
      rw [show ∀ e, capPt ys r e = min e y.pt from fun e => by unfold capPt; rw [hy]] at hz1
      have b3 := hd 3 _ rfl
      obtain ⟨y1, y2, y3, y4⟩ := y
      simp only at hz1 a3 b3
      subst hz1
      clear hd hy
      go_enter Try.func34, Try.ntmps34
      go_wp2_with fail
      refine (chain_alike l1 l2 HR).mono ?_
      rintro e w2 ⟨rfl, hx2⟩
      replace a3 := hx2.cell a3; replace b3 := hx2.cell b3
      go_wp2_with fail
      all_goals (
        go_ret
        refine ⟨congrArg (fun z => Ending.returned (.int .i64 z)) ?_, hx2⟩
        simp only [Int.max_def, Int.min_def]
        repeat' split
        all_goals omega)
    · rw [show ∀ e, capPt ys r e = e from fun e => by unfold capPt; rw [List.getElem?_eq_none (by rw [l2.len]; omega)]] at hz1
      simp only at hz1 a3
      subst hz1
      go_enter Try.func34, Try.ntmps34
      go_wp2_with fail
      refine (chain_alike l1 l2 HR).mono ?_
      rintro e w2 ⟨rfl, hx2⟩
      replace a3 := hx2.cell a3
      go_wp2_with fail
      all_goals (
        go_ret
        refine ⟨congrArg (fun z => Ending.returned (.int .i64 z)) ?_, hx2⟩
        simp only [Int.max_def, Int.min_def]
        repeat' split
        all_goals omega)
  · rw [show ∀ e, capPt xs r e = e from fun e => by unfold capPt; rw [List.getElem?_eq_none (by rw [l1.len]; omega)]] at hz1
    by_cases hrn' : r < n'
    · obtain ⟨gb, ob, y, ds, rfl, hy, rfl, hd⟩ := l2.at2 tg_rep (by omega) hrn'
      rw [show ∀ e, capPt ys r e = min e y.pt from fun e => by unfold capPt; rw [hy]] at hz1
      have b3 := hd 3 _ rfl
      obtain ⟨y1, y2, y3, y4⟩ := y
      simp only at hz1 b3
      subst hz1
      clear hd hy
      go_enter Try.func34, Try.ntmps34
      go_wp2_with fail
      refine (chain_alike l1 l2 HR).mono ?_
      rintro e w2 ⟨rfl, hx2⟩
      replace b3 := hx2.cell b3
      go_wp2_with fail
      all_goals (
        go_ret
        refine ⟨congrArg (fun z => Ending.returned (.int .i64 z)) ?_, hx2⟩
        simp only [Int.max_def, Int.min_def]
        repeat' split
        all_goals omega)
    · rw [show ∀ e, capPt ys r e = e from fun e => by unfold capPt; rw [List.getElem?_eq_none (by rw [l2.len]; omega)]] at hz1
      subst hz1
      go_enter Try.func34, Try.ntmps34
      go_wp2_with fail
      refine (chain_alike l1 l2 HR).mono ?_
      rintro e w2 ⟨rfl, hx2⟩
      skip
      go_wp2_with fail
      all_goals (
        go_ret
        refine ⟨congrArg (fun z => Ending.returned (.int .i64 z)) ?_, hx2⟩
        simp only [Int.max_def, Int.min_def]
        repeat' split
        all_goals omega)
end Go.Proofs.Ytkoknleopmlhcaa
