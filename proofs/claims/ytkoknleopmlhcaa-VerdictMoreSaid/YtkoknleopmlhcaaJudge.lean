/-
  Verdicts: contracts of Judge and of the law's known.
-/
import Derived.Test.YtkoknleopmlhcaaChainOrd
import Derived.Test.YtkoknleopmlhcaaTagRef
namespace Go.Proofs.Ytkoknleopmlhcaa
open Go.RowKit
set_option linter.unusedVariables false
set_option linter.unusedSimpArgs false
set_option linter.unnecessarySimpa false
set_option maxRecDepth 100000

theorem judge_true {xs ys : List Tg} {ae be : Int} (h : beginsB xs ae ys be = true) : judgeI xs ae ys be = 2 := by
  unfold judgeI
  rw [if_pos h]
theorem judge_wait {xs ys : List Tg} {ae be : Int} (h : beginsB xs ae ys be = false) (h2 : beginsB ys be xs ae = true) : judgeI xs ae ys be = 1 := by
  unfold judgeI
  rw [if_neg (by simp [h]), if_pos h2]
theorem judge_part {xs ys : List Tg} {ae be : Int} (h : beginsB xs ae ys be = false) (h2 : beginsB ys be xs ae = false) : judgeI xs ae ys be = 3 := by
  unfold judgeI
  rw [if_neg (by simp [h]), if_neg (by simp [h2])]
set_option maxHeartbeats 1000000 in
theorem verdict_Judge {A : Option Addr} {n c : Nat} {xs : List Tg} {A' : Option Addr} {n' c' : Nat} {ys : List Tg} {ae be : Int} {w : World} (l1 : Lst 4 tgR w A n c xs) (l2 : Lst 4 tgR w A' n' c' ys) {r : Int} (hr : Hid (judgeI xs ae ys be = r)) :
    Calls Try.prog 17 #[.slice A n c, .int .i64 ae, .slice A' n' c', .int .i64 be] w fun e w' => e = .returned (.int .i64 r) ∧ Ext w w' := by
  obtain ⟨p, hp⟩ : ∃ p, beginsB xs ae ys be = p := ⟨_, rfl⟩
  obtain ⟨q, hq⟩ : ∃ q, beginsB ys be xs ae = q := ⟨_, rfl⟩
  have HP := Lib.hid hp
  have HQ := Lib.hid hq
  have hr1 := hr.out
  cases p with
  | true =>
    rw [judge_true hp] at hr1
    subst hr1
    clear hr hp hq
    go_enter Try.func17, Try.ntmps17
    go_wp2_with fail
    refine (chain_Begins l1 l2 HP).mono ?_
    rintro e w2 ⟨rfl, hx2⟩
    go_wp2_with fail
    go_ret
    exact ⟨rfl, hx2⟩
  | false =>
    cases q with
    | true =>
      rw [judge_wait hp hq] at hr1
      subst hr1
      clear hr hp hq
      go_enter Try.func17, Try.ntmps17
      go_wp2_with fail
      refine (chain_Begins l1 l2 HP).mono ?_
      rintro e w2 ⟨rfl, hx2⟩
      go_wp2_with fail
      refine (chain_Begins (l2.ext tg_rep hx2) (l1.ext tg_rep hx2) HQ).mono ?_
      rintro e w3 ⟨rfl, hx3⟩
      go_wp2_with fail
      go_ret
      exact ⟨rfl, hx2.trans hx3⟩
    | false =>
      rw [judge_part hp hq] at hr1
      subst hr1
      clear hr hp hq
      go_enter Try.func17, Try.ntmps17
      go_wp2_with fail
      refine (chain_Begins l1 l2 HP).mono ?_
      rintro e w2 ⟨rfl, hx2⟩
      go_wp2_with fail
      refine (chain_Begins (l2.ext tg_rep hx2) (l1.ext tg_rep hx2) HQ).mono ?_
      rintro e w3 ⟨rfl, hx3⟩
      go_wp2_with fail
      go_ret
      exact ⟨rfl, hx2.trans hx3⟩
set_option maxHeartbeats 1000000 in
theorem ref_Judge {A : Option Addr} {n c : Nat} {xs : List Tg} {A' : Option Addr} {n' c' : Nat} {ys : List Tg} {ae be : Int} {w : World} (l1 : Lst 4 tgR w A n c xs) (l2 : Lst 4 tgR w A' n' c' ys) {r : Int} (hr : Hid (judgeI xs ae ys be = r)) :
    Calls Try.prog 18 #[.slice A n c, .int .i64 ae, .slice A' n' c', .int .i64 be] w fun e w' => e = .returned (.int .i64 r) ∧ Ext w w' := by
  obtain ⟨p, hp⟩ : ∃ p, beginsB xs ae ys be = p := ⟨_, rfl⟩
  obtain ⟨q, hq⟩ : ∃ q, beginsB ys be xs ae = q := ⟨_, rfl⟩
  have HP := Lib.hid hp
  have HQ := Lib.hid hq
  have hr1 := hr.out
  cases p with
  | true =>
    rw [judge_true hp] at hr1
    subst hr1
    clear hr hp hq
    go_enter Try.func18, Try.ntmps18
    go_wp2_with fail
    refine (ref_Begins l1 l2 HP).mono ?_
    rintro e w2 ⟨rfl, hx2⟩
    go_wp2_with fail
    go_ret
    exact ⟨rfl, hx2⟩
  | false =>
    cases q with
    | true =>
      rw [judge_wait hp hq] at hr1
      subst hr1
      clear hr hp hq
      go_enter Try.func18, Try.ntmps18
      go_wp2_with fail
      refine (ref_Begins l1 l2 HP).mono ?_
      rintro e w2 ⟨rfl, hx2⟩
      go_wp2_with fail
      refine (ref_Begins (l2.ext tg_rep hx2) (l1.ext tg_rep hx2) HQ).mono ?_
      rintro e w3 ⟨rfl, hx3⟩
      go_wp2_with fail
      go_ret
      exact ⟨rfl, hx2.trans hx3⟩
    | false =>
      rw [judge_part hp hq] at hr1
      subst hr1
      clear hr hp hq
      go_enter Try.func18, Try.ntmps18
      go_wp2_with fail
      refine (ref_Begins l1 l2 HP).mono ?_
      rintro e w2 ⟨rfl, hx2⟩
      go_wp2_with fail
      refine (ref_Begins (l2.ext tg_rep hx2) (l1.ext tg_rep hx2) HQ).mono ?_
      rintro e w3 ⟨rfl, hx3⟩
      go_wp2_with fail
      go_ret
      exact ⟨rfl, hx2.trans hx3⟩
theorem tg_no_pts' {x : Tg} {cs : List Value} {w : World} (h : tgR x cs w) : ∀ k, ¬ Pts cs k := by
  rintro k ⟨ad, m, c', hm, _⟩
  rw [h] at hm
  simp at hm
/-- a chain of one, written down -/
theorem tag_made (w : World) (x : Tg) : OwnL TTg 4 tgR (w.alloc (.cells #[.int .i64 x.id, .int .i64 x.ow, .int .i64 x.he, .int .i64 x.pt] TTg)) w.heap.size (some ⟨w.heap.size, 0, none⟩) 1 1 [x] :=
  ⟨rfl, [[.int .i64 x.id, .int .i64 x.ow, .int .i64 x.he, .int .i64 x.pt]], .cons rfl .nil, Own.made w w.heap.size TTg 4 #[.int .i64 x.id, .int .i64 x.ow, .int .i64 x.he, .int .i64 x.pt] 1 1 (Nat.le_refl _) (Nat.le_refl _) (by simp [maxLen]) rfl, fun cs hcs k hk => by simp at hcs; subst hcs; exact absurd hk (tg_no_pts' (x := x) (w := w) rfl k)⟩
set_option maxHeartbeats 1000000 in
theorem verdict_Ripe_nil (w : World) : Calls Try.prog 22 #[.slice none 0 0] w fun e w' => e = .returned (.int .i64 0) ∧ Ext w w' := by
  go_enter Try.func22, Try.ntmps22
  go_wp2_with fail
  go_loopw [3, 10] (fun v i wr => v = .int .i64 0 ∧ i = .int .i64 0 ∧ Ext w wr) (fun _ _ _ => 0)
  case atStart => exact ⟨rfl, rfl, Ext.refl _⟩
  case round =>
    obtain ⟨rfl, rfl, hxr⟩ := hrel
    go_wp2_with fail
    go_ret
    exact ⟨rfl, hxr⟩
set_option maxHeartbeats 1000000 in
theorem law23_known (w : World) : Calls Try.prog 15 #[] w fun e w' => e = .returned (.bool true) ∧ Ext w w' := by
  have j1 : Hid (judgeI [tag1] 3 [tag1] 3 = 2) := by unfold Hid; decide
  have j2 : Hid (judgeI [tag1] 5 [tag1] 3 = 1) := by unfold Hid; decide
  have j3 : Hid (judgeI [tag1] 3 [⟨2, 2, 0, 0⟩] 3 = 3) := by unfold Hid; decide
  have l1 : Lst 4 tgR (w.alloc (.cells #[.int .i64 1, .int .i64 1, .int .i64 0, .int .i64 0] 35)) (some ⟨w.heap.size, 0, none⟩) 1 1 [tag1] := (tag_made w tag1).lst
  go_enter Try.func15, Try.ntmps15
  go_wp2_with fail
  refine (verdict_Judge l1 l1 j1).mono ?_
  rintro e w2 ⟨rfl, hx2⟩
  go_wp2_with fail
  refine (verdict_Judge (l1.ext tg_rep hx2) (l1.ext tg_rep hx2) j2).mono ?_
  rintro e w3 ⟨rfl, hx3⟩
  go_wp2_with fail
  refine (verdict_Ripe_nil _).mono ?_
  rintro e w4 ⟨rfl, hx4⟩
  have hx := (hx2.trans hx3).trans hx4
  have l2 : Lst 4 tgR (w4.alloc (.cells #[.int .i64 2, .int .i64 2, .int .i64 0, .int .i64 0] 35)) (some ⟨w4.heap.size, 0, none⟩) 1 1 [⟨2, 2, 0, 0⟩] := (tag_made w4 ⟨2, 2, 0, 0⟩).lst
  go_wp2_with fail
  refine (verdict_Judge (l1.ext tg_rep (hx.trans (Ext.alloc _ _))) l2 j3).mono ?_
  rintro e w5 ⟨rfl, hx5⟩
  go_wp2_with fail
  go_ret
  exact ⟨rfl, (((Ext.alloc w _).trans hx).trans (Ext.alloc _ _)).trans hx5⟩
end Go.Proofs.Ytkoknleopmlhcaa
