/-
  The walk of one statement of chapter 23.
-/
import Derived.Test.YtkoknleopmlhcaaJudge
import Derived.Test.YtkoknleopmlhcaaGrow
import Derived.Test.YtkoknleopmlhcaaFlat
import Derived.Test.YtkoknleopmlhcaaOpenI
namespace Go.Proofs.Ytkoknleopmlhcaa
open Go.RowKit
set_option linter.unusedVariables false
set_option linter.unusedSimpArgs false
set_option linter.unnecessarySimpa false
set_option maxRecDepth 100000

theorem judge_back (xs : List Tg) (e : Int) : judgeI xs (e + 1) xs e = 1 := by
  refine judge_wait ?_ (begins_refl (by omega))
  cases h : beginsB xs (e + 1) xs e with
  | false => rfl
  | true =>
    obtain ⟨tl, h1, h2⟩ := begins_iff.1 h
    have := congrArg List.length h1
    simp at this
    subst this
    simp only [headPt] at h2
    omega
theorem judge_pair (xs ys : List Tg) (a b : Int) : judgeI xs a ys b = 2 ∧ judgeI ys b xs a = 2 ∧ xs = ys ∧ a = b ∨ judgeI xs a ys b = 2 ∧ judgeI ys b xs a = 1 ∨ judgeI xs a ys b = 1 ∧ judgeI ys b xs a = 2 ∨ judgeI xs a ys b = 3 ∧ judgeI ys b xs a = 3 := by
  cases h1 : beginsB xs a ys b <;> cases h2 : beginsB ys b xs a
  · exact .inr (.inr (.inr ⟨judge_part h1 h2, judge_part h2 h1⟩))
  · exact .inr (.inr (.inl ⟨judge_wait h1 h2, judge_true h2⟩))
  · exact .inr (.inl ⟨judge_true h1, judge_wait h2 h1⟩)
  · have := begins_both h1 h2
    exact .inl ⟨judge_true h1, judge_true h2, this.1, this.2⟩
/-- what grew on begins with what was there -/
theorem grow_begins (l m : List Int) (p : Int) (hp : 0 ≤ p) : judgeI (growL l).1 0 (growL (l ++ m)).1 ((growL (l ++ m)).2 + p) = 2 ∧ judgeI (growL l).1 (growL l).2 (growL (l ++ m)).1 ((growL (l ++ m)).2 + p) = 2 := by
  have ha : growL (l ++ m) = growF m (growL l).1 (growL l).2 := growF_append l m _ _
  obtain ⟨tl, h1, h2⟩ := growF_pre m (growL l).1 (growL l).2
  have h3 := growF_bounds m (growL l).1 (growL l).2
  have h4 := growL_bounds l
  rw [ha, h1]
  have key : (growL l).2 ≤ headPt tl ((growF m (growL l).1 (growL l).2).2 + p) := by
    cases tl with
    | nil =>
      simp only [headPt]
      omega
    | cons y tl => exact h2 y (by simp)
  exact ⟨judge_true (begins_more (by omega)), judge_true (begins_more key)⟩
set_option maxHeartbeats 2000000 in
theorem law_VerdictOnce (A : Option Addr) (n c : Nat) (l : List Int) (A' : Option Addr) (n' c' : Nat) (l' : List Int) (A2 : Option Addr) (n2 c2 : Nat) (l2 : List Int) (m q : Int) (w : World) (h : Lst 1 intR w A n c l) (h' : Lst 1 intR w A' n' c' l') (h2 : Lst 1 intR w A2 n2 c2 l2) :
    Calls Try.prog 4 #[.slice A n c, .slice A' n' c', .slice A2 n2 c2, .int .i64 m, .int .i64 q] w fun e w' => e = .returned (.bool true) ∧ Ext w w' := by
  have h63 := h.n63
  have h63' := h'.n63
  have h632 := h2.n63

  by_cases t1 : 30 < n
  · 
    go_enter Try.func4, Try.ntmps4
    go_wp2_with fail
    refine (law23_known _).mono ?_
    rintro e w2 ⟨rfl, hx1⟩
    go_wp2_with fail
    go_ret
    exact ⟨rfl, hx1⟩
  by_cases t2 : 30 < n'
  · 
    go_enter Try.func4, Try.ntmps4
    go_wp2_with fail
    refine (law23_known _).mono ?_
    rintro e w2 ⟨rfl, hx1⟩
    go_wp2_with fail
    go_ret
    exact ⟨rfl, hx1⟩
  by_cases t3 : 30 < n2
  · 
    go_enter Try.func4, Try.ntmps4
    go_wp2_with fail
    refine (law23_known _).mono ?_
    rintro e w2 ⟨rfl, hx1⟩
    go_wp2_with fail
    go_ret
    exact ⟨rfl, hx1⟩
  obtain ⟨j0, hj0, hy0, hy1, hy2⟩ := info_parts info_int
  obtain ⟨R1, hR1⟩ : ∃ q, growL (l2 ++ l) = q := ⟨_, rfl⟩
  obtain ⟨R2, hR2⟩ : ∃ q, growL (l2 ++ l') = q := ⟨_, rfl⟩
  have b1 := growL_bounds (l2 ++ l)
  have b2 := growL_bounds (l2 ++ l')
  rw [List.length_append, h.len, h2.len, hR1] at b1
  rw [List.length_append, h'.len, h2.len, hR2] at b2
  obtain ⟨R1, E1⟩ := R1
  obtain ⟨R2, E2⟩ := R2
  simp only at b1 b2
  obtain ⟨E1, rfl⟩ := Int.eq_ofNat_of_zero_le b1.1
  obtain ⟨E2, rfl⟩ := Int.eq_ofNat_of_zero_le b2.1
  have b1 : E1 ≤ 180 := by omega
  have b2 : E2 ≤ 180 := by omega
  obtain ⟨p, hp, hp3⟩ : ∃ p : Nat, bits BinOp.and IntKind.i64 m 3 = (p : Int) ∧ p ≤ 3 := ⟨(m % 4).toNat, by rw [and3]; omega, by omega⟩
  obtain ⟨s, hs, hs3⟩ : ∃ p : Nat, bits BinOp.and IntKind.i64 q 3 = (p : Int) ∧ p ≤ 3 := ⟨(q % 4).toNat, by rw [and3]; omega, by omega⟩
  obtain ⟨RC, hRC⟩ : ∃ q, growL l2 = q := ⟨_, rfl⟩
  obtain ⟨RC, EC⟩ := RC
  have hca := grow_begins l2 l ((p : Nat) : Int) (by omega)
  have hcb := grow_begins l2 l' ((s : Nat) : Int) (by omega)
  rw [hRC] at hca hcb
  rw [hR1] at hca
  rw [hR2] at hcb
  simp only at hca hcb
  obtain ⟨ae, hae, hae0, hae1⟩ : ∃ q : Int, (E1 : Int) + (p : Int) = q ∧ 0 ≤ q ∧ q ≤ 200 := ⟨_, rfl, by omega, by omega⟩
  obtain ⟨be, hbe, hbe0, hbe1⟩ : ∃ q : Int, (E2 : Int) + (s : Int) = q ∧ 0 ≤ q ∧ q ≤ 200 := ⟨_, rfl, by omega, by omega⟩
  rw [hae] at hca
  rw [hbe] at hcb
  obtain ⟨x, hx⟩ : ∃ x, judgeI R1 ae R2 be = x := ⟨_, rfl⟩
  obtain ⟨y, hy⟩ : ∃ x, judgeI R2 be R1 ae = x := ⟨_, rfl⟩
  have hxy := Lib.hid (judge_pair R1 R2 ae be)
  rw [hx, hy] at hxy
  have J1 := Lib.hid hca.1
  have J2 := Lib.hid hca.2
  have J3 := Lib.hid hcb.2
  have J4 := Lib.hid (judge_true (begins_refl (xs := R1) (Int.le_refl ae)))
  have J5 := Lib.hid (judge_true (begins_refl (xs := R1) (show ae ≤ ae + 1 by omega)))
  have J6 := Lib.hid (judge_back R1 ae)
  have HR1 := Lib.hid hR1
  have HR2 := Lib.hid hR2
  have HRC := Lib.hid hRC
  have HX := Lib.hid hx
  have HY := Lib.hid hy
  clear hR1 hR2 hx hy hRC hca hcb
  go_enter Try.func4, Try.ntmps4
  have g0 : Ext w (w.alloc (.cells #[] 3)) := Ext.alloc _ _
  go_wp2_with (first | (
    at_builtin
    refine wpList_append_flat (w0 := w) int_rep (fun x cs w h => int_no_pts h) rfl (.tmp 35) (.tmp 36) _ _ rfl INT INT j0 _ 8 under_ints under_ints hj0 hy0 hy1 hy2 rfl _ 0 0 [] rfl (OwnL.nil _ _ _ _) A2 n2 c2 l2 rfl (h2.ext int_rep g0) n2 (by omega) l2 rfl (by simp only [maxLen]; omega) (by omega) g0 ?_
    intro B1 d1 w1 hb1 g1) | (
    at_builtin
    refine wpList_append_flat (w0 := w) int_rep (fun x cs w h => int_no_pts h) rfl (.tmp 37) (.tmp 38) _ _ rfl INT INT j0 _ 8 under_ints under_ints hj0 hy0 hy1 hy2 rfl B1 n2 d1 l2 rfl hb1 A n c l rfl (h.ext int_rep g1) (n2 + n) rfl (l2 ++ l) rfl (by simp only [maxLen]; omega) (by omega) g1 ?_
    intro B2 d2 w2 hb2 g2))
  refine (keep_Grow hb2.lst (by omega) HR1).mono ?_
  rintro e w3 ⟨Ga, gn, gc, rfl, hg, g3⟩
  replace g3 := g2.trans g3
  clear hb2 hb1 g2 g1 g0
  have g4 : Ext w (w3.alloc (.cells #[] 3)) := g3.allocs _
  have g43 : Ext w3 (w3.alloc (.cells #[] 3)) := Ext.alloc _ _
  go_wp2_with (first | (
    at_builtin
    refine wpList_append_flat (w0 := w3) int_rep (fun x cs w h => int_no_pts h) rfl (.tmp 44) (.tmp 45) _ _ rfl INT INT j0 _ 8 under_ints under_ints hj0 hy0 hy1 hy2 rfl _ 0 0 [] rfl (OwnL.nil _ _ _ _) A2 n2 c2 l2 rfl (h2.ext int_rep g4) n2 (by omega) l2 rfl (by simp only [maxLen]; omega) (by omega) g43 ?_
    intro B3 d3 w4 hb3 g5) | (
    at_builtin
    refine wpList_append_flat (w0 := w3) int_rep (fun x cs w h => int_no_pts h) rfl (.tmp 46) (.tmp 47) _ _ rfl INT INT j0 _ 8 under_ints under_ints hj0 hy0 hy1 hy2 rfl B3 n2 d3 l2 rfl hb3 A' n' c' l' rfl (h'.ext int_rep (g3.trans g5)) (n2 + n') rfl (l2 ++ l') rfl (by simp only [maxLen]; omega) (by omega) g5 ?_
    intro B4 d4 w5 hb4 g6))
  refine (keep_Grow hb4.lst (by omega) HR2).mono ?_
  rintro e w6 ⟨Gb, gm, gd, rfl, hk, g7⟩
  have g8 := g6.trans g7
  have la := hg.lst.ext tg_rep g8
  have lb := hk.lst
  have g := g3.trans g8
  clear hb4 hb3 g3 g4 g43 g5 g6 g7 g8 hg hk
  go_wp2_with fail
  refine (keep_Grow (h2.ext int_rep g) (by omega) HRC).mono ?_
  rintro e w7 ⟨Gc, go, ge, rfl, ho, g1⟩
  have lc := ho.lst
  replace la := la.ext tg_rep g1
  replace lb := lb.ext tg_rep g1
  replace g := g.trans g1
  clear g1 ho
  go_wp2_with fail
  refine (verdict_Judge la lb HX).mono ?_
  rintro e w8 ⟨rfl, g1⟩
  go_wp2_with fail
  refine (verdict_Judge (lb.ext tg_rep g1) (la.ext tg_rep g1) HY).mono ?_
  rintro e w9 ⟨rfl, g2⟩
  replace g1 := g1.trans g2
  clear g2
  rcases hxy.out with ⟨rfl, rfl, hab, hee⟩ | ⟨rfl, rfl⟩ | ⟨rfl, rfl⟩ | ⟨rfl, rfl⟩
  · subst hab
    obtain rfl : ae = be := hee
    clear hbe0 hbe1
    have hs0 := Lib.hid (show sameT R1 R1 = true by simp [sameT])
    clear hxy
    go_wp2_with fail
    refine (ref_SameTags (la.ext tg_rep g1) (lb.ext tg_rep g1) hs0).mono ?_
    rintro e w10 ⟨rfl, g2⟩
    replace g1 := g1.trans g2
    clear g2
    go_wp2_with fail
    refine (verdict_Judge (lc.ext tg_rep g1) (la.ext tg_rep g1) J1).mono ?_
    rintro e w11 ⟨rfl, g2⟩
    replace g1 := g1.trans g2
    clear g2
    go_wp2_with fail
    refine (verdict_Judge (lc.ext tg_rep g1) (la.ext tg_rep g1) J2).mono ?_
    rintro e w12 ⟨rfl, g2⟩
    replace g1 := g1.trans g2
    clear g2
    go_wp2_with fail
    refine (verdict_Judge (lc.ext tg_rep g1) (lb.ext tg_rep g1) J3).mono ?_
    rintro e w13 ⟨rfl, g2⟩
    replace g1 := g1.trans g2
    clear g2
    go_wp2_with fail
    refine (verdict_Judge (la.ext tg_rep g1) (la.ext tg_rep g1) J4).mono ?_
    rintro e w14 ⟨rfl, g2⟩
    replace g1 := g1.trans g2
    clear g2
    go_wp2_with fail
    refine (verdict_Judge (la.ext tg_rep g1) (la.ext tg_rep g1) J5).mono ?_
    rintro e w15 ⟨rfl, g2⟩
    replace g1 := g1.trans g2
    clear g2
    go_wp2_with fail
    refine (verdict_Judge (la.ext tg_rep g1) (la.ext tg_rep g1) J6).mono ?_
    rintro e w16 ⟨rfl, g2⟩
    replace g1 := g1.trans g2
    clear g2
    go_wp2_with fail
    refine (law23_known _).mono ?_
    rintro e w17 ⟨rfl, g2⟩
    go_wp2_with fail
    go_ret
    exact ⟨rfl, (g.trans g1).trans g2⟩
  · clear hxy
    go_wp2_with fail
    refine (verdict_Judge (lc.ext tg_rep g1) (la.ext tg_rep g1) J1).mono ?_
    rintro e w11 ⟨rfl, g2⟩
    replace g1 := g1.trans g2
    clear g2
    go_wp2_with fail
    refine (verdict_Judge (lc.ext tg_rep g1) (la.ext tg_rep g1) J2).mono ?_
    rintro e w12 ⟨rfl, g2⟩
    replace g1 := g1.trans g2
    clear g2
    go_wp2_with fail
    refine (verdict_Judge (lc.ext tg_rep g1) (lb.ext tg_rep g1) J3).mono ?_
    rintro e w13 ⟨rfl, g2⟩
    replace g1 := g1.trans g2
    clear g2
    go_wp2_with fail
    refine (verdict_Judge (la.ext tg_rep g1) (la.ext tg_rep g1) J4).mono ?_
    rintro e w14 ⟨rfl, g2⟩
    replace g1 := g1.trans g2
    clear g2
    go_wp2_with fail
    refine (verdict_Judge (la.ext tg_rep g1) (la.ext tg_rep g1) J5).mono ?_
    rintro e w15 ⟨rfl, g2⟩
    replace g1 := g1.trans g2
    clear g2
    go_wp2_with fail
    refine (verdict_Judge (la.ext tg_rep g1) (la.ext tg_rep g1) J6).mono ?_
    rintro e w16 ⟨rfl, g2⟩
    replace g1 := g1.trans g2
    clear g2
    go_wp2_with fail
    refine (law23_known _).mono ?_
    rintro e w17 ⟨rfl, g2⟩
    go_wp2_with fail
    go_ret
    exact ⟨rfl, (g.trans g1).trans g2⟩
  · clear hxy
    go_wp2_with fail
    refine (verdict_Judge (lc.ext tg_rep g1) (la.ext tg_rep g1) J1).mono ?_
    rintro e w11 ⟨rfl, g2⟩
    replace g1 := g1.trans g2
    clear g2
    go_wp2_with fail
    refine (verdict_Judge (lc.ext tg_rep g1) (la.ext tg_rep g1) J2).mono ?_
    rintro e w12 ⟨rfl, g2⟩
    replace g1 := g1.trans g2
    clear g2
    go_wp2_with fail
    refine (verdict_Judge (la.ext tg_rep g1) (la.ext tg_rep g1) J4).mono ?_
    rintro e w14 ⟨rfl, g2⟩
    replace g1 := g1.trans g2
    clear g2
    go_wp2_with fail
    refine (verdict_Judge (la.ext tg_rep g1) (la.ext tg_rep g1) J5).mono ?_
    rintro e w15 ⟨rfl, g2⟩
    replace g1 := g1.trans g2
    clear g2
    go_wp2_with fail
    refine (verdict_Judge (la.ext tg_rep g1) (la.ext tg_rep g1) J6).mono ?_
    rintro e w16 ⟨rfl, g2⟩
    replace g1 := g1.trans g2
    clear g2
    go_wp2_with fail
    refine (law23_known _).mono ?_
    rintro e w17 ⟨rfl, g2⟩
    go_wp2_with fail
    go_ret
    exact ⟨rfl, (g.trans g1).trans g2⟩
  · clear hxy
    go_wp2_with fail
    refine (verdict_Judge (lc.ext tg_rep g1) (la.ext tg_rep g1) J1).mono ?_
    rintro e w11 ⟨rfl, g2⟩
    replace g1 := g1.trans g2
    clear g2
    go_wp2_with fail
    refine (verdict_Judge (lc.ext tg_rep g1) (la.ext tg_rep g1) J2).mono ?_
    rintro e w12 ⟨rfl, g2⟩
    replace g1 := g1.trans g2
    clear g2
    go_wp2_with fail
    refine (verdict_Judge (la.ext tg_rep g1) (la.ext tg_rep g1) J4).mono ?_
    rintro e w14 ⟨rfl, g2⟩
    replace g1 := g1.trans g2
    clear g2
    go_wp2_with fail
    refine (verdict_Judge (la.ext tg_rep g1) (la.ext tg_rep g1) J5).mono ?_
    rintro e w15 ⟨rfl, g2⟩
    replace g1 := g1.trans g2
    clear g2
    go_wp2_with fail
    refine (verdict_Judge (la.ext tg_rep g1) (la.ext tg_rep g1) J6).mono ?_
    rintro e w16 ⟨rfl, g2⟩
    replace g1 := g1.trans g2
    clear g2
    go_wp2_with fail
    refine (law23_known _).mono ?_
    rintro e w17 ⟨rfl, g2⟩
    go_wp2_with fail
    go_ret
    exact ⟨rfl, (g.trans g1).trans g2⟩
end Go.Proofs.Ytkoknleopmlhcaa
