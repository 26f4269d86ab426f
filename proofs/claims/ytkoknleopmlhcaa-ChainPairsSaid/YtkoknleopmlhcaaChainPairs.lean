/-
  The walk of one statement of chapter 6.
-/
import Derived.Test.YtkoknleopmlhcaaTagKnown
import Derived.Test.YtkoknleopmlhcaaTagRightRef
import Derived.Test.YtkoknleopmlhcaaTagFork
import Derived.Test.YtkoknleopmlhcaaGrow
import Derived.Test.YtkoknleopmlhcaaFlat
import Derived.Test.YtkoknleopmlhcaaOpenI
namespace Go.Proofs.Ytkoknleopmlhcaa
open Go.RowKit
set_option linter.unusedVariables false
set_option linter.unusedSimpArgs false
set_option linter.unnecessarySimpa false
set_option maxRecDepth 100000

set_option maxHeartbeats 2000000 in
theorem law_ChainPairs (A : Option Addr) (n c : Nat) (l : List Int) (A' : Option Addr) (n' c' : Nat) (l' : List Int) (A2 : Option Addr) (n2 c2 : Nat) (l2 : List Int) (m q : Int) (w : World) (h : Lst 1 intR w A n c l) (h' : Lst 1 intR w A' n' c' l') (h2 : Lst 1 intR w A2 n2 c2 l2) :
    Calls Try.prog 10 #[.slice A n c, .slice A' n' c', .slice A2 n2 c2, .int .i64 m, .int .i64 q] w fun e w' => e = .returned (.bool true) ∧ Ext w w' := by
  have h63 := h.n63
  have h63' := h'.n63
  have h632 := h2.n63

  by_cases t1 : 30 < n
  · 
    go_enter Try.func10, Try.ntmps10
    go_wp2_with fail
    refine (law6_known _).mono ?_
    rintro e w2 ⟨rfl, hx1⟩
    go_wp2_with fail
    go_ret
    exact ⟨rfl, hx1⟩
  by_cases t2 : 30 < n'
  · 
    go_enter Try.func10, Try.ntmps10
    go_wp2_with fail
    refine (law6_known _).mono ?_
    rintro e w2 ⟨rfl, hx1⟩
    go_wp2_with fail
    go_ret
    exact ⟨rfl, hx1⟩
  by_cases t3 : 30 < n2
  · 
    go_enter Try.func10, Try.ntmps10
    go_wp2_with fail
    refine (law6_known _).mono ?_
    rintro e w2 ⟨rfl, hx1⟩
    go_wp2_with fail
    go_ret
    exact ⟨rfl, hx1⟩
  obtain ⟨j0, hj0, hy0, hy1, hy2⟩ := info_parts info_int
  obtain ⟨R1, hR1⟩ : ∃ q, growL (l2 ++ l) = q := ⟨_, rfl⟩
  obtain ⟨R2, hR2⟩ : ∃ q, growL (l2 ++ l') = q := ⟨_, rfl⟩
  have b1 := growL_bounds (l2 ++ l)
  have b2 := growL_bounds (l2 ++ l')
  rw [List.length_append, h.len, h2.len, hR1] at b1
  rw [List.length_append, h'.len, h2.len, hR2] at b2
  obtain ⟨R1, E1⟩ := R1
  obtain ⟨R2, E2⟩ := R2
  simp only at b1 b2
  obtain ⟨E1, rfl⟩ := Int.eq_ofNat_of_zero_le b1.1
  obtain ⟨E2, rfl⟩ := Int.eq_ofNat_of_zero_le b2.1
  have b1 : E1 ≤ 180 := by omega
  have b2 : E2 ≤ 180 := by omega
  obtain ⟨p, hp, hp3⟩ : ∃ p : Nat, bits BinOp.and IntKind.i64 m 3 = (p : Int) ∧ p ≤ 3 := ⟨(m % 4).toNat, by rw [and3]; omega, by omega⟩
  obtain ⟨s, hs, hs3⟩ : ∃ p : Nat, bits BinOp.and IntKind.i64 q 3 = (p : Int) ∧ p ≤ 3 := ⟨(q % 4).toNat, by rw [and3]; omega, by omega⟩
  have gr1 := grown (l2 ++ l)
  have gr2 := grown (l2 ++ l')
  rw [hR1] at gr1
  rw [hR2] at gr2
  have HA := Lib.hid (rightL_iff.2 (gr1.right (by simp only; omega)))
  have HB := Lib.hid (rightL_iff.2 (gr2.right (by simp only; omega)))
  simp only at HA HB
  obtain ⟨ae, hae⟩ : ∃ q : Int, (E1 : Int) + (p : Int) = q := ⟨_, rfl⟩
  obtain ⟨be, hbe⟩ : ∃ q : Int, (E2 : Int) + (s : Int) = q := ⟨_, rfl⟩
  obtain ⟨bb, hbb⟩ : ∃ q, beginsB R1 ae R2 be = q := ⟨_, rfl⟩
  obtain ⟨k, hk⟩ : ∃ q, compareI R1 ae R2 be = q := ⟨_, rfl⟩
  obtain ⟨z, hz⟩ : ∃ q, forkI R1 ae R2 be = q := ⟨_, rfl⟩
  have HR1 := Lib.hid hR1
  have HR2 := Lib.hid hR2
  have HX := Lib.hid hbb
  have HK := Lib.hid hk
  have HZ := Lib.hid hz
  clear hR1 hR2 hbb hk hz gr1 gr2
  go_enter Try.func10, Try.ntmps10
  have g0 : Ext w (w.alloc (.cells #[] 3)) := Ext.alloc _ _
  go_wp2_with (first | (
    at_builtin
    refine wpList_append_flat (w0 := w) int_rep (fun x cs w h => int_no_pts h) rfl (.tmp 30) (.tmp 31) _ _ rfl INT INT j0 _ 8 under_ints under_ints hj0 hy0 hy1 hy2 rfl _ 0 0 [] rfl (OwnL.nil _ _ _ _) A2 n2 c2 l2 rfl (h2.ext int_rep g0) n2 (by omega) l2 rfl (by simp only [maxLen]; omega) (by omega) g0 ?_
    intro B1 d1 w1 hb1 g1) | (
    at_builtin
    refine wpList_append_flat (w0 := w) int_rep (fun x cs w h => int_no_pts h) rfl (.tmp 32) (.tmp 33) _ _ rfl INT INT j0 _ 8 under_ints under_ints hj0 hy0 hy1 hy2 rfl B1 n2 d1 l2 rfl hb1 A n c l rfl (h.ext int_rep g1) (n2 + n) rfl (l2 ++ l) rfl (by simp only [maxLen]; omega) (by omega) g1 ?_
    intro B2 d2 w2 hb2 g2))
  refine (law6_Grow hb2.lst (by omega) HR1).mono ?_
  rintro e w3 ⟨Ga, gn, gc, rfl, hg, g3⟩
  replace g3 := g2.trans g3
  clear hb2 hb1 g2 g1 g0
  have g4 : Ext w (w3.alloc (.cells #[] 3)) := g3.allocs _
  have g43 : Ext w3 (w3.alloc (.cells #[] 3)) := Ext.alloc _ _
  go_wp2_with (first | (
    at_builtin
    refine wpList_append_flat (w0 := w3) int_rep (fun x cs w h => int_no_pts h) rfl (.tmp 39) (.tmp 40) _ _ rfl INT INT j0 _ 8 under_ints under_ints hj0 hy0 hy1 hy2 rfl _ 0 0 [] rfl (OwnL.nil _ _ _ _) A2 n2 c2 l2 rfl (h2.ext int_rep g4) n2 (by omega) l2 rfl (by simp only [maxLen]; omega) (by omega) g43 ?_
    intro B3 d3 w4 hb3 g5) | (
    at_builtin
    refine wpList_append_flat (w0 := w3) int_rep (fun x cs w h => int_no_pts h) rfl (.tmp 41) (.tmp 42) _ _ rfl INT INT j0 _ 8 under_ints under_ints hj0 hy0 hy1 hy2 rfl B3 n2 d3 l2 rfl hb3 A' n' c' l' rfl (h'.ext int_rep (g3.trans g5)) (n2 + n') rfl (l2 ++ l') rfl (by simp only [maxLen]; omega) (by omega) g5 ?_
    intro B4 d4 w5 hb4 g6))
  refine (law6_Grow hb4.lst (by omega) HR2).mono ?_
  rintro e w6 ⟨Gb, gm, gd, rfl, hk, g7⟩
  have g8 := g6.trans g7
  have la := hg.lst.ext tg_rep g8
  have lb := hk.lst
  have g := g3.trans g8
  clear hb4 hb3 g3 g4 g43 g5 g6 g7 g8 hg hk
  go_wp2_with fail
  replace g := g
  have g1 := Ext.refl w6
  refine (chain_Right (la.ext tg_rep g1) HA).mono ?_
  rintro e wn ⟨rfl, g2⟩
  replace g1 := g1.trans g2
  clear g2
  go_wp2_with fail
  refine (chain_Right (lb.ext tg_rep g1) HB).mono ?_
  rintro e wn ⟨rfl, g2⟩
  replace g1 := g1.trans g2
  clear g2
  go_wp2_with fail
  refine (chain_Begins (la.ext tg_rep g1) (lb.ext tg_rep g1) HX).mono ?_
  rintro e wn ⟨rfl, g2⟩
  replace g1 := g1.trans g2
  clear g2
  go_wp2_with fail
  refine (ref_Begins (la.ext tg_rep g1) (lb.ext tg_rep g1) HX).mono ?_
  rintro e wn ⟨rfl, g2⟩
  replace g1 := g1.trans g2
  clear g2
  go_wp2_with fail
  refine (chain_Compare (la.ext tg_rep g1) (lb.ext tg_rep g1) HK).mono ?_
  rintro e wn ⟨rfl, g2⟩
  replace g1 := g1.trans g2
  clear g2
  go_wp2_with fail
  refine (ref_Compare (la.ext tg_rep g1) (lb.ext tg_rep g1) HK).mono ?_
  rintro e wn ⟨rfl, g2⟩
  replace g1 := g1.trans g2
  clear g2
  go_wp2_with fail
  refine (chain_Fork (la.ext tg_rep g1) (lb.ext tg_rep g1) HZ).mono ?_
  rintro e wn ⟨rfl, g2⟩
  replace g1 := g1.trans g2
  clear g2
  go_wp2_with fail
  refine (ref_Fork (la.ext tg_rep g1) (lb.ext tg_rep g1) HZ).mono ?_
  rintro e wn ⟨rfl, g2⟩
  replace g1 := g1.trans g2
  clear g2
  go_wp2_with fail
  refine (law6_known _).mono ?_
  rintro e wn ⟨rfl, g2⟩
  replace g1 := g1.trans g2
  clear g2
  go_wp2_with fail
  go_ret
  exact ⟨rfl, g.trans g1⟩
end Go.Proofs.Ytkoknleopmlhcaa
