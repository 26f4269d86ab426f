/-
  The walk of one statement of chapter 6.
-/
import Derived.Test.YtkoknleopmlhcaaTagKnown
import Derived.Test.YtkoknleopmlhcaaTagRightRef
import Derived.Test.YtkoknleopmlhcaaTagFork
import Derived.Test.YtkoknleopmlhcaaChainOrd
import Derived.Test.YtkoknleopmlhcaaGrow
import Derived.Test.YtkoknleopmlhcaaFlat
import Derived.Test.YtkoknleopmlhcaaOpenI
namespace Go.Proofs.Ytkoknleopmlhcaa
open Go.RowKit
set_option linter.unusedVariables false
set_option linter.unusedSimpArgs false
set_option linter.unnecessarySimpa false
set_option maxRecDepth 100000

set_option maxHeartbeats 2000000 in
theorem law_ChainForks (A : Option Addr) (n c : Nat) (l : List Int) (A' : Option Addr) (n' c' : Nat) (l' : List Int) (A2 : Option Addr) (n2 c2 : Nat) (l2 : List Int) (w : World) (h : Lst 1 intR w A n c l) (h' : Lst 1 intR w A' n' c' l') (h2 : Lst 1 intR w A2 n2 c2 l2) :
    Calls Try.prog 11 #[.slice A n c, .slice A' n' c', .slice A2 n2 c2] w fun e w' => e = .returned (.bool true) ∧ Ext w w' := by
  have h63 := h.n63
  have h63' := h'.n63
  have h632 := h2.n63

  by_cases t1 : 30 < n
  · 
    go_enter Try.func11, Try.ntmps11
    go_wp2_with fail
    refine (law6_known _).mono ?_
    rintro e w2 ⟨rfl, hx1⟩
    go_wp2_with fail
    go_ret
    exact ⟨rfl, hx1⟩
  by_cases t2 : 30 < n'
  · 
    go_enter Try.func11, Try.ntmps11
    go_wp2_with fail
    refine (law6_known _).mono ?_
    rintro e w2 ⟨rfl, hx1⟩
    go_wp2_with fail
    go_ret
    exact ⟨rfl, hx1⟩
  by_cases t3 : 30 < n2
  · 
    go_enter Try.func11, Try.ntmps11
    go_wp2_with fail
    refine (law6_known _).mono ?_
    rintro e w2 ⟨rfl, hx1⟩
    go_wp2_with fail
    go_ret
    exact ⟨rfl, hx1⟩
  obtain ⟨j0, hj0, hy0, hy1, hy2⟩ := info_parts info_int
  obtain ⟨R1, hR1⟩ : ∃ q, growL (l2 ++ l) = q := ⟨_, rfl⟩
  obtain ⟨R2, hR2⟩ : ∃ q, growL (l2 ++ l') = q := ⟨_, rfl⟩
  have b1 := growL_bounds (l2 ++ l)
  have b2 := growL_bounds (l2 ++ l')
  rw [List.length_append, h.len, h2.len, hR1] at b1
  rw [List.length_append, h'.len, h2.len, hR2] at b2
  obtain ⟨R1, E1⟩ := R1
  obtain ⟨R2, E2⟩ := R2
  simp only at b1 b2
  obtain ⟨E1, rfl⟩ := Int.eq_ofNat_of_zero_le b1.1
  obtain ⟨E2, rfl⟩ := Int.eq_ofNat_of_zero_le b2.1
  have b1 : E1 ≤ 180 := by omega
  have b2 : E2 ≤ 180 := by omega
  have gr1 := grown (l2 ++ l)
  have gr2 := grown (l2 ++ l')
  rw [hR1] at gr1
  rw [hR2] at gr2
  simp only at gr1 gr2
  have hK0 := forkI_le (xs := R1) (ys := R2) (show (0 : Int) ≤ (E1 : Int) by omega) (show (0 : Int) ≤ (E2 : Int) by omega)
  have hcm := forkI_comm R1 R2 (E1 : Int) (E2 : Int)
  have hbe := fun h => fork_begins (xs := R1) (m := (E1 : Int)) gr2 (by omega) h
  have hof : Hid (∀ s : Int, 0 < s → s ≤ forkI R1 (E1 : Int) R2 (E2 : Int) → ofI R1 s 0 = ofI R2 s 0 ∧ 1 ≤ ofI R1 s 0) := fun s h0 h1 => ⟨of_same gr1 gr2 h0 h1, of_some gr1 h0⟩
  have hof0 := Lib.hid (of_zero gr1)
  obtain ⟨K, hK⟩ : ∃ q, forkI R1 (E1 : Int) R2 (E2 : Int) = q := ⟨_, rfl⟩
  rw [hK] at hK0 hcm hbe hof
  obtain ⟨K, rfl⟩ := Int.eq_ofNat_of_zero_le hK0.1
  have hK1 : K ≤ E1 ∧ K ≤ E2 := by omega
  obtain ⟨bb, hbb⟩ : ∃ q, beginsB R1 (E1 : Int) R2 (E2 : Int) = q := ⟨_, rfl⟩
  have hbK : bb = true → K = E1 := fun h => by have := hbe (hbb.trans h); omega
  have HBK := Lib.hid hbK
  have HR1 := Lib.hid hR1
  have HR2 := Lib.hid hR2
  have HX := Lib.hid hbb
  have HZ := Lib.hid hK
  have HZ2 := Lib.hid hcm.symm
  have hKb : K ≤ 180 := by omega
  clear hR1 hR2 hbb hK gr1 gr2 hcm hbe hK0 hbK
  go_enter Try.func11, Try.ntmps11
  have g0 : Ext w (w.alloc (.cells #[] 3)) := Ext.alloc _ _
  go_wp2_with (first | (
    at_builtin
    refine wpList_append_flat (w0 := w) int_rep (fun x cs w h => int_no_pts h) rfl (.tmp 28) (.tmp 29) _ _ rfl INT INT j0 _ 8 under_ints under_ints hj0 hy0 hy1 hy2 rfl _ 0 0 [] rfl (OwnL.nil _ _ _ _) A2 n2 c2 l2 rfl (h2.ext int_rep g0) n2 (by omega) l2 rfl (by simp only [maxLen]; omega) (by omega) g0 ?_
    intro B1 d1 w1 hb1 g1) | (
    at_builtin
    refine wpList_append_flat (w0 := w) int_rep (fun x cs w h => int_no_pts h) rfl (.tmp 30) (.tmp 31) _ _ rfl INT INT j0 _ 8 under_ints under_ints hj0 hy0 hy1 hy2 rfl B1 n2 d1 l2 rfl hb1 A n c l rfl (h.ext int_rep g1) (n2 + n) rfl (l2 ++ l) rfl (by simp only [maxLen]; omega) (by omega) g1 ?_
    intro B2 d2 w2 hb2 g2))
  refine (law6_Grow hb2.lst (by omega) HR1).mono ?_
  rintro e w3 ⟨Ga, gn, gc, rfl, hg, g3⟩
  replace g3 := g2.trans g3
  clear hb2 hb1 g2 g1 g0
  have g4 : Ext w (w3.alloc (.cells #[] 3)) := g3.allocs _
  have g43 : Ext w3 (w3.alloc (.cells #[] 3)) := Ext.alloc _ _
  go_wp2_with (first | (
    at_builtin
    refine wpList_append_flat (w0 := w3) int_rep (fun x cs w h => int_no_pts h) rfl (.tmp 37) (.tmp 38) _ _ rfl INT INT j0 _ 8 under_ints under_ints hj0 hy0 hy1 hy2 rfl _ 0 0 [] rfl (OwnL.nil _ _ _ _) A2 n2 c2 l2 rfl (h2.ext int_rep g4) n2 (by omega) l2 rfl (by simp only [maxLen]; omega) (by omega) g43 ?_
    intro B3 d3 w4 hb3 g5) | (
    at_builtin
    refine wpList_append_flat (w0 := w3) int_rep (fun x cs w h => int_no_pts h) rfl (.tmp 39) (.tmp 40) _ _ rfl INT INT j0 _ 8 under_ints under_ints hj0 hy0 hy1 hy2 rfl B3 n2 d3 l2 rfl hb3 A' n' c' l' rfl (h'.ext int_rep (g3.trans g5)) (n2 + n') rfl (l2 ++ l') rfl (by simp only [maxLen]; omega) (by omega) g5 ?_
    intro B4 d4 w5 hb4 g6))
  refine (law6_Grow hb4.lst (by omega) HR2).mono ?_
  rintro e w6 ⟨Gb, gm, gd, rfl, hk, g7⟩
  have g8 := g6.trans g7
  have la := hg.lst.ext tg_rep g8
  have lb := hk.lst
  have g := g3.trans g8
  clear hb4 hb3 g3 g4 g43 g5 g6 g7 g8 hg hk
  go_wp2_with fail
  replace g := g
  have g1 := Ext.refl w6
  refine (chain_Fork (la.ext tg_rep g1) (lb.ext tg_rep g1) HZ).mono ?_
  rintro e wn ⟨rfl, g2⟩
  replace g1 := g1.trans g2
  clear g2
  go_wp2_with fail
  refine (chain_Fork (lb.ext tg_rep g1) (la.ext tg_rep g1) HZ2).mono ?_
  rintro e wn ⟨rfl, g2⟩
  replace g1 := g1.trans g2
  clear g2
  go_wp2_with fail
  refine (chain_Begins (la.ext tg_rep g1) (lb.ext tg_rep g1) HX).mono ?_
  rintro e wn ⟨rfl, g2⟩
  replace g1 := g1.trans g2
  clear g2
  have hc1 : decide ((K : Int) < 0) = false := decide_eq_false (by omega)
  have hc2 : decide (E1 < K) = false := decide_eq_false (by omega)
  have hc3 : decide (E2 < K) = false := decide_eq_false (by omega)
  cases bb with
  | true =>
    obtain rfl := HBK.out rfl
    clear HBK
    go_wp2_with fail
    go_loopw [12] (fun i wr => ∃ k : Nat, 1 ≤ k ∧ k ≤ K + 1 ∧ i = .int .i64 k ∧ Ext w6 wr) (fun i _ => K + 1 - (intOf i).toNat)
    case atStart => exact ⟨1, by omega, by omega, rfl, g1⟩
    case round =>
      obtain ⟨k, hk1, hk, rfl, hxr⟩ := hrel
      clear g1
      by_cases hlt : k ≤ K
      · obtain ⟨o1, o2⟩ := hof.out (k : Int) (by omega) (by omega)
        obtain ⟨v, hv⟩ : ∃ v, ofI R1 (k : Int) 0 = v := ⟨_, rfl⟩
        rw [hv] at o1 o2
        have HV := Lib.hid hv
        have HV2 := Lib.hid o1.symm
        have hv0 : (v == 0) = false := by simp; omega
        clear o1 hv
        go_wp2_with fail
        refine (chain_Of (la.ext tg_rep hxr) HV).mono ?_
        rintro e wn ⟨rfl, g2⟩
        replace hxr := hxr.trans g2
        clear g2
        go_wp2_with fail
        refine (chain_Of (lb.ext tg_rep hxr) HV2).mono ?_
        rintro e wn ⟨rfl, g2⟩
        replace hxr := hxr.trans g2
        clear g2
        go_wp2_with fail
        refine (chain_Of (la.ext tg_rep hxr) HV).mono ?_
        rintro e wn ⟨rfl, g2⟩
        replace hxr := hxr.trans g2
        clear g2
        go_wp2_with fail
        go_roundw
        case rel => exact ⟨k + 1, by omega, by omega, by go_num, hxr⟩
        case measure => simp [intOf]; omega
      · go_wp2_with fail
        refine (chain_Of (la.ext tg_rep hxr) hof0).mono ?_
        rintro e wn ⟨rfl, g2⟩
        replace hxr := hxr.trans g2
        clear g2
        go_wp2_with fail
        refine (law6_known _).mono ?_
        rintro e wn ⟨rfl, g2⟩
        go_wp2_with fail
        go_ret
        exact ⟨rfl, (g.trans hxr).trans g2⟩
  | false =>
    clear HBK
    go_wp2_with fail
    go_loopw [12] (fun i wr => ∃ k : Nat, 1 ≤ k ∧ k ≤ K + 1 ∧ i = .int .i64 k ∧ Ext w6 wr) (fun i _ => K + 1 - (intOf i).toNat)
    case atStart => exact ⟨1, by omega, by omega, rfl, g1⟩
    case round =>
      obtain ⟨k, hk1, hk, rfl, hxr⟩ := hrel
      clear g1
      by_cases hlt : k ≤ K
      · obtain ⟨o1, o2⟩ := hof.out (k : Int) (by omega) (by omega)
        obtain ⟨v, hv⟩ : ∃ v, ofI R1 (k : Int) 0 = v := ⟨_, rfl⟩
        rw [hv] at o1 o2
        have HV := Lib.hid hv
        have HV2 := Lib.hid o1.symm
        have hv0 : (v == 0) = false := by simp; omega
        clear o1 hv
        go_wp2_with fail
        refine (chain_Of (la.ext tg_rep hxr) HV).mono ?_
        rintro e wn ⟨rfl, g2⟩
        replace hxr := hxr.trans g2
        clear g2
        go_wp2_with fail
        refine (chain_Of (lb.ext tg_rep hxr) HV2).mono ?_
        rintro e wn ⟨rfl, g2⟩
        replace hxr := hxr.trans g2
        clear g2
        go_wp2_with fail
        refine (chain_Of (la.ext tg_rep hxr) HV).mono ?_
        rintro e wn ⟨rfl, g2⟩
        replace hxr := hxr.trans g2
        clear g2
        go_wp2_with fail
        go_roundw
        case rel => exact ⟨k + 1, by omega, by omega, by go_num, hxr⟩
        case measure => simp [intOf]; omega
      · go_wp2_with fail
        refine (chain_Of (la.ext tg_rep hxr) hof0).mono ?_
        rintro e wn ⟨rfl, g2⟩
        replace hxr := hxr.trans g2
        clear g2
        go_wp2_with fail
        refine (law6_known _).mono ?_
        rintro e wn ⟨rfl, g2⟩
        go_wp2_with fail
        go_ret
        exact ⟨rfl, (g.trans hxr).trans g2⟩
end Go.Proofs.Ytkoknleopmlhcaa
