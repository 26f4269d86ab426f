/-
  The walk of one statement of chapter 6.
-/
import Derived.Test.YtkoknleopmlhcaaTagKnown
import Derived.Test.YtkoknleopmlhcaaTagRightRef
import Derived.Test.YtkoknleopmlhcaaTagFork
import Derived.Test.YtkoknleopmlhcaaTagCut
import Derived.Test.YtkoknleopmlhcaaGrow
import Derived.Test.YtkoknleopmlhcaaFlat
import Derived.Test.YtkoknleopmlhcaaOpenI
namespace Go.Proofs.Ytkoknleopmlhcaa
open Go.RowKit
set_option linter.unusedVariables false
set_option linter.unusedSimpArgs false
set_option linter.unnecessarySimpa false
set_option maxRecDepth 100000

theorem compare_pair (xs ys : List Tg) (a b : Int) : compareI xs a ys b = 0 ∧ compareI ys b xs a = 0 ∨ (compareI xs a ys b = -1 ∧ compareI ys b xs a = 1 ∧ beginsB xs a ys b = true) ∨ compareI xs a ys b = 1 ∧ compareI ys b xs a = -1 ∨ compareI xs a ys b = 2 ∧ compareI ys b xs a = 2 := by
  unfold compareI
  cases beginsB xs a ys b <;> cases beginsB ys b xs a <;> simp
theorem compare_self (xs : List Tg) (a : Int) : compareI xs a xs a = 0 := by
  unfold compareI
  rw [if_pos ⟨begins_refl (Int.le_refl a), begins_refl (Int.le_refl a)⟩]
theorem cutL_some {xs : List Tg} {m e : Int} (h : Grown xs m) (he : 0 ≤ e) : 1 ≤ (cutL xs e).length := by
  obtain ⟨tl, rfl⟩ := h.head
  rw [cutL, if_pos (by show (0 : Int) ≤ e; exact he)]
  simp
set_option maxHeartbeats 2000000 in
theorem law_ChainOrders (A : Option Addr) (n c : Nat) (l : List Int) (A' : Option Addr) (n' c' : Nat) (l' : List Int) (A2 : Option Addr) (n2 c2 : Nat) (l2 : List Int) (ct en : Int) (w : World) (h : Lst 1 intR w A n c l) (h' : Lst 1 intR w A' n' c' l') (h2 : Lst 1 intR w A2 n2 c2 l2) :
    Calls Try.prog 9 #[.slice A n c, .slice A' n' c', .slice A2 n2 c2, .int .i64 ct, .int .i64 en] w fun e w' => e = .returned (.bool true) ∧ Ext w w' := by
  have h63 := h.n63
  have h63' := h'.n63
  have h632 := h2.n63

  by_cases t1 : 30 < n
  · 
    go_enter Try.func9, Try.ntmps9
    go_wp2_with fail
    refine (law6_known _).mono ?_
    rintro e w2 ⟨rfl, hx1⟩
    go_wp2_with fail
    go_ret
    exact ⟨rfl, hx1⟩
  by_cases t2 : 30 < n'
  · 
    go_enter Try.func9, Try.ntmps9
    go_wp2_with fail
    refine (law6_known _).mono ?_
    rintro e w2 ⟨rfl, hx1⟩
    go_wp2_with fail
    go_ret
    exact ⟨rfl, hx1⟩
  by_cases t3 : 30 < n2
  · 
    go_enter Try.func9, Try.ntmps9
    go_wp2_with fail
    refine (law6_known _).mono ?_
    rintro e w2 ⟨rfl, hx1⟩
    go_wp2_with fail
    go_ret
    exact ⟨rfl, hx1⟩
  obtain ⟨j0, hj0, hy0, hy1, hy2⟩ := info_parts info_int
  obtain ⟨R1, hR1⟩ : ∃ q, growL (l2 ++ l) = q := ⟨_, rfl⟩
  obtain ⟨R2, hR2⟩ : ∃ q, growL (l2 ++ l') = q := ⟨_, rfl⟩
  have b1 := growL_bounds (l2 ++ l)
  have b2 := growL_bounds (l2 ++ l')
  rw [List.length_append, h.len, h2.len, hR1] at b1
  rw [List.length_append, h'.len, h2.len, hR2] at b2
  obtain ⟨R1, E1⟩ := R1
  obtain ⟨R2, E2⟩ := R2
  simp only at b1 b2
  obtain ⟨E1, rfl⟩ := Int.eq_ofNat_of_zero_le b1.1
  obtain ⟨E2, rfl⟩ := Int.eq_ofNat_of_zero_le b2.1
  have b1 : E1 ≤ 180 := by omega
  have b2 : E2 ≤ 180 := by omega
  have gr1 := grown (l2 ++ l)
  have gr2 := grown (l2 ++ l')
  rw [hR1] at gr1
  rw [hR2] at gr2
  simp only at gr1
  clear gr2
  have HR20 := Lib.hid gr1.size
  obtain ⟨q, hq, hq3⟩ : ∃ p : Nat, bits BinOp.and IntKind.i64 en 63 = (p : Int) ∧ p ≤ 63 := ⟨(en % 64).toNat, by rw [and63]; omega, by omega⟩
  obtain ⟨s, hs, hs3⟩ : ∃ p : Nat, bits BinOp.and IntKind.i64 ct 255 = (p : Int) ∧ p ≤ 255 := ⟨(ct % 256).toNat, by rw [and255]; omega, by omega⟩
  have hkm : (q : Int) % ((E1 : Int) + 1) = ((q % (E1 + 1) : Nat) : Int) := by simp
  have hkl : q % (E1 + 1) < E1 + 1 := Nat.mod_lt _ (by omega)
  obtain ⟨e, he⟩ : ∃ e, q % (E1 + 1) = e := ⟨_, rfl⟩
  rw [he] at hkm hkl
  have hee : e ≤ E1 := by omega
  clear he hkl
  have hxy := Lib.hid (compare_pair R1 R2 (E1 : Int) (E2 : Int))
  have HAA : Hid (compareI R1 (E1 : Int) R1 (E1 : Int) = 0) := compare_self _ _
  have hCb := cutL_begins (xs := R1) (show (e : Int) ≤ (E1 : Int) by omega)
  have hC1 := cutL_some gr1 (show (0 : Int) ≤ (e : Int) by omega)
  obtain ⟨C, hC⟩ : ∃ C, cutL R1 (e : Int) = C := ⟨_, rfl⟩
  rw [hC] at hCb hC1
  have HC := Lib.hid hC
  have HCB := Lib.hid hCb
  have HR1 := Lib.hid hR1
  have HR2 := Lib.hid hR2
  obtain ⟨x, hx⟩ : ∃ q, compareI R1 (E1 : Int) R2 (E2 : Int) = q := ⟨_, rfl⟩
  obtain ⟨y, hy⟩ : ∃ q, compareI R2 (E2 : Int) R1 (E1 : Int) = q := ⟨_, rfl⟩
  rw [hx, hy] at hxy
  have HX := Lib.hid hx
  have HY := Lib.hid hy
  have HC1 := Lib.hid hC1
  clear hR1 hR2 gr1 hC hCb hx hy hC1
  go_enter Try.func9, Try.ntmps9
  have g0 : Ext w (w.alloc (.cells #[] 3)) := Ext.alloc _ _
  go_wp2_with (first | (
    at_builtin
    refine wpList_append_flat (w0 := w) int_rep (fun x cs w h => int_no_pts h) rfl (.tmp 36) (.tmp 37) _ _ rfl INT INT j0 _ 8 under_ints under_ints hj0 hy0 hy1 hy2 rfl _ 0 0 [] rfl (OwnL.nil _ _ _ _) A2 n2 c2 l2 rfl (h2.ext int_rep g0) n2 (by omega) l2 rfl (by simp only [maxLen]; omega) (by omega) g0 ?_
    intro B1 d1 w1 hb1 g1) | (
    at_builtin
    refine wpList_append_flat (w0 := w) int_rep (fun x cs w h => int_no_pts h) rfl (.tmp 38) (.tmp 39) _ _ rfl INT INT j0 _ 8 under_ints under_ints hj0 hy0 hy1 hy2 rfl B1 n2 d1 l2 rfl hb1 A n c l rfl (h.ext int_rep g1) (n2 + n) rfl (l2 ++ l) rfl (by simp only [maxLen]; omega) (by omega) g1 ?_
    intro B2 d2 w2 hb2 g2))
  refine (law6_Grow hb2.lst (by omega) HR1).mono ?_
  rintro e w3 ⟨Ga, gn, gc, rfl, hg, g3⟩
  replace g3 := g2.trans g3
  clear hb2 hb1 g2 g1 g0
  have g4 : Ext w (w3.alloc (.cells #[] 3)) := g3.allocs _
  have g43 : Ext w3 (w3.alloc (.cells #[] 3)) := Ext.alloc _ _
  go_wp2_with (first | (
    at_builtin
    refine wpList_append_flat (w0 := w3) int_rep (fun x cs w h => int_no_pts h) rfl (.tmp 45) (.tmp 46) _ _ rfl INT INT j0 _ 8 under_ints under_ints hj0 hy0 hy1 hy2 rfl _ 0 0 [] rfl (OwnL.nil _ _ _ _) A2 n2 c2 l2 rfl (h2.ext int_rep g4) n2 (by omega) l2 rfl (by simp only [maxLen]; omega) (by omega) g43 ?_
    intro B3 d3 w4 hb3 g5) | (
    at_builtin
    refine wpList_append_flat (w0 := w3) int_rep (fun x cs w h => int_no_pts h) rfl (.tmp 47) (.tmp 48) _ _ rfl INT INT j0 _ 8 under_ints under_ints hj0 hy0 hy1 hy2 rfl B3 n2 d3 l2 rfl hb3 A' n' c' l' rfl (h'.ext int_rep (g3.trans g5)) (n2 + n') rfl (l2 ++ l') rfl (by simp only [maxLen]; omega) (by omega) g5 ?_
    intro B4 d4 w5 hb4 g6))
  refine (law6_Grow hb4.lst (by omega) HR2).mono ?_
  rintro e w6 ⟨Gb, gm, gd, rfl, hk, g7⟩
  have g8 := g6.trans g7
  have la := hg.lst.ext tg_rep g8
  have lb := hk.lst
  have g := g3.trans g8
  clear hb4 hb3 g3 g4 g43 g5 g6 g7 g8 hg hk
  go_wp2_with fail
  have hgn : gn ≤ 20 := by rw [← la.len]; exact HR20.out
  have g1 := Ext.refl w6
  refine (chain_Compare (la.ext tg_rep g1) (lb.ext tg_rep g1) HX).mono ?_
  rintro e wn ⟨rfl, g2⟩
  replace g1 := g1.trans g2
  clear g2
  go_wp2_with fail
  refine (chain_Compare (lb.ext tg_rep g1) (la.ext tg_rep g1) HY).mono ?_
  rintro e wn ⟨rfl, g2⟩
  replace g1 := g1.trans g2
  clear g2
  rcases hxy.out with ⟨rfl, rfl⟩ | ⟨rfl, rfl, hb⟩ | ⟨rfl, rfl⟩ | ⟨rfl, rfl⟩
  · clear hxy
    go_wp2_with fail
    refine (chain_Compare (la.ext tg_rep g1) (la.ext tg_rep g1) HAA).mono ?_
    rintro e wn ⟨rfl, g2⟩
    replace g1 := g1.trans g2
    clear g2
    go_wp2_with fail
    refine (chain_Cut (la.ext tg_rep g1) (by omega) HC).mono ?_
    rintro e wn ⟨Gc, cn, gz, rfl, hc, g2⟩
    replace la := (la.ext tg_rep g1).ext tg_rep g2
    replace lb := (lb.ext tg_rep g1).ext tg_rep g2
    replace g := (g.trans g1).trans g2
    clear g1 g2
    have g1 := Ext.refl wn
    have lc := hc.lst
    clear hc
    have hcn := lc.len
    have hcn1 : 1 ≤ cn := by rw [← hcn]; exact HC1.out
    have hfm : (s : Int) % (cn : Int) = ((s % cn : Nat) : Int) := by simp
    have hfl : s % cn < cn := Nat.mod_lt _ (by omega)
    obtain ⟨f, hf⟩ : ∃ f, s % cn = f := ⟨_, rfl⟩
    rw [hf] at hfm hfl
    obtain ⟨J, hJ, hJn⟩ : ∃ J : Nat, (J : Int) = 1 + (f : Int) ∧ J ≤ cn := ⟨1 + f, by omega, by omega⟩
    have hcut := cut_tg lc J (1 + (f : Int)) hJ.symm hJn
    have ld := lc.upto tg_rep (m := J) hJn
    have h63c := lc.n63
    have HCN := Lib.hid hcn
    have hfb : f ≤ 255 := Nat.le_trans (Nat.le_trans (Nat.le_of_eq hf.symm) (Nat.mod_le _ _)) hs3
    clear hf hcn hJ hfl
    by_cases hjc : J < cn
    · obtain ⟨gx, ox, z, cz, rfl, hz, rfl, hzc⟩ := lc.at2 tg_rep (by omega) hjc
      have z3 := hzc 3 _ rfl
      obtain ⟨z1, z2, z4, z5⟩ := z
      simp only at z3
      by_cases hez : (e : Int) ≤ z5
      · skip
        have hd1 := begins_cut (xs := C) (j := J) (k := (e : Int)) (e := (e : Int)) (by rw [HCN.out]; omega) (Int.le_refl _) (fun y hy => by rw [hz] at hy; injection hy with hy; subst hy; exact hez)
        have D2 := Lib.hid (begins_trans hd1 HCB.out)
        have D1 := Lib.hid hd1
        clear hz hzc hd1
        go_wp2_with fail
        refine (chain_Begins (lc.ext tg_rep g1) (la.ext tg_rep g1) HCB).mono ?_
        rintro e wn ⟨rfl, g2⟩
        replace g1 := g1.trans g2
        clear g2
        replace z3 := g1.cell z3
        go_wp2_with fail
        refine (chain_Begins (ld.ext tg_rep g1) (lc.ext tg_rep g1) D1).mono ?_
        rintro e wn ⟨rfl, g2⟩
        replace g1 := g1.trans g2
        clear g2
        go_wp2_with fail
        refine (chain_Begins (ld.ext tg_rep g1) (la.ext tg_rep g1) D2).mono ?_
        rintro e wn ⟨rfl, g2⟩
        replace g1 := g1.trans g2
        clear g2
        go_wp2_with fail
        skip
        refine (law6_known _).mono ?_
        rintro e wn ⟨rfl, g2⟩
        go_wp2_with fail
        go_ret
        exact ⟨rfl, (g.trans g1).trans g2⟩
      · skip
        have hd1 := begins_cut (xs := C) (j := J) (k := z5) (e := (e : Int)) (by rw [HCN.out]; omega) (by omega) (fun y hy => by rw [hz] at hy; injection hy with hy; subst hy; exact (Int.le_refl _))
        have D2 := Lib.hid (begins_trans hd1 HCB.out)
        have D1 := Lib.hid hd1
        clear hz hzc hd1
        go_wp2_with fail
        refine (chain_Begins (lc.ext tg_rep g1) (la.ext tg_rep g1) HCB).mono ?_
        rintro e wn ⟨rfl, g2⟩
        replace g1 := g1.trans g2
        clear g2
        replace z3 := g1.cell z3
        go_wp2_with fail
        refine (chain_Begins (ld.ext tg_rep g1) (lc.ext tg_rep g1) D1).mono ?_
        rintro e wn ⟨rfl, g2⟩
        replace g1 := g1.trans g2
        clear g2
        go_wp2_with fail
        refine (chain_Begins (ld.ext tg_rep g1) (la.ext tg_rep g1) D2).mono ?_
        rintro e wn ⟨rfl, g2⟩
        replace g1 := g1.trans g2
        clear g2
        go_wp2_with fail
        skip
        refine (law6_known _).mono ?_
        rintro e wn ⟨rfl, g2⟩
        go_wp2_with fail
        go_ret
        exact ⟨rfl, (g.trans g1).trans g2⟩
    · have hjc2 : cn ≤ J := by omega
      have hd1 := begins_cut (xs := C) (j := J) (k := (e : Int)) (e := (e : Int)) (by rw [HCN.out]; omega) (Int.le_refl _) (fun y hy => by rw [List.getElem?_eq_none (by rw [HCN.out]; omega)] at hy; cases hy)
      have D2 := Lib.hid (begins_trans hd1 HCB.out)
      have D1 := Lib.hid hd1
      clear hd1
      clear hjc
      go_wp2_with fail
      refine (chain_Begins (lc.ext tg_rep g1) (la.ext tg_rep g1) HCB).mono ?_
      rintro e wn ⟨rfl, g2⟩
      replace g1 := g1.trans g2
      clear g2
      go_wp2_with fail
      refine (chain_Begins (ld.ext tg_rep g1) (lc.ext tg_rep g1) D1).mono ?_
      rintro e wn ⟨rfl, g2⟩
      replace g1 := g1.trans g2
      clear g2
      go_wp2_with fail
      refine (chain_Begins (ld.ext tg_rep g1) (la.ext tg_rep g1) D2).mono ?_
      rintro e wn ⟨rfl, g2⟩
      replace g1 := g1.trans g2
      clear g2
      go_wp2_with fail
      skip
      refine (law6_known _).mono ?_
      rintro e wn ⟨rfl, g2⟩
      go_wp2_with fail
      go_ret
      exact ⟨rfl, (g.trans g1).trans g2⟩
  · have hbb := begins_trans HCB.out hb
    have HBB := Lib.hid hbb
    clear hxy hb hbb
    go_wp2_with fail
    refine (chain_Compare (la.ext tg_rep g1) (la.ext tg_rep g1) HAA).mono ?_
    rintro e wn ⟨rfl, g2⟩
    replace g1 := g1.trans g2
    clear g2
    go_wp2_with fail
    refine (chain_Cut (la.ext tg_rep g1) (by omega) HC).mono ?_
    rintro e wn ⟨Gc, cn, gz, rfl, hc, g2⟩
    replace la := (la.ext tg_rep g1).ext tg_rep g2
    replace lb := (lb.ext tg_rep g1).ext tg_rep g2
    replace g := (g.trans g1).trans g2
    clear g1 g2
    have g1 := Ext.refl wn
    have lc := hc.lst
    clear hc
    have hcn := lc.len
    have hcn1 : 1 ≤ cn := by rw [← hcn]; exact HC1.out
    have hfm : (s : Int) % (cn : Int) = ((s % cn : Nat) : Int) := by simp
    have hfl : s % cn < cn := Nat.mod_lt _ (by omega)
    obtain ⟨f, hf⟩ : ∃ f, s % cn = f := ⟨_, rfl⟩
    rw [hf] at hfm hfl
    obtain ⟨J, hJ, hJn⟩ : ∃ J : Nat, (J : Int) = 1 + (f : Int) ∧ J ≤ cn := ⟨1 + f, by omega, by omega⟩
    have hcut := cut_tg lc J (1 + (f : Int)) hJ.symm hJn
    have ld := lc.upto tg_rep (m := J) hJn
    have h63c := lc.n63
    have HCN := Lib.hid hcn
    have hfb : f ≤ 255 := Nat.le_trans (Nat.le_trans (Nat.le_of_eq hf.symm) (Nat.mod_le _ _)) hs3
    clear hf hcn hJ hfl
    by_cases hjc : J < cn
    · obtain ⟨gx, ox, z, cz, rfl, hz, rfl, hzc⟩ := lc.at2 tg_rep (by omega) hjc
      have z3 := hzc 3 _ rfl
      obtain ⟨z1, z2, z4, z5⟩ := z
      simp only at z3
      by_cases hez : (e : Int) ≤ z5
      · skip
        have hd1 := begins_cut (xs := C) (j := J) (k := (e : Int)) (e := (e : Int)) (by rw [HCN.out]; omega) (Int.le_refl _) (fun y hy => by rw [hz] at hy; injection hy with hy; subst hy; exact hez)
        have D2 := Lib.hid (begins_trans hd1 HCB.out)
        have D1 := Lib.hid hd1
        clear hz hzc hd1
        go_wp2_with fail
        refine (chain_Begins (lc.ext tg_rep g1) (la.ext tg_rep g1) HCB).mono ?_
        rintro e wn ⟨rfl, g2⟩
        replace g1 := g1.trans g2
        clear g2
        replace z3 := g1.cell z3
        go_wp2_with fail
        refine (chain_Begins (ld.ext tg_rep g1) (lc.ext tg_rep g1) D1).mono ?_
        rintro e wn ⟨rfl, g2⟩
        replace g1 := g1.trans g2
        clear g2
        go_wp2_with fail
        refine (chain_Begins (ld.ext tg_rep g1) (la.ext tg_rep g1) D2).mono ?_
        rintro e wn ⟨rfl, g2⟩
        replace g1 := g1.trans g2
        clear g2
        go_wp2_with fail
        (refine (chain_Begins (lc.ext tg_rep g1) (lb.ext tg_rep g1) HBB).mono ?_; rintro e wn ⟨rfl, g2⟩; replace g1 := g1.trans g2; clear g2; go_wp2_with fail)
        refine (law6_known _).mono ?_
        rintro e wn ⟨rfl, g2⟩
        go_wp2_with fail
        go_ret
        exact ⟨rfl, (g.trans g1).trans g2⟩
      · skip
        have hd1 := begins_cut (xs := C) (j := J) (k := z5) (e := (e : Int)) (by rw [HCN.out]; omega) (by omega) (fun y hy => by rw [hz] at hy; injection hy with hy; subst hy; exact (Int.le_refl _))
        have D2 := Lib.hid (begins_trans hd1 HCB.out)
        have D1 := Lib.hid hd1
        clear hz hzc hd1
        go_wp2_with fail
        refine (chain_Begins (lc.ext tg_rep g1) (la.ext tg_rep g1) HCB).mono ?_
        rintro e wn ⟨rfl, g2⟩
        replace g1 := g1.trans g2
        clear g2
        replace z3 := g1.cell z3
        go_wp2_with fail
        refine (chain_Begins (ld.ext tg_rep g1) (lc.ext tg_rep g1) D1).mono ?_
        rintro e wn ⟨rfl, g2⟩
        replace g1 := g1.trans g2
        clear g2
        go_wp2_with fail
        refine (chain_Begins (ld.ext tg_rep g1) (la.ext tg_rep g1) D2).mono ?_
        rintro e wn ⟨rfl, g2⟩
        replace g1 := g1.trans g2
        clear g2
        go_wp2_with fail
        (refine (chain_Begins (lc.ext tg_rep g1) (lb.ext tg_rep g1) HBB).mono ?_; rintro e wn ⟨rfl, g2⟩; replace g1 := g1.trans g2; clear g2; go_wp2_with fail)
        refine (law6_known _).mono ?_
        rintro e wn ⟨rfl, g2⟩
        go_wp2_with fail
        go_ret
        exact ⟨rfl, (g.trans g1).trans g2⟩
    · have hjc2 : cn ≤ J := by omega
      have hd1 := begins_cut (xs := C) (j := J) (k := (e : Int)) (e := (e : Int)) (by rw [HCN.out]; omega) (Int.le_refl _) (fun y hy => by rw [List.getElem?_eq_none (by rw [HCN.out]; omega)] at hy; cases hy)
      have D2 := Lib.hid (begins_trans hd1 HCB.out)
      have D1 := Lib.hid hd1
      clear hd1
      clear hjc
      go_wp2_with fail
      refine (chain_Begins (lc.ext tg_rep g1) (la.ext tg_rep g1) HCB).mono ?_
      rintro e wn ⟨rfl, g2⟩
      replace g1 := g1.trans g2
      clear g2
      go_wp2_with fail
      refine (chain_Begins (ld.ext tg_rep g1) (lc.ext tg_rep g1) D1).mono ?_
      rintro e wn ⟨rfl, g2⟩
      replace g1 := g1.trans g2
      clear g2
      go_wp2_with fail
      refine (chain_Begins (ld.ext tg_rep g1) (la.ext tg_rep g1) D2).mono ?_
      rintro e wn ⟨rfl, g2⟩
      replace g1 := g1.trans g2
      clear g2
      go_wp2_with fail
      (refine (chain_Begins (lc.ext tg_rep g1) (lb.ext tg_rep g1) HBB).mono ?_; rintro e wn ⟨rfl, g2⟩; replace g1 := g1.trans g2; clear g2; go_wp2_with fail)
      refine (law6_known _).mono ?_
      rintro e wn ⟨rfl, g2⟩
      go_wp2_with fail
      go_ret
      exact ⟨rfl, (g.trans g1).trans g2⟩
  · clear hxy
    go_wp2_with fail
    refine (chain_Compare (la.ext tg_rep g1) (la.ext tg_rep g1) HAA).mono ?_
    rintro e wn ⟨rfl, g2⟩
    replace g1 := g1.trans g2
    clear g2
    go_wp2_with fail
    refine (chain_Cut (la.ext tg_rep g1) (by omega) HC).mono ?_
    rintro e wn ⟨Gc, cn, gz, rfl, hc, g2⟩
    replace la := (la.ext tg_rep g1).ext tg_rep g2
    replace lb := (lb.ext tg_rep g1).ext tg_rep g2
    replace g := (g.trans g1).trans g2
    clear g1 g2
    have g1 := Ext.refl wn
    have lc := hc.lst
    clear hc
    have hcn := lc.len
    have hcn1 : 1 ≤ cn := by rw [← hcn]; exact HC1.out
    have hfm : (s : Int) % (cn : Int) = ((s % cn : Nat) : Int) := by simp
    have hfl : s % cn < cn := Nat.mod_lt _ (by omega)
    obtain ⟨f, hf⟩ : ∃ f, s % cn = f := ⟨_, rfl⟩
    rw [hf] at hfm hfl
    obtain ⟨J, hJ, hJn⟩ : ∃ J : Nat, (J : Int) = 1 + (f : Int) ∧ J ≤ cn := ⟨1 + f, by omega, by omega⟩
    have hcut := cut_tg lc J (1 + (f : Int)) hJ.symm hJn
    have ld := lc.upto tg_rep (m := J) hJn
    have h63c := lc.n63
    have HCN := Lib.hid hcn
    have hfb : f ≤ 255 := Nat.le_trans (Nat.le_trans (Nat.le_of_eq hf.symm) (Nat.mod_le _ _)) hs3
    clear hf hcn hJ hfl
    by_cases hjc : J < cn
    · obtain ⟨gx, ox, z, cz, rfl, hz, rfl, hzc⟩ := lc.at2 tg_rep (by omega) hjc
      have z3 := hzc 3 _ rfl
      obtain ⟨z1, z2, z4, z5⟩ := z
      simp only at z3
      by_cases hez : (e : Int) ≤ z5
      · skip
        have hd1 := begins_cut (xs := C) (j := J) (k := (e : Int)) (e := (e : Int)) (by rw [HCN.out]; omega) (Int.le_refl _) (fun y hy => by rw [hz] at hy; injection hy with hy; subst hy; exact hez)
        have D2 := Lib.hid (begins_trans hd1 HCB.out)
        have D1 := Lib.hid hd1
        clear hz hzc hd1
        go_wp2_with fail
        refine (chain_Begins (lc.ext tg_rep g1) (la.ext tg_rep g1) HCB).mono ?_
        rintro e wn ⟨rfl, g2⟩
        replace g1 := g1.trans g2
        clear g2
        replace z3 := g1.cell z3
        go_wp2_with fail
        refine (chain_Begins (ld.ext tg_rep g1) (lc.ext tg_rep g1) D1).mono ?_
        rintro e wn ⟨rfl, g2⟩
        replace g1 := g1.trans g2
        clear g2
        go_wp2_with fail
        refine (chain_Begins (ld.ext tg_rep g1) (la.ext tg_rep g1) D2).mono ?_
        rintro e wn ⟨rfl, g2⟩
        replace g1 := g1.trans g2
        clear g2
        go_wp2_with fail
        skip
        refine (law6_known _).mono ?_
        rintro e wn ⟨rfl, g2⟩
        go_wp2_with fail
        go_ret
        exact ⟨rfl, (g.trans g1).trans g2⟩
      · skip
        have hd1 := begins_cut (xs := C) (j := J) (k := z5) (e := (e : Int)) (by rw [HCN.out]; omega) (by omega) (fun y hy => by rw [hz] at hy; injection hy with hy; subst hy; exact (Int.le_refl _))
        have D2 := Lib.hid (begins_trans hd1 HCB.out)
        have D1 := Lib.hid hd1
        clear hz hzc hd1
        go_wp2_with fail
        refine (chain_Begins (lc.ext tg_rep g1) (la.ext tg_rep g1) HCB).mono ?_
        rintro e wn ⟨rfl, g2⟩
        replace g1 := g1.trans g2
        clear g2
        replace z3 := g1.cell z3
        go_wp2_with fail
        refine (chain_Begins (ld.ext tg_rep g1) (lc.ext tg_rep g1) D1).mono ?_
        rintro e wn ⟨rfl, g2⟩
        replace g1 := g1.trans g2
        clear g2
        go_wp2_with fail
        refine (chain_Begins (ld.ext tg_rep g1) (la.ext tg_rep g1) D2).mono ?_
        rintro e wn ⟨rfl, g2⟩
        replace g1 := g1.trans g2
        clear g2
        go_wp2_with fail
        skip
        refine (law6_known _).mono ?_
        rintro e wn ⟨rfl, g2⟩
        go_wp2_with fail
        go_ret
        exact ⟨rfl, (g.trans g1).trans g2⟩
    · have hjc2 : cn ≤ J := by omega
      have hd1 := begins_cut (xs := C) (j := J) (k := (e : Int)) (e := (e : Int)) (by rw [HCN.out]; omega) (Int.le_refl _) (fun y hy => by rw [List.getElem?_eq_none (by rw [HCN.out]; omega)] at hy; cases hy)
      have D2 := Lib.hid (begins_trans hd1 HCB.out)
      have D1 := Lib.hid hd1
      clear hd1
      clear hjc
      go_wp2_with fail
      refine (chain_Begins (lc.ext tg_rep g1) (la.ext tg_rep g1) HCB).mono ?_
      rintro e wn ⟨rfl, g2⟩
      replace g1 := g1.trans g2
      clear g2
      go_wp2_with fail
      refine (chain_Begins (ld.ext tg_rep g1) (lc.ext tg_rep g1) D1).mono ?_
      rintro e wn ⟨rfl, g2⟩
      replace g1 := g1.trans g2
      clear g2
      go_wp2_with fail
      refine (chain_Begins (ld.ext tg_rep g1) (la.ext tg_rep g1) D2).mono ?_
      rintro e wn ⟨rfl, g2⟩
      replace g1 := g1.trans g2
      clear g2
      go_wp2_with fail
      skip
      refine (law6_known _).mono ?_
      rintro e wn ⟨rfl, g2⟩
      go_wp2_with fail
      go_ret
      exact ⟨rfl, (g.trans g1).trans g2⟩
  · clear hxy
    go_wp2_with fail
    refine (chain_Compare (la.ext tg_rep g1) (la.ext tg_rep g1) HAA).mono ?_
    rintro e wn ⟨rfl, g2⟩
    replace g1 := g1.trans g2
    clear g2
    go_wp2_with fail
    refine (chain_Cut (la.ext tg_rep g1) (by omega) HC).mono ?_
    rintro e wn ⟨Gc, cn, gz, rfl, hc, g2⟩
    replace la := (la.ext tg_rep g1).ext tg_rep g2
    replace lb := (lb.ext tg_rep g1).ext tg_rep g2
    replace g := (g.trans g1).trans g2
    clear g1 g2
    have g1 := Ext.refl wn
    have lc := hc.lst
    clear hc
    have hcn := lc.len
    have hcn1 : 1 ≤ cn := by rw [← hcn]; exact HC1.out
    have hfm : (s : Int) % (cn : Int) = ((s % cn : Nat) : Int) := by simp
    have hfl : s % cn < cn := Nat.mod_lt _ (by omega)
    obtain ⟨f, hf⟩ : ∃ f, s % cn = f := ⟨_, rfl⟩
    rw [hf] at hfm hfl
    obtain ⟨J, hJ, hJn⟩ : ∃ J : Nat, (J : Int) = 1 + (f : Int) ∧ J ≤ cn := ⟨1 + f, by omega, by omega⟩
    have hcut := cut_tg lc J (1 + (f : Int)) hJ.symm hJn
    have ld := lc.upto tg_rep (m := J) hJn
    have h63c := lc.n63
    have HCN := Lib.hid hcn
    have hfb : f ≤ 255 := Nat.le_trans (Nat.le_trans (Nat.le_of_eq hf.symm) (Nat.mod_le _ _)) hs3
    clear hf hcn hJ hfl
    by_cases hjc : J < cn
    · obtain ⟨gx, ox, z, cz, rfl, hz, rfl, hzc⟩ := lc.at2 tg_rep (by omega) hjc
      have z3 := hzc 3 _ rfl
      obtain ⟨z1, z2, z4, z5⟩ := z
      simp only at z3
      by_cases hez : (e : Int) ≤ z5
      · skip
        have hd1 := begins_cut (xs := C) (j := J) (k := (e : Int)) (e := (e : Int)) (by rw [HCN.out]; omega) (Int.le_refl _) (fun y hy => by rw [hz] at hy; injection hy with hy; subst hy; exact hez)
        have D2 := Lib.hid (begins_trans hd1 HCB.out)
        have D1 := Lib.hid hd1
        clear hz hzc hd1
        go_wp2_with fail
        refine (chain_Begins (lc.ext tg_rep g1) (la.ext tg_rep g1) HCB).mono ?_
        rintro e wn ⟨rfl, g2⟩
        replace g1 := g1.trans g2
        clear g2
        replace z3 := g1.cell z3
        go_wp2_with fail
        refine (chain_Begins (ld.ext tg_rep g1) (lc.ext tg_rep g1) D1).mono ?_
        rintro e wn ⟨rfl, g2⟩
        replace g1 := g1.trans g2
        clear g2
        go_wp2_with fail
        refine (chain_Begins (ld.ext tg_rep g1) (la.ext tg_rep g1) D2).mono ?_
        rintro e wn ⟨rfl, g2⟩
        replace g1 := g1.trans g2
        clear g2
        go_wp2_with fail
        skip
        refine (law6_known _).mono ?_
        rintro e wn ⟨rfl, g2⟩
        go_wp2_with fail
        go_ret
        exact ⟨rfl, (g.trans g1).trans g2⟩
      · skip
        have hd1 := begins_cut (xs := C) (j := J) (k := z5) (e := (e : Int)) (by rw [HCN.out]; omega) (by omega) (fun y hy => by rw [hz] at hy; injection hy with hy; subst hy; exact (Int.le_refl _))
        have D2 := Lib.hid (begins_trans hd1 HCB.out)
        have D1 := Lib.hid hd1
        clear hz hzc hd1
        go_wp2_with fail
        refine (chain_Begins (lc.ext tg_rep g1) (la.ext tg_rep g1) HCB).mono ?_
        rintro e wn ⟨rfl, g2⟩
        replace g1 := g1.trans g2
        clear g2
        replace z3 := g1.cell z3
        go_wp2_with fail
        refine (chain_Begins (ld.ext tg_rep g1) (lc.ext tg_rep g1) D1).mono ?_
        rintro e wn ⟨rfl, g2⟩
        replace g1 := g1.trans g2
        clear g2
        go_wp2_with fail
        refine (chain_Begins (ld.ext tg_rep g1) (la.ext tg_rep g1) D2).mono ?_
        rintro e wn ⟨rfl, g2⟩
        replace g1 := g1.trans g2
        clear g2
        go_wp2_with fail
        skip
        refine (law6_known _).mono ?_
        rintro e wn ⟨rfl, g2⟩
        go_wp2_with fail
        go_ret
        exact ⟨rfl, (g.trans g1).trans g2⟩
    · have hjc2 : cn ≤ J := by omega
      have hd1 := begins_cut (xs := C) (j := J) (k := (e : Int)) (e := (e : Int)) (by rw [HCN.out]; omega) (Int.le_refl _) (fun y hy => by rw [List.getElem?_eq_none (by rw [HCN.out]; omega)] at hy; cases hy)
      have D2 := Lib.hid (begins_trans hd1 HCB.out)
      have D1 := Lib.hid hd1
      clear hd1
      clear hjc
      go_wp2_with fail
      refine (chain_Begins (lc.ext tg_rep g1) (la.ext tg_rep g1) HCB).mono ?_
      rintro e wn ⟨rfl, g2⟩
      replace g1 := g1.trans g2
      clear g2
      go_wp2_with fail
      refine (chain_Begins (ld.ext tg_rep g1) (lc.ext tg_rep g1) D1).mono ?_
      rintro e wn ⟨rfl, g2⟩
      replace g1 := g1.trans g2
      clear g2
      go_wp2_with fail
      refine (chain_Begins (ld.ext tg_rep g1) (la.ext tg_rep g1) D2).mono ?_
      rintro e wn ⟨rfl, g2⟩
      replace g1 := g1.trans g2
      clear g2
      go_wp2_with fail
      skip
      refine (law6_known _).mono ?_
      rintro e wn ⟨rfl, g2⟩
      go_wp2_with fail
      go_ret
      exact ⟨rfl, (g.trans g1).trans g2⟩
end Go.Proofs.Ytkoknleopmlhcaa
