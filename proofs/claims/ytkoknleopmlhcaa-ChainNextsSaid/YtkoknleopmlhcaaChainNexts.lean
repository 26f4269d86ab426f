/-
  The walk of one statement of chapter 6.
-/
import Derived.Test.YtkoknleopmlhcaaTagKnown
import Derived.Test.YtkoknleopmlhcaaGrow
import Derived.Test.YtkoknleopmlhcaaTagFlat
import Derived.Test.YtkoknleopmlhcaaChainOrd
import Derived.Test.YtkoknleopmlhcaaOpenI
namespace Go.Proofs.Ytkoknleopmlhcaa
open Go.RowKit
set_option linter.unusedVariables false
set_option linter.unusedSimpArgs false
set_option linter.unnecessarySimpa false
set_option maxRecDepth 100000

theorem next_of (xs : List Tg) (s : Int) : s = 1 ∧ nextI xs s = nextI xs 1 ∨ s ≠ 1 ∧ nextI xs s = nextI xs 2 := by
  by_cases h : s = 1
  · exact .inl ⟨h, by rw [h]⟩
  · refine .inr ⟨h, ?_⟩
    unfold nextI
    simp [h]
theorem grown_more {xs : List Tg} {e : Int} (h : Grown xs e) (he : e ≤ 1099511627776) : RightL (xs ++ [⟨nextI xs 1, 1, 0, e⟩]) := by
  have hm := h.most
  have hs := h.size
  have hn := nextI_one (xs := xs) (s := 1) (by omega) rfl
  have hR := h.right he
  have hlen : (xs ++ [(⟨nextI xs 1, 1, 0, e⟩ : Tg)]).length = xs.length + 1 := by simp
  refine ⟨by omega, by omega, fun i hi => ?_⟩
  by_cases hl : i < xs.length
  · have h3 := hR.2.2 i hl
    unfold okAt at h3 ⊢
    rw [List.take_append_of_le_length (by omega), List.getD_eq_getElem?_getD, List.getElem?_append_left hl, ← List.getD_eq_getElem?_getD]
    exact h3
  · obtain rfl : i = xs.length := by omega
    unfold okAt
    rw [List.getD_eq_getElem?_getD, List.getElem?_append_right (Nat.le_refl _), Nat.sub_self, List.take_append_of_le_length (Nat.le_refl _), List.take_length]
    have hz := hm
    have h0 := mostI_le xs 0
    unfold tagB tgOk
    simp only [List.getElem?_cons_zero, Option.getD_some, decide_eq_true_eq]
    refine ⟨fun x hx => by have := mostI_mem (d := 0) hx; omega, ?_, fun hl0 => ?_, by omega, by omega, by omega, by omega, by omega, by omega, by omega, by omega⟩
    · rcases lastPt_mem xs 0 with ⟨e1, _⟩ | ⟨y, hy, e1⟩
      · have := h.pos; omega
      · rw [e1]; exact (h.ok y hy).2.2.1
    · obtain ⟨tl, rfl⟩ := h.head
      simp at hl0
set_option maxHeartbeats 4000000 in
theorem law_ChainNexts (A : Option Addr) (n c : Nat) (l : List Int) (si : Int) (w : World) (h : Lst 1 intR w A n c l) :
    Calls Try.prog 7 #[.slice A n c, .int .i64 si] w fun e w' => e = .returned (.bool true) ∧ Ext w w' := by
  have h63 := h.n63
  by_cases t1 : 40 < n
  · go_enter Try.func7, Try.ntmps7
    go_wp2_with fail
    refine (law6_known _).mono ?_
    rintro e w2 ⟨rfl, hx1⟩
    go_wp2_with fail
    go_ret
    exact ⟨rfl, hx1⟩
  obtain ⟨i0, hi0, hz0, hz1, hz2⟩ := info_parts info_tg
  obtain ⟨R1, hR1⟩ : ∃ q, growL l = q := ⟨_, rfl⟩
  have b1 := growL_bounds l
  have gr := grown l
  rw [h.len, hR1] at b1
  rw [hR1] at gr
  obtain ⟨R1, E1⟩ := R1
  simp only at b1 gr
  obtain ⟨E1, rfl⟩ := Int.eq_ofNat_of_zero_le b1.1
  have b2 : E1 ≤ 180 := by omega
  have hm := gr.most
  have hsz := gr.size
  have n1 := nextI_one (xs := R1) (s := 1) (by omega) rfl
  have n2 := nextI_two (xs := R1) (s := 2) (by omega) (by omega)
  have hmo := mostI_le R1 0
  have hso := next_of R1 si
  have HG := Lib.hid (rightL_iff.2 (grown_more gr (by omega)))
  obtain ⟨p, hp⟩ : ∃ q, nextI R1 1 = q := ⟨_, rfl⟩
  obtain ⟨o, ho⟩ : ∃ q, nextI R1 2 = q := ⟨_, rfl⟩
  rw [hp] at n1 hso HG
  rw [ho] at n2 hso
  have HM : Hid (∀ x ∈ R1, x.id < p ∧ x.id < o) := fun x hx => by
    have := mostI_mem (d := 0) hx
    omega
  have HP := Lib.hid hp
  have HO := Lib.hid ho
  have HSZ := Lib.hid hsz
  have hp0 : 0 ≤ p ∧ p ≤ 1000 := by omega
  have ho0 : 0 ≤ o ∧ o ≤ 1000 := by omega
  obtain ⟨p, rfl⟩ := Int.eq_ofNat_of_zero_le hp0.1
  obtain ⟨o, rfl⟩ := Int.eq_ofNat_of_zero_le ho0.1
  have q1 : (p : Int) % 2 = 1 := n1.2.2
  have q2 : (o : Int) % 2 = 0 := n2.2.2
  have q3 : ((p : Int) == (o : Int)) = false := by simp; omega
  have D1 : Hid (beginsB R1 (E1 : Int) (R1 ++ [⟨(p : Int), 1, 0, (E1 : Int)⟩]) (E1 : Int) = true) := begins_more (by simp [headPt])
  have D2 : Hid (compareI R1 (E1 : Int) (R1 ++ [⟨(p : Int), 1, 0, (E1 : Int)⟩]) ((E1 : Int) + 1) = -1) := by
    unfold Hid compareI
    rw [if_neg, if_pos]
    · exact begins_more (by simp [headPt])
    · rintro ⟨_, e⟩
      rw [begins_long (by simp)] at e
      cases e
  have HR1 := Lib.hid hR1
  obtain ⟨y, hy⟩ : ∃ q, nextI R1 si = q := ⟨_, rfl⟩
  rw [hy] at hso
  have HY := Lib.hid hy
  have hyy : y = (p : Int) ∨ y = (o : Int) := by rcases hso with ⟨_, e⟩ | ⟨_, e⟩ <;> simp [e]
  have q4 : ((o : Int) != (p : Int)) = true := by simp; omega
  clear hR1 hp ho hy hso gr hm hsz n1 n2 hmo b1 hp0 ho0
  go_enter Try.func7, Try.ntmps7
  go_wp2_with fail
  refine (law6_Grow h (by omega) HR1).mono ?_
  rintro e w3 ⟨Ga, gn, gc, rfl, hg, g⟩
  have la := hg.lst
  have hgn : gn ≤ 20 := by rw [← la.len]; exact HSZ.out
  clear hg
  have g1 := Ext.refl w3
  go_wp2_with fail
  refine (chain_Next (la.ext tg_rep g1) HP).mono ?_
  rintro e wn ⟨rfl, g2⟩
  replace g1 := g1.trans g2
  clear g2
  go_wp2_with fail
  refine (chain_Next (la.ext tg_rep g1) HO).mono ?_
  rintro e wn ⟨rfl, g2⟩
  replace g1 := g1.trans g2
  clear g2
  go_wp2_with fail
  rcases hyy with rfl | rfl
  · skip
    refine (chain_Next (la.ext tg_rep g1) HY).mono ?_
    rintro e wn ⟨rfl, g2⟩
    replace g1 := g1.trans g2
    clear g2
    go_wp2_with fail
    go_loopw [9] (fun i wr => ∃ k : Nat, k ≤ gn ∧ i = .int .i64 k ∧ Ext w3 wr) (fun i _ => gn - (intOf i).toNat)
    case atStart => exact ⟨0, by omega, rfl, g1⟩
    case round =>
      obtain ⟨k, hk, rfl, hxr⟩ := hrel
      clear g1
      by_cases hlt : k < gn
      · obtain ⟨ga, oa, x, cs, rfl, hx, rfl, ha⟩ := la.at2 tg_rep (by omega) hlt
        have a0 : wr.cell? ⟨ga, oa + k * 4, none⟩ = _ := hxr.cell (ha 0 _ rfl)
        obtain ⟨d1, d2⟩ := HM.out x (List.mem_of_getElem? hx)
        obtain ⟨x1, x2, x3, x4⟩ := x
        simp only at a0 d1 d2
        clear hx ha
        go_wp2_with fail
        go_roundw
        case rel => exact ⟨k + 1, by omega, by go_num, hxr⟩
        case measure => simp [intOf]; omega
      · have hx1 : Ext wr (wr.alloc (.cells #[] 35)) := Ext.alloc _ _
        go_wp2_with (first | (
          at_builtin
          refine wpList_append_flat (w0 := wr) tg_rep (fun x cs w h => tag_nop h) rfl (.tmp 73) (.tmp 74) _ _ rfl TTg TTg i0 _ 32 under_tgs under_tgs hi0 hz0 hz1 hz2 rfl _ 0 0 [] rfl (OwnL.nil _ _ _ _) _ gn gc R1 rfl ((la.ext tg_rep hxr).ext tg_rep hx1) gn (by omega) R1 rfl (by simp only [maxLen]; omega) (by omega) hx1 ?_
          intro B1 b1 w4 hb1 g4
          have lit := (tag_lit w4 ⟨(p : Int), 1, 0, (E1 : Int)⟩).lst) | (
          at_builtin
          refine wpList_append_flat (w0 := wr) tg_rep (fun x cs w h => tag_nop h) rfl (.tmp 75) (.tmp 79) _ _ rfl TTg TTg i0 _ 32 under_tgs under_tgs hi0 hz0 hz1 hz2 rfl B1 gn b1 R1 rfl (hb1.ext tg_rep (Ext.alloc _ _)) _ 1 1 [⟨(p : Int), 1, 0, (E1 : Int)⟩] rfl lit (gn + 1) rfl _ rfl (by simp only [maxLen]; omega) (by omega) (g4.allocs _) ?_
          intro B2 b2 w5 hb2 g5))
        have lb := hb2.lst
        replace la := (la.ext tg_rep hxr).ext tg_rep g5
        replace g := (g.trans hxr).trans g5
        clear hb1 hb2 g4 g5 hxr lit hx1
        have g1 := Ext.refl w5
        refine (chain_Right (lb.ext tg_rep g1) HG).mono ?_
        rintro e wn ⟨rfl, g2⟩
        replace g1 := g1.trans g2
        clear g2
        go_wp2_with fail
        refine (chain_Begins (la.ext tg_rep g1) (lb.ext tg_rep g1) D1).mono ?_
        rintro e wn ⟨rfl, g2⟩
        replace g1 := g1.trans g2
        clear g2
        go_wp2_with fail
        refine (chain_Compare (la.ext tg_rep g1) (lb.ext tg_rep g1) D2).mono ?_
        rintro e wn ⟨rfl, g2⟩
        replace g1 := g1.trans g2
        clear g2
        go_wp2_with fail
        refine (law6_known _).mono ?_
        rintro e wn ⟨rfl, g2⟩
        replace g1 := g1.trans g2
        clear g2
        go_wp2_with fail
        go_ret
        exact ⟨rfl, g.trans g1⟩
  · skip
    refine (chain_Next (la.ext tg_rep g1) HY).mono ?_
    rintro e wn ⟨rfl, g2⟩
    replace g1 := g1.trans g2
    clear g2
    go_wp2_with fail
    refine (chain_Next (la.ext tg_rep g1) HY).mono ?_
    rintro e wn ⟨rfl, g2⟩
    replace g1 := g1.trans g2
    clear g2
    go_wp2_with fail
    go_loopw [9] (fun i wr => ∃ k : Nat, k ≤ gn ∧ i = .int .i64 k ∧ Ext w3 wr) (fun i _ => gn - (intOf i).toNat)
    case atStart => exact ⟨0, by omega, rfl, g1⟩
    case round =>
      obtain ⟨k, hk, rfl, hxr⟩ := hrel
      clear g1
      by_cases hlt : k < gn
      · obtain ⟨ga, oa, x, cs, rfl, hx, rfl, ha⟩ := la.at2 tg_rep (by omega) hlt
        have a0 : wr.cell? ⟨ga, oa + k * 4, none⟩ = _ := hxr.cell (ha 0 _ rfl)
        obtain ⟨d1, d2⟩ := HM.out x (List.mem_of_getElem? hx)
        obtain ⟨x1, x2, x3, x4⟩ := x
        simp only at a0 d1 d2
        clear hx ha
        go_wp2_with fail
        go_roundw
        case rel => exact ⟨k + 1, by omega, by go_num, hxr⟩
        case measure => simp [intOf]; omega
      · have hx1 : Ext wr (wr.alloc (.cells #[] 35)) := Ext.alloc _ _
        go_wp2_with (first | (
          at_builtin
          refine wpList_append_flat (w0 := wr) tg_rep (fun x cs w h => tag_nop h) rfl (.tmp 73) (.tmp 74) _ _ rfl TTg TTg i0 _ 32 under_tgs under_tgs hi0 hz0 hz1 hz2 rfl _ 0 0 [] rfl (OwnL.nil _ _ _ _) _ gn gc R1 rfl ((la.ext tg_rep hxr).ext tg_rep hx1) gn (by omega) R1 rfl (by simp only [maxLen]; omega) (by omega) hx1 ?_
          intro B1 b1 w4 hb1 g4
          have lit := (tag_lit w4 ⟨(p : Int), 1, 0, (E1 : Int)⟩).lst) | (
          at_builtin
          refine wpList_append_flat (w0 := wr) tg_rep (fun x cs w h => tag_nop h) rfl (.tmp 75) (.tmp 79) _ _ rfl TTg TTg i0 _ 32 under_tgs under_tgs hi0 hz0 hz1 hz2 rfl B1 gn b1 R1 rfl (hb1.ext tg_rep (Ext.alloc _ _)) _ 1 1 [⟨(p : Int), 1, 0, (E1 : Int)⟩] rfl lit (gn + 1) rfl _ rfl (by simp only [maxLen]; omega) (by omega) (g4.allocs _) ?_
          intro B2 b2 w5 hb2 g5))
        have lb := hb2.lst
        replace la := (la.ext tg_rep hxr).ext tg_rep g5
        replace g := (g.trans hxr).trans g5
        clear hb1 hb2 g4 g5 hxr lit hx1
        have g1 := Ext.refl w5
        refine (chain_Right (lb.ext tg_rep g1) HG).mono ?_
        rintro e wn ⟨rfl, g2⟩
        replace g1 := g1.trans g2
        clear g2
        go_wp2_with fail
        refine (chain_Begins (la.ext tg_rep g1) (lb.ext tg_rep g1) D1).mono ?_
        rintro e wn ⟨rfl, g2⟩
        replace g1 := g1.trans g2
        clear g2
        go_wp2_with fail
        refine (chain_Compare (la.ext tg_rep g1) (lb.ext tg_rep g1) D2).mono ?_
        rintro e wn ⟨rfl, g2⟩
        replace g1 := g1.trans g2
        clear g2
        go_wp2_with fail
        refine (law6_known _).mono ?_
        rintro e wn ⟨rfl, g2⟩
        replace g1 := g1.trans g2
        clear g2
        go_wp2_with fail
        go_ret
        exact ⟨rfl, g.trans g1⟩
end Go.Proofs.Ytkoknleopmlhcaa
