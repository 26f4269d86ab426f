/-
  Images with snapshots: contract of the reference's Read.
-/
import Derived.Test.YtcklkjklepmabaaZRead
namespace Go.Proofs.Ytcklkjklepmabaa
open Go.RowKit
set_option linter.unusedVariables false
set_option linter.unusedSimpArgs false
set_option linter.unnecessarySimpa false
set_option maxRecDepth 100000

set_option maxHeartbeats 4000000 in
theorem ref_Read14 {A : Option Addr} {n c : Nat} {A2 : Option Addr} {n2 c2 : Nat} {st : St} {nm : ByteArray} {o nn : Int} {w : World} (hst : StR w A n c A2 n2 c2 st) (hn : n ≤ 1000) (hd : ∀ x ∈ st.sn, x.d.length ≤ 1000) {r : Nat} (hr : Hid (readN st nm o nn = r)) {L : List UInt8} (hL : Hid (readL st nm o nn = L)) :
    Calls Try.prog 57 #[stV A n c A2 n2 c2, .string nm, .int .i64 o, .int .i64 nn] w fun e w' => ∃ A' m c', e = .returned (.tuple #[.slice A' m c', .int .i64 r]) ∧ Fsl w' w.heap.size A' m c' L ∧ Ext w w' := by
  obtain ⟨i0, hi0, hz0, hz1, hz2⟩ := info_parts info_u8
  have h63 := hst.1.n63
  have h632 := hst.2.n63
  obtain ⟨W, hW⟩ : ∃ W, w.alloc (.cells #[.slice A n c, .slice A2 n2 c2] TSt) = W := ⟨_, rfl⟩
  have g0 : Ext w W := by rw [← hW]; exact Ext.alloc _ _
  have s0 : W.cell? ⟨w.heap.size, 0, none⟩ = some (.slice A n c) := by rw [← hW]; exact cell_new w _ _ 0
  have s1 : W.cell? ⟨w.heap.size, 1, none⟩ = some (.slice A2 n2 c2) := by rw [← hW]; exact cell_new w _ _ 1
  have hws := g0.size
  by_cases he : nm = ⟨#[]⟩
  · obtain ⟨D, hD⟩ : ∃ D, readD st nm = D := ⟨_, rfl⟩
    have hsd : Sl W A n c D := by rw [← hD]; unfold readD; rw [if_pos he]; exact hst.1.ext g0
    have hq : ¬ (nm ≠ ⟨#[]⟩ ∧ findI st.sn nm < 0) := fun h => h.1 he
    obtain ⟨nd, hnd⟩ : ∃ nd, n = nd := ⟨_, rfl⟩
    subst hnd
    obtain ⟨nd, hnd⟩ : ∃ nd, nd = n := ⟨_, rfl⟩
    subst hnd
    have e0 : (nm.toList == (⟨#[]⟩ : ByteArray).toList) = true := by rw [he]; simp
    have hDl : ((readD st nm).length : Int) = nd := by have := hsd.len; rw [hD]; omega
    by_cases g1 : nn < 0
    · have k1 : decide (nn < 0) = true := by simp; omega
      obtain rfl : 1 = r := by rw [← hr.out]; unfold readN; rw [if_neg hq]; simp [g1]; try omega
      obtain rfl : ([] : List UInt8) = L := by rw [← hL.out]; unfold readL; rw [hr.out]; rfl
      clear hr hL
      clear hst hd
      go_enter Try.func57, Try.ntmps57
      go_wp2_with fail
      refine bodyPost_ret (v := .tuple #[.slice none 0 0, .int .i64 1]) (by simp [results, Try.results57, go_sem]) rfl ?_
      exact ⟨none, 0, 0, rfl, Fsl.nil _ _, g0⟩
    have k1 : decide (nn < 0) = false := by simp; omega
    by_cases g2 : o < 0
    · have k2 : decide (o < 0) = true := by simp; omega
      obtain rfl : 3 = r := by rw [← hr.out]; unfold readN; rw [if_neg hq]; simp [g1, g2]; try omega
      obtain rfl : ([] : List UInt8) = L := by rw [← hL.out]; unfold readL; rw [hr.out]; rfl
      clear hr hL
      clear hst hd
      go_enter Try.func57, Try.ntmps57
      go_wp2_with fail
      refine bodyPost_ret (v := .tuple #[.slice none 0 0, .int .i64 3]) (by simp [results, Try.results57, go_sem]) rfl ?_
      exact ⟨none, 0, 0, rfl, Fsl.nil _ _, g0⟩
    have k2 : decide (o < 0) = false := by simp; omega
    obtain ⟨oo, rfl⟩ := Int.eq_ofNat_of_zero_le (show 0 ≤ o by omega)
    obtain ⟨mm, rfl⟩ := Int.eq_ofNat_of_zero_le (show 0 ≤ nn by omega)
    by_cases g3 : (nd : Int) < (oo : Int)
    · have k3 : decide ((nd : Int) < (oo : Int)) = true := by simp; omega
      have k3b : decide (nd < oo) = true := by simp; omega
      obtain rfl : 3 = r := by rw [← hr.out]; unfold readN; rw [if_neg hq]; simp [g1, g2, hDl, g3]; try omega
      obtain rfl : ([] : List UInt8) = L := by rw [← hL.out]; unfold readL; rw [hr.out]; rfl
      clear hr hL
      clear hst hd
      go_enter Try.func57, Try.ntmps57
      go_wp2_with fail
      refine bodyPost_ret (v := .tuple #[.slice none 0 0, .int .i64 3]) (by simp [results, Try.results57, go_sem]) rfl ?_
      exact ⟨none, 0, 0, rfl, Fsl.nil _ _, g0⟩
    have k3 : decide ((nd : Int) < (oo : Int)) = false := by simp; omega
    have k3b : decide (nd < oo) = false := by simp; omega
    by_cases g4 : (nd : Int) - (oo : Int) < (mm : Int)
    · have k4 : decide ((nd : Int) - (oo : Int) < (mm : Int)) = true := by simp; omega
      obtain rfl : 3 = r := by rw [← hr.out]; unfold readN; rw [if_neg hq]; simp [g1, g2, hDl, g3, g4]; try omega
      obtain rfl : ([] : List UInt8) = L := by rw [← hL.out]; unfold readL; rw [hr.out]; rfl
      clear hr hL
      clear hst hd
      go_enter Try.func57, Try.ntmps57
      go_wp2_with fail
      refine bodyPost_ret (v := .tuple #[.slice none 0 0, .int .i64 3]) (by simp [results, Try.results57, go_sem]) rfl ?_
      exact ⟨none, 0, 0, rfl, Fsl.nil _ _, g0⟩
    have k4 : decide ((nd : Int) - (oo : Int) < (mm : Int)) = false := by simp; omega
    obtain rfl : 0 = r := by rw [← hr.out]; unfold readN; rw [if_neg hq]; simp [g1, g2, hDl, g3, g4]
    obtain rfl : (D.drop oo).take mm = L := by rw [← hL.out]; unfold readL; rw [hr.out, hD]; simp
    clear hr hL
    have hfit : oo + mm ≤ nd := by omega
    obtain ⟨A1, c1, hcut, l1⟩ := cut_mid hsd oo mm (oo : Int) ((oo : Int) + (mm : Int)) rfl (by omega) hfit
    clear hst hd
    go_enter Try.func57, Try.ntmps57
    have l1' := l1
    go_wp2_with (at_builtin; refine wpList_append_mine _ rfl _ _ _ _ rfl w.heap.size U8 i0 _ 1 1 under_bytes hi0 hz0 hz1 hz2 rfl _ 0 0 _ rfl (Own.nil _ _ _ _ _) _ rfl mm (((D.drop oo).take mm).map bv) ((l1'.ext (Ext.alloc _ _)).src under_bytes) (by simp only [maxLen]; omega) (by omega) (by simp; omega) ?_; intro P cpp wp hown hg _)
    have hb : Byt U8 wp w.heap.size P mm cpp ((D.drop oo).take mm) := ⟨l1'.len, by simpa using hown⟩
    have hx : Ext W wp := below_grown (Ext.alloc W _) (Own.nil _ _ U8 1 _) hg (by simp)
    clear hown hg
    refine bodyPost_ret (v := .tuple #[.slice P mm cpp, .int .i64 0]) (by simp [results, Try.results57, go_sem]) rfl ?_
    exact ⟨P, mm, cpp, rfl, hb.fsl, g0.trans hx⟩
  · have e0 : (!nm.toList.isEmpty) = true := by
      have := bs_ne he
      cases hl : nm.toList with
      | nil => rw [hl] at this; simp at this
      | cons a t => simp
    by_cases hf : findI st.sn nm < 0
    · obtain rfl : 4 = r := by rw [← hr.out]; unfold readN; rw [if_pos ⟨he, hf⟩]
      obtain rfl : ([] : List UInt8) = L := by rw [← hL.out]; unfold readL; rw [hr.out]; rfl
      obtain ⟨f, hfe⟩ : ∃ f, findI st.sn nm = f := ⟨_, rfl⟩
      rw [hfe] at hf
      have HF := Lib.hid hfe
      have k0 : decide (f < 0) = true := by simp; omega
      clear hr hL hfe hd
      go_enter Try.func57, Try.ntmps57
      go_wp2_with fail
      refine (ref_Find (hst.ext g0) HF).mono ?_
      rintro e w2 ⟨rfl, h2⟩
      go_wp2_with fail
      refine bodyPost_ret (v := .tuple #[.slice none 0 0, .int .i64 4]) (by simp [results, Try.results57, go_sem]) rfl ?_
      exact ⟨none, 0, 0, rfl, Fsl.nil _ _, g0.trans h2⟩
    · obtain ⟨p, hpe, hpl⟩ := find_at hf
      have hq : ¬ (nm ≠ ⟨#[]⟩ ∧ findI st.sn nm < 0) := fun h => hf h.2
      have hsn := hst.2.len
      obtain ⟨ga, oa, x, cs, rfl, hx, ⟨Aa, nd, ca, rfl, sa0, hs1⟩, ha⟩ := hst.2.at2 ol_rep (by omega) (show p < n2 by omega)
      have a1 : W.cell? ⟨ga, oa + p * 2 + 1, none⟩ = _ := g0.cell (ha 1 _ rfl)
      have hnd : nd ≤ 1000 := by have := hd x (List.mem_of_getElem? hx); rw [sa0.len] at this; exact this
      have HF := Lib.hid hpe
      obtain ⟨D, hD⟩ : ∃ D, readD st nm = D := ⟨_, rfl⟩
      have hsd : Sl W Aa nd ca D := by
        rw [← hD]
        unfold readD findN
        rw [if_neg he, hpe, Int.toNat_natCast, List.getD_eq_getElem?_getD, hx, Option.getD_some]
        exact sa0.ext g0
      have k0 : decide ((p : Int) < 0) = false := by simp
      clear hd ha hs1 sa0 hx hpe hf
      have hDl : ((readD st nm).length : Int) = nd := by have := hsd.len; rw [hD]; omega
      by_cases g1 : nn < 0
      · have k1 : decide (nn < 0) = true := by simp; omega
        obtain rfl : 1 = r := by rw [← hr.out]; unfold readN; rw [if_neg hq]; simp [g1]; try omega
        obtain rfl : ([] : List UInt8) = L := by rw [← hL.out]; unfold readL; rw [hr.out]; rfl
        clear hr hL
        go_enter Try.func57, Try.ntmps57
        go_wp2_with fail
        refine (ref_Find (hst.ext g0) HF).mono ?_
        rintro e w2 ⟨rfl, h2⟩
        replace s0 := h2.cell s0
        replace s1 := h2.cell s1
        replace a1 := h2.cell a1
        have hs2 := h2.size
        go_wp2_with fail
        refine bodyPost_ret (v := .tuple #[.slice none 0 0, .int .i64 1]) (by simp [results, Try.results57, go_sem]) rfl ?_
        exact ⟨none, 0, 0, rfl, Fsl.nil _ _, g0.trans h2⟩
      have k1 : decide (nn < 0) = false := by simp; omega
      by_cases g2 : o < 0
      · have k2 : decide (o < 0) = true := by simp; omega
        obtain rfl : 3 = r := by rw [← hr.out]; unfold readN; rw [if_neg hq]; simp [g1, g2]; try omega
        obtain rfl : ([] : List UInt8) = L := by rw [← hL.out]; unfold readL; rw [hr.out]; rfl
        clear hr hL
        go_enter Try.func57, Try.ntmps57
        go_wp2_with fail
        refine (ref_Find (hst.ext g0) HF).mono ?_
        rintro e w2 ⟨rfl, h2⟩
        replace s0 := h2.cell s0
        replace s1 := h2.cell s1
        replace a1 := h2.cell a1
        have hs2 := h2.size
        go_wp2_with fail
        refine bodyPost_ret (v := .tuple #[.slice none 0 0, .int .i64 3]) (by simp [results, Try.results57, go_sem]) rfl ?_
        exact ⟨none, 0, 0, rfl, Fsl.nil _ _, g0.trans h2⟩
      have k2 : decide (o < 0) = false := by simp; omega
      obtain ⟨oo, rfl⟩ := Int.eq_ofNat_of_zero_le (show 0 ≤ o by omega)
      obtain ⟨mm, rfl⟩ := Int.eq_ofNat_of_zero_le (show 0 ≤ nn by omega)
      by_cases g3 : (nd : Int) < (oo : Int)
      · have k3 : decide ((nd : Int) < (oo : Int)) = true := by simp; omega
        have k3b : decide (nd < oo) = true := by simp; omega
        obtain rfl : 3 = r := by rw [← hr.out]; unfold readN; rw [if_neg hq]; simp [g1, g2, hDl, g3]; try omega
        obtain rfl : ([] : List UInt8) = L := by rw [← hL.out]; unfold readL; rw [hr.out]; rfl
        clear hr hL
        go_enter Try.func57, Try.ntmps57
        go_wp2_with fail
        refine (ref_Find (hst.ext g0) HF).mono ?_
        rintro e w2 ⟨rfl, h2⟩
        replace s0 := h2.cell s0
        replace s1 := h2.cell s1
        replace a1 := h2.cell a1
        have hs2 := h2.size
        go_wp2_with fail
        refine bodyPost_ret (v := .tuple #[.slice none 0 0, .int .i64 3]) (by simp [results, Try.results57, go_sem]) rfl ?_
        exact ⟨none, 0, 0, rfl, Fsl.nil _ _, g0.trans h2⟩
      have k3 : decide ((nd : Int) < (oo : Int)) = false := by simp; omega
      have k3b : decide (nd < oo) = false := by simp; omega
      by_cases g4 : (nd : Int) - (oo : Int) < (mm : Int)
      · have k4 : decide ((nd : Int) - (oo : Int) < (mm : Int)) = true := by simp; omega
        obtain rfl : 3 = r := by rw [← hr.out]; unfold readN; rw [if_neg hq]; simp [g1, g2, hDl, g3, g4]; try omega
        obtain rfl : ([] : List UInt8) = L := by rw [← hL.out]; unfold readL; rw [hr.out]; rfl
        clear hr hL
        go_enter Try.func57, Try.ntmps57
        go_wp2_with fail
        refine (ref_Find (hst.ext g0) HF).mono ?_
        rintro e w2 ⟨rfl, h2⟩
        replace s0 := h2.cell s0
        replace s1 := h2.cell s1
        replace a1 := h2.cell a1
        have hs2 := h2.size
        go_wp2_with fail
        refine bodyPost_ret (v := .tuple #[.slice none 0 0, .int .i64 3]) (by simp [results, Try.results57, go_sem]) rfl ?_
        exact ⟨none, 0, 0, rfl, Fsl.nil _ _, g0.trans h2⟩
      have k4 : decide ((nd : Int) - (oo : Int) < (mm : Int)) = false := by simp; omega
      obtain rfl : 0 = r := by rw [← hr.out]; unfold readN; rw [if_neg hq]; simp [g1, g2, hDl, g3, g4]
      obtain rfl : (D.drop oo).take mm = L := by rw [← hL.out]; unfold readL; rw [hr.out, hD]; simp
      clear hr hL
      have hfit : oo + mm ≤ nd := by omega
      obtain ⟨A1, c1, hcut, l1⟩ := cut_mid hsd oo mm (oo : Int) ((oo : Int) + (mm : Int)) rfl (by omega) hfit
      go_enter Try.func57, Try.ntmps57
      go_wp2_with fail
      refine (ref_Find (hst.ext g0) HF).mono ?_
      rintro e w2 ⟨rfl, h2⟩
      replace s0 := h2.cell s0
      replace s1 := h2.cell s1
      replace a1 := h2.cell a1
      have hs2 := h2.size
      have l1' := l1.ext h2
      go_wp2_with (at_builtin; refine wpList_append_mine _ rfl _ _ _ _ rfl w.heap.size U8 i0 _ 1 1 under_bytes hi0 hz0 hz1 hz2 rfl _ 0 0 _ rfl (Own.nil _ _ _ _ _) _ rfl mm (((D.drop oo).take mm).map bv) ((l1'.ext (Ext.alloc _ _)).src under_bytes) (by simp only [maxLen]; omega) (by omega) (by simp; omega) ?_; intro P cpp wp hown hg _)
      have hb : Byt U8 wp w.heap.size P mm cpp ((D.drop oo).take mm) := ⟨l1'.len, by simpa using hown⟩
      have hx : Ext w2 wp := below_grown (Ext.alloc w2 _) (Own.nil _ _ U8 1 _) hg (by simp)
      clear hown hg
      refine bodyPost_ret (v := .tuple #[.slice P mm cpp, .int .i64 0]) (by simp [results, Try.results57, go_sem]) rfl ?_
      exact ⟨P, mm, cpp, rfl, hb.fsl, (g0.trans h2).trans hx⟩
end Go.Proofs.Ytcklkjklepmabaa
