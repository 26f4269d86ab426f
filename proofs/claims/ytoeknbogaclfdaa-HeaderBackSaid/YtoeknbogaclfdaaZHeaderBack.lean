/-
  Chapter 8: the statement HeaderBack, walked.
-/
import Derived.Test.YtoeknbogaclfdaaZLaw8
import Derived.Test.YtoeknbogaclfdaaZMake8
import Derived.Test.YtoeknbogaclfdaaZBackPlain
namespace Go.Proofs.Ytoeknbogaclfdaa
open Go.RowKit
set_option linter.unusedVariables false
set_option linter.unusedSimpArgs false
set_option linter.unnecessarySimpa false
set_option maxRecDepth 100000

set_option maxHeartbeats 8000000 in
theorem law_HeaderBack (a0 a1 a2 a3 : Int) (Ai : Option Addr) (n ci : Nat) (l : List Int) (t xi : Int) (w : World) (hi : Lst 1 intR w Ai n ci l) (ht1 : t ≤ 9223372036854775807) (hx0 : 0 ≤ xi) (hx1 : xi ≤ 255) :
    Calls Try.prog 6 #[.int .i64 a0, .int .i64 a1, .int .i64 a2, .int .i64 a3, .slice Ai n ci, .int .i64 t, .int .u8 xi] w fun e w' => e = .returned (.bool true) ∧ Ext w w' := by
  have h63 := hi.n63
  by_cases hn30 : 30 < n
  · clear hx0 hx1 ht1
    go_enter Try.func6, Try.ntmps6
    go_wp2_with fail
    refine (law8_known _).mono ?_
    rintro e wz ⟨rfl, hxz⟩
    go_wp2_with fail
    go_ret
    exact ⟨rfl, hxz⟩
  have d30 : decide ((30 : Int) < (n : Int)) = false := by simp; omega
  by_cases htn : t < 0
  · clear hx0 hx1 ht1
    go_enter Try.func6, Try.ntmps6
    go_wp2_with fail
    refine (law8_known _).mono ?_
    rintro e wz ⟨rfl, hxz⟩
    go_wp2_with fail
    go_ret
    exact ⟨rfl, hxz⟩
  obtain ⟨T, rfl⟩ := Int.eq_ofNat_of_zero_le (by omega : 0 ≤ t)
  obtain ⟨x, rfl⟩ : ∃ y : UInt8, xi = (y.toNat : Int) := ⟨UInt8.ofNat xi.toNat, by simp; omega⟩
  clear hx0 hx1 htn
  obtain ⟨i0, hi0, hz0, hz1, hz2⟩ := info_parts info_u8
  obtain ⟨h, hh⟩ : ∃ h, makeH a0 a1 a2 a3 l = h := ⟨_, rfl⟩
  have hr : rightH h = true := by rw [← hh]; exact make_right a0 a1 a2 a3 l
  have HH := Lib.hid hh
  have HR := Lib.hid hr
  obtain ⟨L, hL⟩ : ∃ L, putH h = L := ⟨_, rfl⟩
  have HPL : Hid (putHr h true = L) := hL
  have hlen := putH_len hr
  rw [hL] at hlen
  have HG : Hid (getH false L = some h) := getH_iff.2 ⟨hr, hL⟩
  have HY : Hid (whyO (crcOpen L) (some h).isSome = 0) := by unfold Hid; rw [← hL, putH_open]; rfl
  obtain ⟨m, hm⟩ : ∃ m, L.length = m + 1 := ⟨L.length - 1, by omega⟩
  have hm1 : 10 ≤ m ∧ m ≤ 2000 := by omega
  have HM := Lib.hid hm
  have HG3 : Hid (getH false (L.take m) = none) := by unfold Hid; rw [← hL]; exact getH_less hr (by rw [hL]; omega)
  obtain ⟨y3, hy3⟩ : ∃ y : Int, whyO (crcOpen (L.take m)) (none : Option Hd).isSome = y := ⟨_, rfl⟩
  have hy3b : (y3 == 0) = false := by
    rw [← hy3]
    unfold whyO
    split <;> rfl
  have hy3n : y3 ≠ 0 := fun e => by rw [e] at hy3b; cases hy3b
  have hy3c : (y3 != 0) = true := by simpa using hy3n
  have HY3 := Lib.hid hy3
  obtain ⟨j, hj, hjl⟩ : ∃ j : Nat, (T : Int) % ((m : Int) + 1) = (j : Int) ∧ j < m + 1 := ⟨T % (m + 1), by simp, Nat.mod_lt _ (by omega)⟩
  obtain ⟨y, hy⟩ : ∃ y, L.getD j 0 = y := ⟨_, rfl⟩
  have HYJ := Lib.hid hy
  obtain ⟨C, hC⟩ : ∃ C, L.set j (y ^^^ x) = C := ⟨_, rfl⟩
  have HC := Lib.hid hC
  have hx00 : Hid (x = 0 → getH false C = some h ∧ crcOpen C = some (bodyH h)) := by
    intro e
    subst e
    rw [← hC, ← hy, set_xor0 L j (by omega), ← hL]
    exact ⟨getH_iff.2 ⟨hr, rfl⟩, putH_open h⟩
  have hx01 : Hid (x ≠ 0 → getH false C = none ∧ crcOpen C = none) := by
    intro e
    rw [← hC, ← hy, ← hL]
    exact ⟨getH_turned hr (by rw [hL]; omega) e, putH_turned hr (by rw [hL]; omega) e⟩
  have hval : bits .xor .u8 (y.toNat : Int) (x.toNat : Int) = ((y ^^^ x).toNat : Int) := by
    rw [u8_xor_nat _ _ y.toNat_lt x.toNat_lt, UInt8.toNat_xor]
  obtain ⟨_, hf, h17⟩ := right_bds hr
  have HSH : Hid (Shorts h.marks) := fun x hx => by have := (hf x hx).2.2; omega
  have H17 := Lib.hid h17
  obtain ⟨q1, q2, q3, q4, q5, q6, ps⟩ := h
  simp only at HSH H17
  have HSS : Hid (sameHd ⟨q1, q2, q3, q4, q5, q6, ps⟩ ⟨q1, q2, q3, q4, q5, q6, ps⟩ = true) := by unfold Hid sameHd; simp
  clear hh hr hL hlen hm hy3 hy hC hf h17
  go_enter Try.func6, Try.ntmps6
  go_wp2_with fail
  refine (law8_Make a0 a1 a2 a3 hi (by omega) HH).mono ?_
  rintro e w1 ⟨A1, n1, c1, rfl, ol, hx1⟩
  have hn17 : n1 ≤ 17 := by rw [← ol.len]; exact H17.out
  have b0 := cell_new w1 #[.int .i64 q1, .int .i64 q2, .int .i64 q3, .int .i64 q4, .int .i64 q5, .int .i64 q6, .slice A1 n1 c1] THd 0
  have b1 := cell_new w1 #[.int .i64 q1, .int .i64 q2, .int .i64 q3, .int .i64 q4, .int .i64 q5, .int .i64 q6, .slice A1 n1 c1] THd 1
  have b2 := cell_new w1 #[.int .i64 q1, .int .i64 q2, .int .i64 q3, .int .i64 q4, .int .i64 q5, .int .i64 q6, .slice A1 n1 c1] THd 2
  have b3 := cell_new w1 #[.int .i64 q1, .int .i64 q2, .int .i64 q3, .int .i64 q4, .int .i64 q5, .int .i64 q6, .slice A1 n1 c1] THd 3
  have b4 := cell_new w1 #[.int .i64 q1, .int .i64 q2, .int .i64 q3, .int .i64 q4, .int .i64 q5, .int .i64 q6, .slice A1 n1 c1] THd 4
  have b5 := cell_new w1 #[.int .i64 q1, .int .i64 q2, .int .i64 q3, .int .i64 q4, .int .i64 q5, .int .i64 q6, .slice A1 n1 c1] THd 5
  have b6 := cell_new w1 #[.int .i64 q1, .int .i64 q2, .int .i64 q3, .int .i64 q4, .int .i64 q5, .int .i64 q6, .slice A1 n1 c1] THd 6
  have gx1 := hx1.allocs (.cells #[.int .i64 q1, .int .i64 q2, .int .i64 q3, .int .i64 q4, .int .i64 q5, .int .i64 q6, .slice A1 n1 c1] THd)
  have l1 := ol.lst.ext mk_rep (Ext.alloc w1 (.cells #[.int .i64 q1, .int .i64 q2, .int .i64 q3, .int .i64 q4, .int .i64 q5, .int .i64 q6, .slice A1 n1 c1] THd))
  clear hx1 ol
  go_wp2_with fail
  refine (header_Put ⟨q1, q2, q3, q4, q5, q6, ps⟩ l1 HSH (by omega) HR HPL).mono ?_
  rintro e w2 ⟨A2, n2, c2, rfl, hb2, hx2⟩
  have her : (if true = true then (0 : Int) else 1) = 0 := rfl
  rw [her]
  clear her
  obtain rfl : n2 = m + 1 := by rw [← hb2.len]; exact HM.out
  replace b0 := hx2.cell b0
  replace b1 := hx2.cell b1
  replace b2 := hx2.cell b2
  replace b3 := hx2.cell b3
  replace b4 := hx2.cell b4
  replace b5 := hx2.cell b5
  replace b6 := hx2.cell b6
  replace gx1 := gx1.trans hx2
  replace l1 := l1.ext mk_rep hx2
  have hs2 := hb2.sl
  clear hb2 hx2
  go_wp2_with fail
  have hgc := header_Get hs2 (by omega) HG HY
  simp only [Option.getD_some] at hgc
  refine hgc.mono ?_
  rintro e w3 ⟨A3, n3, c3, rfl, l3, hx3⟩
  clear hgc
  have hx4 := hx3.allocs (.cells #[.int .i64 q1, .int .i64 q2, .int .i64 q3, .int .i64 q4, .int .i64 q5, .int .i64 q6, .slice A3 n3 c3] THd)
  replace b0 := hx4.cell b0
  have d0 := cell_new w3 #[.int .i64 q1, .int .i64 q2, .int .i64 q3, .int .i64 q4, .int .i64 q5, .int .i64 q6, .slice A3 n3 c3] THd 0
  replace b1 := hx4.cell b1
  have d1 := cell_new w3 #[.int .i64 q1, .int .i64 q2, .int .i64 q3, .int .i64 q4, .int .i64 q5, .int .i64 q6, .slice A3 n3 c3] THd 1
  replace b2 := hx4.cell b2
  have d2 := cell_new w3 #[.int .i64 q1, .int .i64 q2, .int .i64 q3, .int .i64 q4, .int .i64 q5, .int .i64 q6, .slice A3 n3 c3] THd 2
  replace b3 := hx4.cell b3
  have d3 := cell_new w3 #[.int .i64 q1, .int .i64 q2, .int .i64 q3, .int .i64 q4, .int .i64 q5, .int .i64 q6, .slice A3 n3 c3] THd 3
  replace b4 := hx4.cell b4
  have d4 := cell_new w3 #[.int .i64 q1, .int .i64 q2, .int .i64 q3, .int .i64 q4, .int .i64 q5, .int .i64 q6, .slice A3 n3 c3] THd 4
  replace b5 := hx4.cell b5
  have d5 := cell_new w3 #[.int .i64 q1, .int .i64 q2, .int .i64 q3, .int .i64 q4, .int .i64 q5, .int .i64 q6, .slice A3 n3 c3] THd 5
  replace b6 := hx4.cell b6
  have d6 := cell_new w3 #[.int .i64 q1, .int .i64 q2, .int .i64 q3, .int .i64 q4, .int .i64 q5, .int .i64 q6, .slice A3 n3 c3] THd 6
  replace gx1 := gx1.trans hx4
  replace hs2 := hs2.ext hx4
  replace l1 := l1.ext mk_rep hx4
  have l3' := l3.lst.ext mk_rep (Ext.alloc w3 (.cells #[.int .i64 q1, .int .i64 q2, .int .i64 q3, .int .i64 q4, .int .i64 q5, .int .i64 q6, .slice A3 n3 c3] THd))
  clear hx3 hx4 l3
  go_wp2_with fail
  refine (ref_SameHead ⟨q1, q2, q3, q4, q5, q6, ps⟩ ⟨q1, q2, q3, q4, q5, q6, ps⟩ l3' l1 HSS).mono ?_
  rintro e w5 ⟨rfl, hx5⟩
  replace gx1 := gx1.trans hx5
  replace hs2 := hs2.ext hx5
  have hcap := hs2.cap
  clear hx5 l1 l3' b0 b1 b2 b3 b4 b5 b6 d0 d1 d2 d3 d4 d5 d6
  have d5 : decide ((m : Int) + 1 < 5) = false := by simp; omega
  go_wp2_with (
    at_builtin
    refine wpList_append_mine _ rfl (.tmp 66) (.tmp 67) _ _ rfl w5.heap.size U8 i0 _ 1 1 under_bytes hi0 hz0 hz1 hz2 rfl _ 0 0 _ rfl (Own.nil _ _ _ _ _) _ rfl (m + 1) (L.map bv) ((hs2.ext (Ext.alloc _ _)).src under_bytes) (by simp only [maxLen]; omega) (by omega) (by simp) ?_
    intro A5 c5 w6 hown hg _
    have hbC : Byt U8 w6 w5.heap.size A5 (m + 1) c5 L := ⟨HM.out, by simpa using hown⟩
    have hx6 : Ext w5 w6 := below_grown (Ext.alloc w5 _) (Own.nil _ _ U8 1 _) hg (by simp)
    clear hown hg
    obtain ⟨gC, rfl, hgB, hgl, hcl⟩ := hbC.open_ (by omega)
    obtain ⟨hcell, hfro⟩ := hcl j hjl
    rw [HYJ.out] at hcell
    clear hcl)
  have hb6 := hbC.set_ hjl (y ^^^ x)
  rw [HC.out] at hb6
  have hgw : w.heap.size ≤ gC := Nat.le_trans gx1.size hgB
  replace gx1 := (gx1.trans hx6).sets (p := ⟨gC, j, none⟩) hgw (bv (y ^^^ x))
  have hblk := hs2.blk
  replace hs2 := (hs2.ext hx6).keepBlk (w' := w6.setCell ⟨gC, j, none⟩ (bv (y ^^^ x))) (fun ad e h => Below.heap_setCell _ _ _ _ (by have := hblk ad e h; simp only; omega))
  clear hblk
  have hsC := hb6.sl
  clear hb6 hbC hx6 hcell hfro hval
  by_cases hx : x = 0
  · obtain ⟨hg2, hc2⟩ := hx00.out hx
    subst hx
    have HG2 : Hid (getH false C = some ⟨q1, q2, q3, q4, q5, q6, ps⟩) := hg2
    have HY2 : Hid (whyO (crcOpen C) (some (⟨q1, q2, q3, q4, q5, q6, ps⟩ : Hd)).isSome = 0) := by unfold Hid; rw [hc2]; rfl
    obtain ⟨P, hP⟩ : ∃ q, (some (⟨q1, q2, q3, q4, q5, q6, ps⟩ : Hd)).getD hd0 = q := ⟨_, rfl⟩
    have HP := Lib.hid hP
    obtain ⟨p1, p2, p3, p4, p5, p6, pss⟩ := P
    clear hP hg2 hc2 hx00 hx01
    have hgc := header_Get hsC (by omega) HG2 HY2
    rw [HP.out] at hgc
    simp only at hgc
    refine hgc.mono ?_
    rintro e w7 ⟨A7, n7, c7, rfl, l7, hx7⟩
    clear hgc
    replace gx1 := gx1.trans (hx7.allocs (.cells #[.int .i64 p1, .int .i64 p2, .int .i64 p3, .int .i64 p4, .int .i64 p5, .int .i64 p6, .slice A7 n7 c7] THd))
    replace hs2 := hs2.ext (hx7.allocs (.cells #[.int .i64 p1, .int .i64 p2, .int .i64 p3, .int .i64 p4, .int .i64 p5, .int .i64 p6, .slice A7 n7 c7] THd))
    clear hx7 l7 hsC
    have hcut := hs2.upto (hi := m) (by omega)
    go_wp2_with fail
    have hgc := header_Get hcut (by omega) HG3 HY3
    simp only [Option.getD_none] at hgc
    refine hgc.mono ?_
    rintro e w8 ⟨A8, n8, c8, rfl, l8, hx8⟩
    clear hgc
    replace gx1 := gx1.trans (hx8.allocs (.cells #[.int .i64 0, .int .i64 0, .int .i64 0, .int .i64 0, .int .i64 0, .int .i64 0, .slice A8 n8 c8] THd))
    clear hx8 l8 hcut hs2
    go_wp2_with fail
    refine (law8_known _).mono ?_
    rintro e wz ⟨rfl, hxz⟩
    go_wp2_with fail
    go_ret
    exact ⟨rfl, gx1.trans hxz⟩
  · obtain ⟨hg2, hc2⟩ := hx01.out hx
    have hxb : ((x.toNat : Int) == 0) = false := by
      have : x.toNat ≠ 0 := fun e => hx (UInt8.toNat_inj.1 e)
      simp
      omega
    have HG2 : Hid (getH false C = none) := hg2
    have HY2 : Hid (whyO (crcOpen C) (none : Option Hd).isSome = 13) := by unfold Hid; rw [hc2]; rfl
    obtain ⟨P, hP⟩ : ∃ q, (none : Option Hd).getD hd0 = q := ⟨_, rfl⟩
    have HP := Lib.hid hP
    obtain ⟨p1, p2, p3, p4, p5, p6, pss⟩ := P
    clear hP hg2 hc2 hx00 hx01 hx
    have hgc := header_Get hsC (by omega) HG2 HY2
    rw [HP.out] at hgc
    simp only at hgc
    refine hgc.mono ?_
    rintro e w7 ⟨A7, n7, c7, rfl, l7, hx7⟩
    clear hgc
    replace gx1 := gx1.trans (hx7.allocs (.cells #[.int .i64 p1, .int .i64 p2, .int .i64 p3, .int .i64 p4, .int .i64 p5, .int .i64 p6, .slice A7 n7 c7] THd))
    replace hs2 := hs2.ext (hx7.allocs (.cells #[.int .i64 p1, .int .i64 p2, .int .i64 p3, .int .i64 p4, .int .i64 p5, .int .i64 p6, .slice A7 n7 c7] THd))
    clear hx7 l7 hsC
    have hcut := hs2.upto (hi := m) (by omega)
    go_wp2_with fail
    have hgc := header_Get hcut (by omega) HG3 HY3
    simp only [Option.getD_none] at hgc
    refine hgc.mono ?_
    rintro e w8 ⟨A8, n8, c8, rfl, l8, hx8⟩
    clear hgc
    replace gx1 := gx1.trans (hx8.allocs (.cells #[.int .i64 0, .int .i64 0, .int .i64 0, .int .i64 0, .int .i64 0, .int .i64 0, .slice A8 n8 c8] THd))
    clear hx8 l8 hcut hs2
    go_wp2_with fail
    refine (law8_known _).mono ?_
    rintro e wz ⟨rfl, hxz⟩
    go_wp2_with fail
    go_ret
    exact ⟨rfl, gx1.trans hxz⟩
end Go.Proofs.Ytoeknbogaclfdaa
