/-
  The walk of one statement of chapter 5.
-/
import Derived.Test.YtcklkjklepmabaaEvLaws2
namespace Go.Proofs.Ytcklkjklepmabaa
open Go.RowKit
set_option linter.unusedVariables false
set_option linter.unusedSimpArgs false
set_option linter.unnecessarySimpa false
set_option maxRecDepth 100000

set_option maxHeartbeats 1000000 in
theorem law_EventOne (A : Option Addr) (n c : Nat) (b : List UInt8) (x : Int) (w : World) (hb : Sl w A n c b) (hx0 : 0 ≤ x) (hx1 : x ≤ 255) :
    Calls Try.prog 8 #[.slice A n c, .int .u8 x] w fun e w' => e = .returned (.bool true) ∧ Ext w w' := by
  have h63 := hb.n63
  have hbl := hb.len
  by_cases h150 : 150 < n
  · go_enter Try.func8, Try.ntmps8
    go_wp2_with fail
    refine (law5_known _).mono ?_
    rintro e w1 ⟨rfl, hx1⟩
    go_wp2_with fail
    go_ret
    exact ⟨rfl, hx1⟩
  obtain ⟨i0, hi0, hz0, hz1, hz2⟩ := info_parts info_u8
  obtain ⟨y, rfl⟩ : ∃ y : UInt8, x = (y.toNat : Int) := ⟨UInt8.ofNat x.toNat, by simp; omega⟩
  obtain ⟨r, hr⟩ : ∃ q, evOk b = q := ⟨_, rfl⟩
  obtain ⟨⟨K, O, M, L, S⟩, hg⟩ : ∃ q, gotE b = q := ⟨_, rfl⟩
  obtain ⟨b2, hb2⟩ : ∃ q, b ++ [y] = q := ⟨_, rfl⟩
  obtain ⟨r2, hr2⟩ : ∃ q, evOk b2 = q := ⟨_, rfl⟩
  obtain ⟨⟨K2, O2, M2, L2, S2⟩, hg2⟩ : ∃ q, gotE b2 = q := ⟨_, rfl⟩
  have hn : r = false → K = 0 ∧ O = 0 ∧ M = 0 ∧ L = [] ∧ S = ⟨#[]⟩ := by
    intro h
    have h1 := gotE_no (hr.trans h)
    rw [hg] at h1
    simpa only [Prod.mk.injEq] using h1
  have hy : r = true → rightE K O M L.length S = true ∧ putE K O M L S = b ∧ S.size ≤ b.length ∧ (r2 = true → sameE K2 O2 M2 L2 S2 K O M L S = false) := by
    intro h
    have h0 := hr.trans h
    have h1 := gotE_yes h0
    rw [hg] at h1
    simp only [Prod.mk.injEq] at h1
    obtain ⟨e1, e2, e3, e4, e5⟩ := h1
    obtain ⟨_, h3, h4⟩ := evOk_iff.1 h0
    have h5 := parS_size b
    refine ⟨by rw [e1, e2, e3, e4, e5]; exact h3, by rw [e1, e2, e3, e4, e5]; exact h4, by rw [e5]; exact h5, fun hh => ?_⟩
    have k0 := hr2.trans hh
    have k1 := gotE_yes k0
    rw [hg2] at k1
    simp only [Prod.mk.injEq] at k1
    obtain ⟨f1, f2, f3, f4, f5⟩ := k1
    have := more_other (x := y) h0 (by rw [hb2]; exact k0)
    rw [hb2] at this
    rw [e1, e2, e3, e4, e5, f1, f2, f3, f4, f5]
    exact this
  have HR := Lib.hid hr
  have HG := Lib.hid hg
  have HR2 := Lib.hid hr2
  have HG2 := Lib.hid hg2
  have HN := Lib.hid hn
  have HY := Lib.hid hy
  have HB2 := Lib.hid hb2
  have hsb2 : b2.length = n + 1 := by rw [← hb2]; simp [hbl]
  have HSB := Lib.hid hsb2
  clear hr hg hr2 hg2 hn hy hb2 hsb2
  go_enter Try.func8, Try.ntmps8
  go_wp2_with fail
  refine (event_Get hb (by omega) HR HG).mono ?_
  rintro e w1 ⟨A1, n1, c1, rfl, hb1, hx1⟩
  cases r with
  | false =>
    obtain ⟨rfl, rfl, rfl, rfl, rfl⟩ := HN.out rfl
    obtain rfl : n1 = 0 := by rw [← hb1.len]; rfl
    go_wp2_with fail
    refine (law5_known _).mono ?_
    rintro e w2 ⟨rfl, hx2⟩
    go_wp2_with fail
    go_ret
    exact ⟨rfl, (hx1.trans (Ext.alloc _ _)).trans hx2⟩
  | true =>
    obtain ⟨y1, y2, y3, y4⟩ := HY.out rfl
    rw [hb1.len] at y1
    have Y1 := Lib.hid y1
    have Y2 : Hid ((if true then putE K O M L S else []) = b) := y2
    have Y4 := Lib.hid y4
    have hss : S.size ≤ maxLen := by unfold maxLen; omega
    clear y1 y2 y4
    go_wp2_with fail
    refine (event_Put K O M A1 n1 c1 L S _ (hb1.sl.ext (Ext.alloc _ _)) hss Y1 Y2).mono ?_
    rintro e w2 ⟨A2, n2, c2, rfl, hb2, hx2⟩
    have hlt : w1.heap.size < w2.heap.size := by have := hx2.size; simp at this; omega
    have d0 : w2.cell? ⟨w1.heap.size, 0, none⟩ = some (.int .i64 K) := hx2.cell (cell_new w1 _ _ 0)
    have d1 : w2.cell? ⟨w1.heap.size, 1, none⟩ = some (.int .i64 O) := hx2.cell (cell_new w1 _ _ 1)
    have d2 : w2.cell? ⟨w1.heap.size, 2, none⟩ = some (.int .i64 M) := hx2.cell (cell_new w1 _ _ 2)
    have d3 : w2.cell? ⟨w1.heap.size, 3, none⟩ = some (.slice A1 n1 c1) := hx2.cell (cell_new w1 _ _ 3)
    have d4 : w2.cell? ⟨w1.heap.size, 4, none⟩ = some (.string S) := hx2.cell (cell_new w1 _ _ 4)
    have hx12 : Ext w w2 := hx1.trans ((Ext.alloc w1 _).trans hx2)
    have hbE := hb1.ext ((Ext.alloc w1 _).trans hx2)
    have hbW := hb.ext hx12
    have hw2 := hx12.size
    clear hx1 hx2 hb1
    go_wp2_with (first | (at_builtin; refine wpList_append_mine (o := ⟨some 51, _, _, _, _, _⟩) _ rfl _ _ _ _ rfl w2.heap.size U8 i0 _ 1 1 under_bytes hi0 hz0 hz1 hz2 rfl _ 0 0 _ rfl (Own.nil _ _ _ _ _) _ rfl n (b.map bv) ((hbW.ext (Ext.alloc _ _)).src under_bytes) (by simp only [maxLen]; omega) (by omega) (by simp) ?_; intro A3 c3 w3 hown hg _; simp only [Nat.zero_add, List.nil_append] at hown; have hx3 := (Ext.alloc w2 _).trans (grown_nil hg); clear hg) | (at_builtin; refine wpList_append_mine (o := ⟨some 54, _, _, _, _, _⟩) _ rfl _ _ _ _ rfl w2.heap.size U8 i0 _ 1 1 under_bytes hi0 hz0 hz1 hz2 rfl A3 n c3 _ rfl (hown.alloc _) _ rfl 1 _ (src_one under_bytes _ rfl) (by simp only [maxLen]; omega) (by omega) (hx3.trans (Ext.alloc _ _)).size ?_; intro A4 c4 w4 hown4 hg4 _))
    have h4 : Byt U8 w4 w2.heap.size A4 (n + 1) c4 b2 := by
      have := Byt.more (l2 := [y]) hb.len rfl hown4 rfl
      rwa [HB2.out] at this
    have hx4 : Ext w2 w4 := below_grown (hx3.trans (Ext.alloc _ _)) (hown.alloc _) hg4 (hx3.trans (Ext.alloc _ _)).size
    clear hown hown4 hg4 hx3
    refine (event_Get h4.sl (by omega) HR2 HG2).mono ?_
    rintro e w5 ⟨A5, n5, c5, rfl, hb5, hx5⟩
    have hx25 := hx4.trans hx5
    replace d0 := hx25.cell d0
    replace d1 := hx25.cell d1
    replace d2 := hx25.cell d2
    replace d3 := hx25.cell d3
    replace d4 := hx25.cell d4
    have hlt5 := World.block_lt_of_cell? _ _ d0
    have hx15 := hx12.trans hx25
    have hbE5 := hbE.ext hx25
    have t1 := run_text_u8 ((hb2.ext hx25).ext (Ext.alloc w5 (.cells #[.int .i64 K2, .int .i64 O2, .int .i64 M2, .slice A5 n5 c5, .string S2] 28))).sl
    have t2 := run_text_u8 ((hb.ext hx15).ext (Ext.alloc w5 (.cells #[.int .i64 K2, .int .i64 O2, .int .i64 M2, .slice A5 n5 c5, .string S2] 28)))
    clear hx25 hx12 hx4 hx5 hbE hbW h4
    cases r2 with
    | false =>
      go_wp2_with fail
      refine (event_Right K O M A1 n1 c1 L S _ (hbE5.sl.ext (Ext.alloc _ _)) hss).mono ?_
      rintro e w6 ⟨rfl, hx6⟩
      rw [Y1.out]
      go_wp2_with fail
      refine (law5_known _).mono ?_
      rintro e w7 ⟨rfl, hx7⟩
      go_wp2_with fail
      go_ret
      exact ⟨rfl, ((hx15.trans (Ext.alloc _ _)).trans hx6).trans hx7⟩
    | true =>
      have HSE := Lib.hid (Y4.out rfl)
      go_wp2_with fail
      refine (event_Same K2 O2 M2 A5 n5 c5 L2 S2 K O M A1 n1 c1 L S _ (hb5.sl.ext (Ext.alloc _ _)) (hbE5.sl.ext (Ext.alloc _ _))).mono ?_
      rintro e w6 ⟨rfl, hx6⟩
      rw [HSE.out]
      replace d0 := hx6.cell ((Ext.alloc _ _).cell d0)
      replace d1 := hx6.cell ((Ext.alloc _ _).cell d1)
      replace d2 := hx6.cell ((Ext.alloc _ _).cell d2)
      replace d3 := hx6.cell ((Ext.alloc _ _).cell d3)
      replace d4 := hx6.cell ((Ext.alloc _ _).cell d4)
      go_wp2_with fail
      refine (event_Right K O M A1 n1 c1 L S _ ((hbE5.sl.ext (Ext.alloc _ _)).ext hx6) hss).mono ?_
      rintro e w7 ⟨rfl, hx7⟩
      rw [Y1.out]
      go_wp2_with fail
      refine (law5_known _).mono ?_
      rintro e w8 ⟨rfl, hx8⟩
      go_wp2_with fail
      go_ret
      exact ⟨rfl, (((hx15.trans (Ext.alloc _ _)).trans hx6).trans hx7).trans hx8⟩
end Go.Proofs.Ytcklkjklepmabaa
