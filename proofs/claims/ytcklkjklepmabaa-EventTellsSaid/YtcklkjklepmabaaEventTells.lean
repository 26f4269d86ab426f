/-
  The walk of one statement of chapter 5.
-/
import Derived.Test.YtcklkjklepmabaaEvLaws2
namespace Go.Proofs.Ytcklkjklepmabaa
open Go.RowKit
set_option linter.unusedVariables false
set_option linter.unusedSimpArgs false
set_option linter.unnecessarySimpa false
set_option maxRecDepth 100000

set_option maxHeartbeats 2000000 in
theorem law_EventTells (k o m : Int) (A : Option Addr) (n c : Nat) (l : List UInt8) (s : ByteArray) (B : Option Addr) (nb cb : Nat) (b : List UInt8) (s2 : ByteArray) (w : World) (hsl : Sl w A n c l) (hs : s.size ≤ maxLen) (hb : Sl w B nb cb b) (hs2 : s2.size ≤ maxLen) :
    Calls Try.prog 11 #[evV k o m A n c s, .slice B nb cb, .string s2] w fun e w' => e = .returned (.bool true) ∧ Ext w w' := by
  have h63 := hsl.n63
  have h63b := hb.n63
  have hs63 := hs
  have hs263 := hs2
  unfold maxLen at hs63 hs263
  by_cases t1 : 200 < n
  · skip
    go_enter Try.func11, Try.ntmps11
    go_wp2_with fail
    refine (law5_known _).mono ?_
    rintro e w2 ⟨rfl, hx1⟩
    go_wp2_with fail
    go_ret
    exact ⟨rfl, (Ext.alloc w _).trans hx1⟩
  by_cases t2 : 200 < nb
  · skip
    go_enter Try.func11, Try.ntmps11
    go_wp2_with fail
    refine (law5_known _).mono ?_
    rintro e w2 ⟨rfl, hx1⟩
    go_wp2_with fail
    go_ret
    exact ⟨rfl, (Ext.alloc w _).trans hx1⟩
  by_cases t3 : 60 < s2.size
  · skip
    go_enter Try.func11, Try.ntmps11
    go_wp2_with fail
    refine (law5_known _).mono ?_
    rintro e w2 ⟨rfl, hx1⟩
    go_wp2_with fail
    go_ret
    exact ⟨rfl, (Ext.alloc w _).trans hx1⟩
  by_cases t4 : 60 < s.size
  · skip
    go_enter Try.func11, Try.ntmps11
    go_wp2_with fail
    refine (law5_known _).mono ?_
    rintro e w2 ⟨rfl, hx1⟩
    go_wp2_with fail
    go_ret
    exact ⟨rfl, (Ext.alloc w _).trans hx1⟩
  obtain ⟨r, hr⟩ : ∃ r, rightE k o m n s = r := ⟨_, rfl⟩
  obtain ⟨L, hL⟩ : ∃ L, (if r then putE k o m l s else []) = L := ⟨_, rfl⟩
  obtain ⟨r2, hr2⟩ : ∃ q, evOk b = q := ⟨_, rfl⟩
  obtain ⟨⟨K2, O2, M2, L2, S2⟩, hg2⟩ : ∃ q, gotE b = q := ⟨_, rfl⟩
  obtain ⟨pl, hpl⟩ : ∃ q, plainE k o m n s = q := ⟨_, rfl⟩
  obtain ⟨so, hso⟩ : ∃ q, spanO k o m n s = q := ⟨_, rfl⟩
  obtain ⟨sn, hsn⟩ : ∃ q, spanN k o m n s = q := ⟨_, rfl⟩
  obtain ⟨nm, hnm⟩ : ∃ q, nameB s2 = q := ⟨_, rfl⟩
  obtain ⟨sq, hsq⟩ : ∃ q, sameE k o m l s K2 O2 M2 L2 S2 = q := ⟨_, rfl⟩
  obtain ⟨er, her⟩ : ∃ q : Int, (if r = true then (0 : Int) else 1) = q := ⟨_, rfl⟩
  obtain ⟨er2, her2⟩ : ∃ q : Int, (if r2 = true then (0 : Int) else 2) = q := ⟨_, rfl⟩
  have HER := Lib.hid her
  have HER2 := Lib.hid her2
  clear her her2
  have HR := Lib.hid hr
  have HL := Lib.hid hL
  have HR2 := Lib.hid hr2
  have HG2 := Lib.hid hg2
  have HPL := Lib.hid hpl
  have HSO := Lib.hid hso
  have HSN := Lib.hid hsn
  have HNM := Lib.hid hnm
  have HSQ := Lib.hid hsq
  have HQQ := Lib.hid (sameE_self K2 O2 M2 L2 S2)
  have HEE := Lib.hid (sameE_self k o m l s)
  clear hr hL hr2 hg2 hpl hso hsn hnm hsq
  go_enter Try.func11, Try.ntmps11
  go_wp2_with fail
  refine (event_Put k o m A n c l s _ (hsl.ext (Ext.alloc _ _)) hs HR HL).mono ?_
  rintro e w1 ⟨A1, n1, c1, rfl, hb1, hx1⟩
  rw [HER.out]
  have ec0 : w1.cell? ⟨w.heap.size, 0, none⟩ = some (.int .i64 k) := hx1.cell (cell_new w _ _ 0)
  have ec1 : w1.cell? ⟨w.heap.size, 1, none⟩ = some (.int .i64 o) := hx1.cell (cell_new w _ _ 1)
  have ec2 : w1.cell? ⟨w.heap.size, 2, none⟩ = some (.int .i64 m) := hx1.cell (cell_new w _ _ 2)
  have ec3 : w1.cell? ⟨w.heap.size, 3, none⟩ = some (.slice A n c) := hx1.cell (cell_new w _ _ 3)
  have ec4 : w1.cell? ⟨w.heap.size, 4, none⟩ = some (.string s) := hx1.cell (cell_new w _ _ 4)
  have hx := (Ext.alloc w (.cells #[.int .i64 k, .int .i64 o, .int .i64 m, .slice A n c, .string s] 28)).trans hx1
  clear hx1
  go_wp2_with fail
  refine (ref_PutEvent k o m A n c l s _ (hsl.ext hx) hs HR HL).mono ?_
  rintro e w2 ⟨A2, n2, c2, rfl, hb2, hx2⟩
  rw [HER.out]
  replace ec0 := hx2.cell ec0
  replace ec1 := hx2.cell ec1
  replace ec2 := hx2.cell ec2
  replace ec3 := hx2.cell ec3
  replace ec4 := hx2.cell ec4
  replace hb1 := hb1.ext hx2
  replace hx := hx.trans hx2
  clear hx2
  go_wp2_with fail
  refine (event_Get (hb.ext hx) (by omega) HR2 HG2).mono ?_
  rintro e w3 ⟨A3, n3, c3', rfl, hb3, hx3⟩
  rw [HER2.out]
  replace ec0 := hx3.cell ec0
  replace ec1 := hx3.cell ec1
  replace ec2 := hx3.cell ec2
  replace ec3 := hx3.cell ec3
  replace ec4 := hx3.cell ec4
  have z3 := World.block_lt_of_cell? _ _ ec0
  go_wp2_with fail
  refine (ref_GetEvent (hb.ext ((hx.trans hx3).trans (Ext.alloc _ _))) (by omega) HR2 HG2).mono ?_
  rintro e w4 ⟨A4, n4, c4', rfl, hb4, hx4⟩
  rw [HER2.out]
  have hx34 := (Ext.alloc w3 (.cells #[.int .i64 K2, .int .i64 O2, .int .i64 M2, .slice A3 n3 c3', .string S2] 28)).trans hx4
  replace ec0 := hx34.cell ec0
  have d0 : w4.cell? ⟨w3.heap.size, 0, none⟩ = some (.int .i64 K2) := hx4.cell (cell_new w3 _ _ 0)
  replace ec1 := hx34.cell ec1
  have d1 : w4.cell? ⟨w3.heap.size, 1, none⟩ = some (.int .i64 O2) := hx4.cell (cell_new w3 _ _ 1)
  replace ec2 := hx34.cell ec2
  have d2 : w4.cell? ⟨w3.heap.size, 2, none⟩ = some (.int .i64 M2) := hx4.cell (cell_new w3 _ _ 2)
  replace ec3 := hx34.cell ec3
  have d3 : w4.cell? ⟨w3.heap.size, 3, none⟩ = some (.slice A3 n3 c3') := hx4.cell (cell_new w3 _ _ 3)
  replace ec4 := hx34.cell ec4
  have d4 : w4.cell? ⟨w3.heap.size, 4, none⟩ = some (.string S2) := hx4.cell (cell_new w3 _ _ 4)
  replace hb1 := (hb1.ext hx3).ext hx34
  replace hb2 := (hb2.ext hx3).ext hx34
  replace hb3 := hb3.ext hx34
  replace hx := (hx.trans hx3).trans hx34
  clear hx3 hx4 hx34 z3
  have z4 := World.block_lt_of_cell? _ _ ec0
  have z4' := World.block_lt_of_cell? _ _ d0
  go_wp2_with fail
  obtain ⟨W, hW⟩ : ∃ W, W = w4.alloc (.cells #[.int .i64 K2, .int .i64 O2, .int .i64 M2, .slice A4 n4 c4', .string S2] 28) := ⟨_, rfl⟩
  have hxW : Ext w4 W := by rw [hW]; exact Ext.alloc _ _
  replace ec0 := hxW.cell ec0
  replace d0 := hxW.cell d0
  have p0 : W.cell? ⟨w4.heap.size, 0, none⟩ = some (.int .i64 K2) := by rw [hW]; exact cell_new w4 _ _ 0
  replace ec1 := hxW.cell ec1
  replace d1 := hxW.cell d1
  have p1 : W.cell? ⟨w4.heap.size, 1, none⟩ = some (.int .i64 O2) := by rw [hW]; exact cell_new w4 _ _ 1
  replace ec2 := hxW.cell ec2
  replace d2 := hxW.cell d2
  have p2 : W.cell? ⟨w4.heap.size, 2, none⟩ = some (.int .i64 M2) := by rw [hW]; exact cell_new w4 _ _ 2
  replace ec3 := hxW.cell ec3
  replace d3 := hxW.cell d3
  have p3 : W.cell? ⟨w4.heap.size, 3, none⟩ = some (.slice A4 n4 c4') := by rw [hW]; exact cell_new w4 _ _ 3
  replace ec4 := hxW.cell ec4
  replace d4 := hxW.cell d4
  have p4 : W.cell? ⟨w4.heap.size, 4, none⟩ = some (.string S2) := by rw [hW]; exact cell_new w4 _ _ 4
  rw [← hW]
  replace hb1 := hb1.ext hxW
  replace hb2 := hb2.ext hxW
  replace hb3 := hb3.ext hxW
  replace hb4 := hb4.ext hxW
  replace hx := hx.trans hxW
  clear hW hxW z4 z4'
  refine (event_Span k o m A n c l s _ (hsl.ext hx) hs).mono ?_
  rintro e w5 ⟨rfl, hx5⟩
  rw [HSO.out, HSN.out]
  replace ec0 := hx5.cell ec0
  replace d0 := hx5.cell d0
  replace p0 := hx5.cell p0
  replace ec1 := hx5.cell ec1
  replace d1 := hx5.cell d1
  replace p1 := hx5.cell p1
  replace ec2 := hx5.cell ec2
  replace d2 := hx5.cell d2
  replace p2 := hx5.cell p2
  replace ec3 := hx5.cell ec3
  replace d3 := hx5.cell d3
  replace p3 := hx5.cell p3
  replace ec4 := hx5.cell ec4
  replace d4 := hx5.cell d4
  replace p4 := hx5.cell p4
  replace hb1 := hb1.ext hx5
  replace hb2 := hb2.ext hx5
  replace hb3 := hb3.ext hx5
  replace hb4 := hb4.ext hx5
  replace hx := hx.trans hx5
  clear hx5
  go_wp2_with fail
  refine (ref_Span k o m A n c s _ h63.1 hs).mono ?_
  rintro e w6 ⟨rfl, hx6⟩
  rw [HSO.out, HSN.out]
  replace ec0 := hx6.cell ec0
  replace d0 := hx6.cell d0
  replace p0 := hx6.cell p0
  replace ec1 := hx6.cell ec1
  replace d1 := hx6.cell d1
  replace p1 := hx6.cell p1
  replace ec2 := hx6.cell ec2
  replace d2 := hx6.cell d2
  replace p2 := hx6.cell p2
  replace ec3 := hx6.cell ec3
  replace d3 := hx6.cell d3
  replace p3 := hx6.cell p3
  replace ec4 := hx6.cell ec4
  replace d4 := hx6.cell d4
  replace p4 := hx6.cell p4
  replace hb1 := hb1.ext hx6
  replace hb2 := hb2.ext hx6
  replace hb3 := hb3.ext hx6
  replace hb4 := hb4.ext hx6
  replace hx := hx.trans hx6
  clear hx6
  have v1 := run_text_u8 hb1.sl
  have v2 := run_text_u8 hb2.sl
  go_wp2_with fail
  refine (ref_SameEvent K2 O2 M2 A3 n3 c3' L2 S2 K2 O2 M2 A4 n4 c4' L2 S2 _ hb3.sl hb4.sl).mono ?_
  rintro e w7 ⟨rfl, hx7⟩
  rw [HQQ.out]
  replace ec0 := hx7.cell ec0
  replace p0 := hx7.cell p0
  replace ec1 := hx7.cell ec1
  replace p1 := hx7.cell p1
  replace ec2 := hx7.cell ec2
  replace p2 := hx7.cell p2
  replace ec3 := hx7.cell ec3
  replace p3 := hx7.cell p3
  replace ec4 := hx7.cell ec4
  replace p4 := hx7.cell p4
  replace hb4 := hb4.ext hx7
  replace hx := hx.trans hx7
  have hslW := hsl.ext hx
  clear hx7 v1 v2 d0 d1 d2 d3 d4 hb1 hb2 hb3
  go_wp2_with fail
  refine wp_region_typed Ext.steady rfl 137 rfl (by kernel_rfl) ?_
  -- 0: Op.load 28 t3
  apply Stage.step (Is (evV k o m A n c s)) [] (Is.keeps _) (by kernel_rfl)
  · intro w1 h1
    simp only [Given]
    have q0 := h1.cell ec0
    have q1 := h1.cell ec1
    have q2 := h1.cell ec2
    have q3 := h1.cell ec3
    have q4 := h1.cell ec4
    go_wp2_with fail
    exact Post.isv (Ext.refl _) rfl rfl rfl
  -- 1: Op.call { value (Operand.func 35), args := #[t101], argTypes := #[28] }
  apply Stage.step (Is (.bool r)) [true] (Is.keeps _) (by kernel_rfl)
  · intro w1 h1
    simp only [List.nil_append, Given]
    rintro _ rfl
    go_wp2_with fail
    refine (event_Right k o m A n c l s _ (hslW.ext h1) hs).mono ?_
    rintro e w2 ⟨rfl, hx9⟩
    rw [HR.out]
    go_wp2_with fail
    exact Post.isv hx9 rfl rfl rfl
  -- 2: Op.load 28 t3
  apply Stage.step (Is (evV k o m A n c s)) [] (Is.keeps _) (by kernel_rfl)
  · intro w1 h1
    simp only [Given]
    have q0 := h1.cell ec0
    have q1 := h1.cell ec1
    have q2 := h1.cell ec2
    have q3 := h1.cell ec3
    have q4 := h1.cell ec4
    go_wp2_with fail
    exact Post.isv (Ext.refl _) rfl rfl rfl
  -- 3: Op.call { value (Operand.func 39), args := #[t103], argTypes := #[28] }
  apply Stage.step (Is (.bool r)) [false, false, true] (Is.keeps _) (by kernel_rfl)
  · intro w1 h1
    simp only [List.nil_append, List.cons_append, Given]
    rintro _ rfl
    go_wp2_with fail
    refine (ref_RightEvent k o m A n c s _ h63.1 hs).mono ?_
    rintro e w2 ⟨rfl, hx9⟩
    rw [HR.out]
    go_wp2_with fail
    exact Post.isv hx9 rfl rfl rfl
  -- 4: Op.binOp BinOp.eql 4 t102 t104 4
  apply Stage.step (Is _) [false, true, false, true] (Is.keeps _) (by kernel_rfl)
  · intro w1 h1
    simp only [List.nil_append, List.cons_append, Given]
    rintro _ rfl
    rintro _ rfl
    go_wp2_with fail
    exact Post.isv (Ext.refl _) rfl rfl rfl
  -- 5: Op.move t105
  apply Stage.step (Is _) [false, false, false, false, true] (Is.keeps _) (by kernel_rfl)
  · intro w1 h1
    simp only [List.nil_append, List.cons_append, Given]
    rintro _ rfl
    go_wp2_with fail
    exact Post.isv (Ext.refl _) rfl rfl rfl
  -- 6: Op.load 28 t3   [guarded: some (5, true)]
  apply Stage.step (Is (evV k o m A n c s)) [false, false, false, false, false, true] (Is.keeps _) (by kernel_rfl)
  · intro w1 h1
    simp only [List.nil_append, List.cons_append, Given]
    rintro _ rfl
    have q0 := h1.cell ec0
    have q1 := h1.cell ec1
    have q2 := h1.cell ec2
    have q3 := h1.cell ec3
    have q4 := h1.cell ec4
    go_wp2_with fail
    exact Post.isv (Ext.refl _) rfl rfl rfl
  -- 7: Op.call { value (Operand.func 41), args := #[t107], argTypes := #[28] }   [guarded: some (5, true)]
  apply Stage.step (Is (.bool pl)) [false, false, false, false, false, true, true] (Is.keeps _) (by kernel_rfl)
  · intro w1 h1
    simp only [List.nil_append, List.cons_append, Given]
    rintro _ rfl
    rintro _ rfl
    go_wp2_with fail
    refine (event_Plain k o m A n c l s _ (hslW.ext h1) hs).mono ?_
    rintro e w2 ⟨rfl, hx9⟩
    rw [HPL.out]
    go_wp2_with fail
    exact Post.isv hx9 rfl rfl rfl
  -- 8: Op.load 28 t3   [guarded: some (5, true)]
  apply Stage.step (Is (evV k o m A n c s)) [false, false, false, false, false, true] (Is.keeps _) (by kernel_rfl)
  · intro w1 h1
    simp only [List.nil_append, List.cons_append, Given]
    rintro _ rfl
    have q0 := h1.cell ec0
    have q1 := h1.cell ec1
    have q2 := h1.cell ec2
    have q3 := h1.cell ec3
    have q4 := h1.cell ec4
    go_wp2_with fail
    exact Post.isv (Ext.refl _) rfl rfl rfl
  -- 9: Op.call { value (Operand.func 40), args := #[t109], argTypes := #[28] }   [guarded: some (5, true)]
  apply Stage.step (Is (.bool pl)) [false, false, false, false, false, true, false, false, true] (Is.keeps _) (by kernel_rfl)
  · intro w1 h1
    simp only [List.nil_append, List.cons_append, Given]
    rintro _ rfl
    rintro _ rfl
    go_wp2_with fail
    refine (ref_Plain k o m A n c s _ h63.1 hs).mono ?_
    rintro e w2 ⟨rfl, hx9⟩
    rw [HPL.out]
    go_wp2_with fail
    exact Post.isv hx9 rfl rfl rfl
  -- 10: Op.binOp BinOp.eql 4 t108 t110 4   [guarded: some (5, true)]
  apply Stage.step (Is _) [false, false, false, false, false, true, false, true, false, true] (Is.keeps _) (by kernel_rfl)
  · intro w1 h1
    simp only [List.nil_append, List.cons_append, Given]
    rintro _ rfl
    rintro _ rfl
    rintro _ rfl
    go_wp2_with fail
    exact Post.isv (Ext.refl _) rfl rfl rfl
  -- 11: Op.pick t106 t111 (const (Value.bool false))
  apply Stage.step (Is _) [false, false, false, false, false, true, false, false, false, false, true] (Is.keeps _) (by kernel_rfl)
  · intro w1 h1
    simp only [List.nil_append, List.cons_append, Given]
    rintro _ rfl
    rintro _ rfl
    go_wp2_with fail
    exact Post.isv (Ext.refl _) rfl rfl rfl
  -- 12: Op.move t112
  apply Stage.step (Is _) [false, false, false, false, false, false, false, false, false, false, false, true] (Is.keeps _) (by kernel_rfl)
  · intro w1 h1
    simp only [List.nil_append, List.cons_append, Given]
    rintro _ rfl
    go_wp2_with fail
    exact Post.isv (Ext.refl _) rfl rfl rfl
  -- 13: Op.move t2   [guarded: some (12, true)]
  apply Stage.step (Is _) [false, false, false, false, false, false, false, false, false, false, false, false, true] (Is.keeps _) (by kernel_rfl)
  · intro w1 h1
    simp only [List.nil_append, List.cons_append, Given]
    rintro _ rfl
    go_wp2_with fail
    exact Post.isv (Ext.refl _) rfl rfl rfl
  -- 14: Op.call { value (Operand.func 45), args := #[t114], argTypes := #[9] }   [guarded: some (12, true)]
  apply Stage.step (Is (.bool nm)) [false, false, false, false, false, false, false, false, false, false, false, false, true, true] (Is.keeps _) (by kernel_rfl)
  · intro w1 h1
    simp only [List.nil_append, List.cons_append, Given]
    rintro _ rfl
    rintro _ rfl
    go_wp2_with fail
    refine (event_Name s2 _ hs2).mono ?_
    rintro e w2 ⟨rfl, rfl⟩
    rw [HNM.out]
    go_wp2_with fail
    exact Post.isv (Ext.refl _) rfl rfl rfl
  -- 15: Op.move t2   [guarded: some (12, true)]
  apply Stage.step (Is _) [false, false, false, false, false, false, false, false, false, false, false, false, true] (Is.keeps _) (by kernel_rfl)
  · intro w1 h1
    simp only [List.nil_append, List.cons_append, Given]
    rintro _ rfl
    go_wp2_with fail
    exact Post.isv (Ext.refl _) rfl rfl rfl
  -- 16: Op.call { value (Operand.func 46), args := #[t116], argTypes := #[9] }   [guarded: some (12, true)]
  apply Stage.step (Is (.bool nm)) [false, false, false, false, false, false, false, false, false, false, false, false, true, false, false, true] (Is.keeps _) (by kernel_rfl)
  · intro w1 h1
    simp only [List.nil_append, List.cons_append, Given]
    rintro _ rfl
    rintro _ rfl
    go_wp2_with fail
    refine (ref_Name s2 _ hs2).mono ?_
    rintro e w2 ⟨rfl, rfl⟩
    rw [HNM.out]
    go_wp2_with fail
    exact Post.isv (Ext.refl _) rfl rfl rfl
  -- 17: Op.binOp BinOp.eql 4 t115 t117 4   [guarded: some (12, true)]
  apply Stage.step (Is _) [false, false, false, false, false, false, false, false, false, false, false, false, true, false, true, false, true] (Is.keeps _) (by kernel_rfl)
  · intro w1 h1
    simp only [List.nil_append, List.cons_append, Given]
    rintro _ rfl
    rintro _ rfl
    rintro _ rfl
    go_wp2_with fail
    exact Post.isv (Ext.refl _) rfl rfl rfl
  -- 18: Op.pick t113 t118 (const (Value.bool false))
  apply Stage.step (Is _) [false, false, false, false, false, false, false, false, false, false, false, false, true, false, false, false, false, true] (Is.keeps _) (by kernel_rfl)
  · intro w1 h1
    simp only [List.nil_append, List.cons_append, Given]
    rintro _ rfl
    rintro _ rfl
    go_wp2_with fail
    exact Post.isv (Ext.refl _) rfl rfl rfl
  -- 19: Op.move t119
  apply Stage.step (Is _) [false, false, false, false, false, false, false, false, false, false, false, false, false, false, false, false, false, false, true] (Is.keeps _) (by kernel_rfl)
  · intro w1 h1
    simp only [List.nil_append, List.cons_append, Given]
    rintro _ rfl
    go_wp2_with fail
    exact Post.isv (Ext.refl _) rfl rfl rfl
  -- 20: Op.load 28 t3   [guarded: some (19, true)]
  apply Stage.step (Is (evV k o m A n c s)) [false, false, false, false, false, false, false, false, false, false, false, false, false, false, false, false, false, false, false, true] (Is.keeps _) (by kernel_rfl)
  · intro w1 h1
    simp only [List.nil_append, List.cons_append, Given]
    rintro _ rfl
    have q0 := h1.cell ec0
    have q1 := h1.cell ec1
    have q2 := h1.cell ec2
    have q3 := h1.cell ec3
    have q4 := h1.cell ec4
    go_wp2_with fail
    exact Post.isv (Ext.refl _) rfl rfl rfl
  -- 21: Op.load 28 t13   [guarded: some (19, true)]
  apply Stage.step (Is (evV K2 O2 M2 A4 n4 c4' S2)) [false, false, false, false, false, false, false, false, false, false, false, false, false, false, false, false, false, false, false, true] (Is.keeps _) (by kernel_rfl)
  · intro w1 h1
    simp only [List.nil_append, List.cons_append, Given]
    rintro _ rfl
    have q0 := h1.cell p0
    have q1 := h1.cell p1
    have q2 := h1.cell p2
    have q3 := h1.cell p3
    have q4 := h1.cell p4
    go_wp2_with fail
    exact Post.isv (Ext.refl _) rfl rfl rfl
  -- 22: Op.call { value (Operand.func 38), args := #[t121, t122], argTypes := #[28, 28] }   [guarded: some (
  apply Stage.step (Is (.bool sq)) [false, false, false, false, false, false, false, false, false, false, false, false, false, false, false, false, false, false, false, true, true, true] (Is.keeps _) (by kernel_rfl)
  · intro w1 h1
    simp only [List.nil_append, List.cons_append, Given]
    rintro _ rfl
    rintro _ rfl
    rintro _ rfl
    go_wp2_with fail
    refine (event_Same k o m A n c l s K2 O2 M2 A4 n4 c4' L2 S2 _ (hslW.ext h1) (hb4.ext h1).sl).mono ?_
    rintro e w2 ⟨rfl, hx9⟩
    rw [HSQ.out]
    go_wp2_with fail
    exact Post.isv hx9 rfl rfl rfl
  -- 23: Op.load 28 t3   [guarded: some (19, true)]
  apply Stage.step (Is (evV k o m A n c s)) [false, false, false, false, false, false, false, false, false, false, false, false, false, false, false, false, false, false, false, true] (Is.keeps _) (by kernel_rfl)
  · intro w1 h1
    simp only [List.nil_append, List.cons_append, Given]
    rintro _ rfl
    have q0 := h1.cell ec0
    have q1 := h1.cell ec1
    have q2 := h1.cell ec2
    have q3 := h1.cell ec3
    have q4 := h1.cell ec4
    go_wp2_with fail
    exact Post.isv (Ext.refl _) rfl rfl rfl
  -- 24: Op.load 28 t13   [guarded: some (19, true)]
  apply Stage.step (Is (evV K2 O2 M2 A4 n4 c4' S2)) [false, false, false, false, false, false, false, false, false, false, false, false, false, false, false, false, false, false, false, true] (Is.keeps _) (by kernel_rfl)
  · intro w1 h1
    simp only [List.nil_append, List.cons_append, Given]
    rintro _ rfl
    have q0 := h1.cell p0
    have q1 := h1.cell p1
    have q2 := h1.cell p2
    have q3 := h1.cell p3
    have q4 := h1.cell p4
    go_wp2_with fail
    exact Post.isv (Ext.refl _) rfl rfl rfl
  -- 25: Op.call { value (Operand.func 37), args := #[t124, t125], argTypes := #[28, 28] }   [guarded: some (
  apply Stage.step (Is (.bool sq)) [false, false, false, false, false, false, false, false, false, false, false, false, false, false, false, false, false, false, false, true, false, false, false, true, true] (Is.keeps _) (by kernel_rfl)
  · intro w1 h1
    simp only [List.nil_append, List.cons_append, Given]
    rintro _ rfl
    rintro _ rfl
    rintro _ rfl
    go_wp2_with fail
    refine (ref_SameEvent k o m A n c l s K2 O2 M2 A4 n4 c4' L2 S2 _ (hslW.ext h1) (hb4.ext h1).sl).mono ?_
    rintro e w2 ⟨rfl, hx9⟩
    rw [HSQ.out]
    go_wp2_with fail
    exact Post.isv hx9 rfl rfl rfl
  -- 26: Op.binOp BinOp.eql 4 t123 t126 4   [guarded: some (19, true)]
  apply Stage.step (Is _) [false, false, false, false, false, false, false, false, false, false, false, false, false, false, false, false, false, false, false, true, false, false, true, false, false, true] (Is.keeps _) (by kernel_rfl)
  · intro w1 h1
    simp only [List.nil_append, List.cons_append, Given]
    rintro _ rfl
    rintro _ rfl
    rintro _ rfl
    go_wp2_with fail
    exact Post.isv (Ext.refl _) rfl rfl rfl
  -- 27: Op.pick t120 t127 (const (Value.bool false))
  apply Stage.step (Is _) [false, false, false, false, false, false, false, false, false, false, false, false, false, false, false, false, false, false, false, true, false, false, false, false, false, false, true] (Is.keeps _) (by kernel_rfl)
  · intro w1 h1
    simp only [List.nil_append, List.cons_append, Given]
    rintro _ rfl
    rintro _ rfl
    go_wp2_with fail
    exact Post.isv (Ext.refl _) rfl rfl rfl
  -- 28: Op.move t128
  apply Stage.step (Is _) [false, false, false, false, false, false, false, false, false, false, false, false, false, false, false, false, false, false, false, false, false, false, false, false, false, false, false, true] (Is.keeps _) (by kernel_rfl)
  · intro w1 h1
    simp only [List.nil_append, List.cons_append, Given]
    rintro _ rfl
    go_wp2_with fail
    exact Post.isv (Ext.refl _) rfl rfl rfl
  -- 29: Op.load 28 t3   [guarded: some (28, true)]
  apply Stage.step (Is (evV k o m A n c s)) [false, false, false, false, false, false, false, false, false, false, false, false, false, false, false, false, false, false, false, false, false, false, false, false, false, false, false, false, true] (Is.keeps _) (by kernel_rfl)
  · intro w1 h1
    simp only [List.nil_append, List.cons_append, Given]
    rintro _ rfl
    have q0 := h1.cell ec0
    have q1 := h1.cell ec1
    have q2 := h1.cell ec2
    have q3 := h1.cell ec3
    have q4 := h1.cell ec4
    go_wp2_with fail
    exact Post.isv (Ext.refl _) rfl rfl rfl
  -- 30: Op.load 28 t3   [guarded: some (28, true)]
  apply Stage.step (Is (evV k o m A n c s)) [false, false, false, false, false, false, false, false, false, false, false, false, false, false, false, false, false, false, false, false, false, false, false, false, false, false, false, false, true] (Is.keeps _) (by kernel_rfl)
  · intro w1 h1
    simp only [List.nil_append, List.cons_append, Given]
    rintro _ rfl
    have q0 := h1.cell ec0
    have q1 := h1.cell ec1
    have q2 := h1.cell ec2
    have q3 := h1.cell ec3
    have q4 := h1.cell ec4
    go_wp2_with fail
    exact Post.isv (Ext.refl _) rfl rfl rfl
  -- 31: Op.call { value (Operand.func 38), args := #[t130, t131], argTypes := #[28, 28] }   [guarded: some (
  apply Stage.step (Is (.bool true)) [false, false, false, false, false, false, false, false, false, false, false, false, false, false, false, false, false, false, false, false, false, false, false, false, false, false, false, false, true, true, true] (Is.keeps _) (by kernel_rfl)
  · intro w1 h1
    simp only [List.nil_append, List.cons_append, Given]
    rintro _ rfl
    rintro _ rfl
    rintro _ rfl
    go_wp2_with fail
    refine (event_Same k o m A n c l s k o m A n c l s _ (hslW.ext h1) (hslW.ext h1)).mono ?_
    rintro e w2 ⟨rfl, hx9⟩
    rw [HEE.out]
    go_wp2_with fail
    exact Post.isv hx9 rfl rfl rfl
  -- 32: Op.pick t129 t132 (const (Value.bool false))
  apply Stage.step (Is _) [false, false, false, false, false, false, false, false, false, false, false, false, false, false, false, false, false, false, false, false, false, false, false, false, false, false, false, false, true, false, false, true] (Is.keeps _) (by kernel_rfl)
  · intro w1 h1
    simp only [List.nil_append, List.cons_append, Given]
    rintro _ rfl
    rintro _ rfl
    go_wp2_with fail
    exact Post.isv (Ext.refl _) rfl rfl rfl
  -- 33: Op.move t133
  apply Stage.step (Is _) [false, false, false, false, false, false, false, false, false, false, false, false, false, false, false, false, false, false, false, false, false, false, false, false, false, false, false, false, false, false, false, false, true] (Is.keeps _) (by kernel_rfl)
  · intro w1 h1
    simp only [List.nil_append, List.cons_append, Given]
    rintro _ rfl
    go_wp2_with fail
    exact Post.isv (Ext.refl _) rfl rfl rfl
  -- 34: Op.call { value (Operand.func 33), args := #[], argTypes := #[] }   [guarded: some (33, true)]
  apply Stage.step (Is (.bool true)) [false, false, false, false, false, false, false, false, false, false, false, false, false, false, false, false, false, false, false, false, false, false, false, false, false, false, false, false, false, false, false, false, false, true] (Is.keeps _) (by kernel_rfl)
  · intro w1 h1
    simp only [List.nil_append, List.cons_append, Given]
    rintro _ rfl
    go_wp2_with fail
    refine (law5_known _).mono ?_
    rintro e w2 ⟨rfl, hx9⟩
    go_wp2_with fail
    exact Post.isv hx9 rfl rfl rfl
  -- 35: Op.pick t134 t135 (const (Value.bool false))
  apply Stage.step (Is _) [false, false, false, false, false, false, false, false, false, false, false, false, false, false, false, false, false, false, false, false, false, false, false, false, false, false, false, false, false, false, false, false, false, true, true] (Is.keeps _) (by kernel_rfl)
  · intro w1 h1
    simp only [List.nil_append, List.cons_append, Given]
    rintro _ rfl
    rintro _ rfl
    go_wp2_with fail
    exact Post.isv (Ext.refl _) rfl rfl rfl
  -- 36: Op.assign t136
  apply Stage.step (Is _) [false, false, false, false, false, false, false, false, false, false, false, false, false, false, false, false, false, false, false, false, false, false, false, false, false, false, false, false, false, false, false, false, false, false, false, true] (Is.keeps _) (by kernel_rfl)
  · intro w1 h1
    simp only [List.nil_append, List.cons_append, Given]
    rintro _ rfl
    go_wp2_with fail
    exact Post.isv (Ext.refl _) rfl rfl rfl
  apply Stage.nil
  intro w1 h1
  simp only [List.nil_append, List.cons_append]
  refine Fin.is_ ?_
  refine Fin.is_ ?_
  refine Fin.is_ ?_
  refine Fin.is_ ?_
  refine Fin.is_ ?_
  refine Fin.is_ ?_
  refine Fin.is_ ?_
  refine Fin.is_ ?_
  refine Fin.is_ ?_
  refine Fin.is_ ?_
  refine Fin.is_ ?_
  refine Fin.is_ ?_
  refine Fin.is_ ?_
  refine Fin.is_ ?_
  refine Fin.is_ ?_
  refine Fin.is_ ?_
  refine Fin.is_ ?_
  refine Fin.is_ ?_
  refine Fin.is_ ?_
  refine Fin.is_ ?_
  refine Fin.is_ ?_
  refine Fin.is_ ?_
  refine Fin.is_ ?_
  refine Fin.is_ ?_
  refine Fin.is_ ?_
  refine Fin.is_ ?_
  refine Fin.is_ ?_
  refine Fin.is_ ?_
  refine Fin.is_ ?_
  refine Fin.is_ ?_
  refine Fin.is_ ?_
  refine Fin.is_ ?_
  refine Fin.is_ ?_
  refine Fin.is_ ?_
  refine Fin.is_ ?_
  refine Fin.is_ ?_
  refine Fin.is_ ?_
  refine Fin.nil_ ?_
  go_simp
  go_wp2_with fail
  go_ret
  exact ⟨rfl, hx.trans h1⟩
end Go.Proofs.Ytcklkjklepmabaa
