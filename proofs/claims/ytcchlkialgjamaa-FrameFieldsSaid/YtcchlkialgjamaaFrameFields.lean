/-
  The walk of one statement of chapter 4.
-/
import Derived.Test.YtcchlkialgjamaaFrameLaws
namespace Go.Proofs.Ytcchlkialgjamaa
open Go.RowKit
set_option linter.unusedVariables false
set_option linter.unusedSimpArgs false
set_option linter.unnecessarySimpa false
set_option maxRecDepth 100000

theorem fields_lay : layL 7 9 3 [120, 121, 122] = [72, 71, 74, 69, 7, 0, 0, 0, 9, 0, 0, 0, 0, 0, 0, 0, 3, 0, 120, 121, 122, 151, 145, 208, 45] := by decide +kernel
theorem fields_r : rightN 7 9 3 = true := by decide +kernel
theorem fields_0 : tkA (List.set [72, 71, 74, 69, 7, 0, 0, 0, 9, 0, 0, 0, 0, 0, 0, 0, 3, 0, 120, 121, 122, 151, 145, 208, 45] 0 88) 0 = (0, 0, [], 0, 2) := by decide +kernel
theorem fields_1 : tkA (List.take 21 [72, 71, 74, 69, 7, 0, 0, 0, 9, 0, 0, 0, 0, 0, 0, 0, 3, 0, 120, 121, 122, 151, 145, 208, 45]) 0 = (0, 0, [], 0, 2) := by decide +kernel
theorem fields_2 : tkA (List.set [72, 71, 74, 69, 7, 0, 0, 0, 9, 0, 0, 0, 0, 0, 0, 0, 3, 0, 120, 121, 122, 151, 145, 208, 45] 4 0) 0 = (0, 0, [], 0, 2) := by decide +kernel
theorem fields_3 : tkA (List.set [72, 71, 74, 69, 7, 0, 0, 0, 9, 0, 0, 0, 0, 0, 0, 0, 3, 0, 120, 121, 122, 151, 145, 208, 45] 8 0) 0 = (0, 0, [], 0, 2) := by decide +kernel
theorem fields_4 : tkA (List.set [72, 71, 74, 69, 7, 0, 0, 0, 9, 0, 0, 0, 0, 0, 0, 0, 3, 0, 120, 121, 122, 151, 145, 208, 45] 16 91) 0 = (0, 0, [], 0, 2) := by decide +kernel
theorem fields_5 : tkA (List.set [72, 71, 74, 69, 7, 0, 0, 0, 9, 0, 0, 0, 0, 0, 0, 0, 3, 0, 120, 121, 122, 151, 145, 208, 45] 16 4) 0 = (0, 0, [], 0, 2) := by decide +kernel
theorem fields_6 : tkA (List.set [72, 71, 74, 69, 7, 0, 0, 0, 9, 0, 0, 0, 0, 0, 0, 0, 3, 0, 120, 121, 122, 151, 145, 208, 45] 18 88) 0 = (0, 0, [], 0, 13) := by decide +kernel
theorem fields_7 : tkA (List.set [72, 71, 74, 69, 7, 0, 0, 0, 9, 0, 0, 0, 0, 0, 0, 0, 3, 0, 120, 121, 122, 151, 145, 208, 45] 16 2) 0 = (0, 0, [], 0, 13) := by decide +kernel
theorem fields_8 : tkA (List.set [72, 71, 74, 69, 7, 0, 0, 0, 9, 0, 0, 0, 0, 0, 0, 0, 3, 0, 120, 121, 122, 151, 145, 208, 45] 24 44) 0 = (0, 0, [], 0, 13) := by decide +kernel

set_option maxHeartbeats 2000000 in
theorem law_FrameFields (x : Int) (w : World) (hx0 : -9223372036854775808 ≤ x) (hx1 : x ≤ 9223372036854775807) :
    Calls Try.prog 5 #[.int .i64 x] w fun e w' => e = .returned (.bool true) ∧ Ext w w' := by
  clear hx0 hx1
  have R1 := Lib.hid fields_r
  obtain ⟨F, hF⟩ : ∃ F, layL 7 9 3 [120, 121, 122] = F := ⟨_, rfl⟩
  have hFL : F = [72, 71, 74, 69, 7, 0, 0, 0, 9, 0, 0, 0, 0, 0, 0, 0, 3, 0, 120, 121, 122, 151, 145, 208, 45] := by rw [← hF]; exact fields_lay
  have hLn : F.length = 25 := by rw [hFL]; rfl
  have HF := Lib.hid hF
  have HLN := Lib.hid hLn
  clear hF hLn
  by_cases q0 : (bits BinOp.and IntKind.i64 x 255).tmod 9 = 0
  · skip
    have g0 : ((bits BinOp.and IntKind.i64 x 255).tmod 9 == 0) = true := by simpa using q0
    clear q0
    have HT : Hid (tkA (F.set 0 88) 0 = (0, 0, [], 0, 2)) := by unfold Hid; rw [hFL]; exact fields_0
    clear hFL
    go_enter Try.func5, Try.ntmps5
    have kc := run_conv_bytes w #[.int .u8 120, .int .u8 121, .int .u8 122] 3 3
    go_wp2_with fail
    refine (ref_Lay ((sl_new w _ _ _ [120, 121, 122] rfl (by simp [maxLen])).ext (Ext.alloc _ _)) R1 HF).mono ?_
    rintro e w1 ⟨A1, n1, c1, rfl, hb1, hx1⟩
    obtain rfl : n1 = 25 := by rw [← hb1.len]; exact HLN.out
    replace hx1 := ((Ext.alloc w _).trans (Ext.alloc _ _)).trans hx1
    have hb1 := hb1.low (B' := w.heap.size) (by simp; omega)
    obtain ⟨g, rfl, hgB, hgl, hcells⟩ := hb1.open_ (by omega)
    clear kc
    obtain ⟨hc, hf⟩ := hcells 0 (by omega)
    clear hcells
    have hb2 : Byt U8 (w1.setCell ⟨g, 0, none⟩ (.int .u8 88)) w.heap.size (some ⟨g, 0, none⟩) 25 c1 (F.set 0 88) := hb1.set_ (by omega) 88
    have hx2 : Ext w (w1.setCell ⟨g, 0, none⟩ (.int .u8 88)) := hx1.sets hgB _
    go_wp2_with fail
    refine (frame_Take hb2.sl (by omega) HT).mono ?_
    rintro e w3 ⟨A3, n3, c3, rfl, hb3, hx3⟩
    obtain rfl : n3 = 0 := by rw [← hb3.sl.len]; rfl
    go_wp2_with fail
    refine (law4_known _).mono ?_
    rintro e w4 ⟨rfl, hx4⟩
    go_wp2_with fail
    go_ret
    exact ⟨rfl, ((hx2.trans hx3).trans (Ext.alloc _ _)).trans hx4⟩
  by_cases q1 : (bits BinOp.and IntKind.i64 x 255).tmod 9 = 1
  · skip
    have g0 : ((bits BinOp.and IntKind.i64 x 255).tmod 9 == 0) = false := by simpa using q0
    have g1 : ((bits BinOp.and IntKind.i64 x 255).tmod 9 == 1) = true := by simpa using q1
    clear q0 q1
    have HT : Hid (tkA (F.take 21) 0 = (0, 0, [], 0, 2)) := by unfold Hid; rw [hFL]; exact fields_1
    clear hFL
    go_enter Try.func5, Try.ntmps5
    have kc := run_conv_bytes w #[.int .u8 120, .int .u8 121, .int .u8 122] 3 3
    go_wp2_with fail
    refine (ref_Lay ((sl_new w _ _ _ [120, 121, 122] rfl (by simp [maxLen])).ext (Ext.alloc _ _)) R1 HF).mono ?_
    rintro e w1 ⟨A1, n1, c1, rfl, hb1, hx1⟩
    obtain rfl : n1 = 25 := by rw [← hb1.len]; exact HLN.out
    replace hx1 := ((Ext.alloc w _).trans (Ext.alloc _ _)).trans hx1
    have hb1 := hb1.low (B' := w.heap.size) (by simp; omega)
    obtain ⟨g, rfl, hgB, hgl, hcells⟩ := hb1.open_ (by omega)
    clear kc
    obtain ⟨hcut, hs2⟩ := cut_upto hb1.sl 21 21 rfl (by omega)
    clear hcells
    go_wp2_with fail
    refine (frame_Take hs2 (by omega) HT).mono ?_
    rintro e w3 ⟨A3, n3, c3, rfl, hb3, hx3⟩
    obtain rfl : n3 = 0 := by rw [← hb3.sl.len]; rfl
    go_wp2_with fail
    refine (law4_known _).mono ?_
    rintro e w4 ⟨rfl, hx4⟩
    go_wp2_with fail
    go_ret
    exact ⟨rfl, ((hx1.trans hx3).trans (Ext.alloc _ _)).trans hx4⟩
  by_cases q2 : (bits BinOp.and IntKind.i64 x 255).tmod 9 = 2
  · skip
    have g0 : ((bits BinOp.and IntKind.i64 x 255).tmod 9 == 0) = false := by simpa using q0
    have g1 : ((bits BinOp.and IntKind.i64 x 255).tmod 9 == 1) = false := by simpa using q1
    have g2 : ((bits BinOp.and IntKind.i64 x 255).tmod 9 == 2) = true := by simpa using q2
    clear q0 q1 q2
    have HT : Hid (tkA (F.set 4 0) 0 = (0, 0, [], 0, 2)) := by unfold Hid; rw [hFL]; exact fields_2
    clear hFL
    go_enter Try.func5, Try.ntmps5
    have kc := run_conv_bytes w #[.int .u8 120, .int .u8 121, .int .u8 122] 3 3
    go_wp2_with fail
    refine (ref_Lay ((sl_new w _ _ _ [120, 121, 122] rfl (by simp [maxLen])).ext (Ext.alloc _ _)) R1 HF).mono ?_
    rintro e w1 ⟨A1, n1, c1, rfl, hb1, hx1⟩
    obtain rfl : n1 = 25 := by rw [← hb1.len]; exact HLN.out
    replace hx1 := ((Ext.alloc w _).trans (Ext.alloc _ _)).trans hx1
    have hb1 := hb1.low (B' := w.heap.size) (by simp; omega)
    obtain ⟨g, rfl, hgB, hgl, hcells⟩ := hb1.open_ (by omega)
    clear kc
    obtain ⟨hc, hf⟩ := hcells 4 (by omega)
    clear hcells
    have hb2 : Byt U8 (w1.setCell ⟨g, 4, none⟩ (.int .u8 0)) w.heap.size (some ⟨g, 0, none⟩) 25 c1 (F.set 4 0) := hb1.set_ (by omega) 0
    have hx2 : Ext w (w1.setCell ⟨g, 4, none⟩ (.int .u8 0)) := hx1.sets hgB _
    go_wp2_with fail
    refine (frame_Take hb2.sl (by omega) HT).mono ?_
    rintro e w3 ⟨A3, n3, c3, rfl, hb3, hx3⟩
    obtain rfl : n3 = 0 := by rw [← hb3.sl.len]; rfl
    go_wp2_with fail
    refine (law4_known _).mono ?_
    rintro e w4 ⟨rfl, hx4⟩
    go_wp2_with fail
    go_ret
    exact ⟨rfl, ((hx2.trans hx3).trans (Ext.alloc _ _)).trans hx4⟩
  by_cases q3 : (bits BinOp.and IntKind.i64 x 255).tmod 9 = 3
  · skip
    have g0 : ((bits BinOp.and IntKind.i64 x 255).tmod 9 == 0) = false := by simpa using q0
    have g1 : ((bits BinOp.and IntKind.i64 x 255).tmod 9 == 1) = false := by simpa using q1
    have g2 : ((bits BinOp.and IntKind.i64 x 255).tmod 9 == 2) = false := by simpa using q2
    have g3 : ((bits BinOp.and IntKind.i64 x 255).tmod 9 == 3) = true := by simpa using q3
    clear q0 q1 q2 q3
    have HT : Hid (tkA (F.set 8 0) 0 = (0, 0, [], 0, 2)) := by unfold Hid; rw [hFL]; exact fields_3
    clear hFL
    go_enter Try.func5, Try.ntmps5
    have kc := run_conv_bytes w #[.int .u8 120, .int .u8 121, .int .u8 122] 3 3
    go_wp2_with fail
    refine (ref_Lay ((sl_new w _ _ _ [120, 121, 122] rfl (by simp [maxLen])).ext (Ext.alloc _ _)) R1 HF).mono ?_
    rintro e w1 ⟨A1, n1, c1, rfl, hb1, hx1⟩
    obtain rfl : n1 = 25 := by rw [← hb1.len]; exact HLN.out
    replace hx1 := ((Ext.alloc w _).trans (Ext.alloc _ _)).trans hx1
    have hb1 := hb1.low (B' := w.heap.size) (by simp; omega)
    obtain ⟨g, rfl, hgB, hgl, hcells⟩ := hb1.open_ (by omega)
    clear kc
    obtain ⟨hc, hf⟩ := hcells 8 (by omega)
    clear hcells
    have hb2 : Byt U8 (w1.setCell ⟨g, 8, none⟩ (.int .u8 0)) w.heap.size (some ⟨g, 0, none⟩) 25 c1 (F.set 8 0) := hb1.set_ (by omega) 0
    have hx2 : Ext w (w1.setCell ⟨g, 8, none⟩ (.int .u8 0)) := hx1.sets hgB _
    go_wp2_with fail
    refine (frame_Take hb2.sl (by omega) HT).mono ?_
    rintro e w3 ⟨A3, n3, c3, rfl, hb3, hx3⟩
    obtain rfl : n3 = 0 := by rw [← hb3.sl.len]; rfl
    go_wp2_with fail
    refine (law4_known _).mono ?_
    rintro e w4 ⟨rfl, hx4⟩
    go_wp2_with fail
    go_ret
    exact ⟨rfl, ((hx2.trans hx3).trans (Ext.alloc _ _)).trans hx4⟩
  by_cases q4 : (bits BinOp.and IntKind.i64 x 255).tmod 9 = 4
  · skip
    have g0 : ((bits BinOp.and IntKind.i64 x 255).tmod 9 == 0) = false := by simpa using q0
    have g1 : ((bits BinOp.and IntKind.i64 x 255).tmod 9 == 1) = false := by simpa using q1
    have g2 : ((bits BinOp.and IntKind.i64 x 255).tmod 9 == 2) = false := by simpa using q2
    have g3 : ((bits BinOp.and IntKind.i64 x 255).tmod 9 == 3) = false := by simpa using q3
    have g4 : ((bits BinOp.and IntKind.i64 x 255).tmod 9 == 4) = true := by simpa using q4
    clear q0 q1 q2 q3 q4
    have HT : Hid (tkA (F.set 16 91) 0 = (0, 0, [], 0, 2)) := by unfold Hid; rw [hFL]; exact fields_4
    clear hFL
    go_enter Try.func5, Try.ntmps5
    have kc := run_conv_bytes w #[.int .u8 120, .int .u8 121, .int .u8 122] 3 3
    go_wp2_with fail
    refine (ref_Lay ((sl_new w _ _ _ [120, 121, 122] rfl (by simp [maxLen])).ext (Ext.alloc _ _)) R1 HF).mono ?_
    rintro e w1 ⟨A1, n1, c1, rfl, hb1, hx1⟩
    obtain rfl : n1 = 25 := by rw [← hb1.len]; exact HLN.out
    replace hx1 := ((Ext.alloc w _).trans (Ext.alloc _ _)).trans hx1
    have hb1 := hb1.low (B' := w.heap.size) (by simp; omega)
    obtain ⟨g, rfl, hgB, hgl, hcells⟩ := hb1.open_ (by omega)
    clear kc
    obtain ⟨hc, hf⟩ := hcells 16 (by omega)
    clear hcells
    have hb2 : Byt U8 (w1.setCell ⟨g, 16, none⟩ (.int .u8 91)) w.heap.size (some ⟨g, 0, none⟩) 25 c1 (F.set 16 91) := hb1.set_ (by omega) 91
    have hx2 : Ext w (w1.setCell ⟨g, 16, none⟩ (.int .u8 91)) := hx1.sets hgB _
    go_wp2_with fail
    refine (frame_Take hb2.sl (by omega) HT).mono ?_
    rintro e w3 ⟨A3, n3, c3, rfl, hb3, hx3⟩
    obtain rfl : n3 = 0 := by rw [← hb3.sl.len]; rfl
    go_wp2_with fail
    refine (law4_known _).mono ?_
    rintro e w4 ⟨rfl, hx4⟩
    go_wp2_with fail
    go_ret
    exact ⟨rfl, ((hx2.trans hx3).trans (Ext.alloc _ _)).trans hx4⟩
  by_cases q5 : (bits BinOp.and IntKind.i64 x 255).tmod 9 = 5
  · skip
    have g0 : ((bits BinOp.and IntKind.i64 x 255).tmod 9 == 0) = false := by simpa using q0
    have g1 : ((bits BinOp.and IntKind.i64 x 255).tmod 9 == 1) = false := by simpa using q1
    have g2 : ((bits BinOp.and IntKind.i64 x 255).tmod 9 == 2) = false := by simpa using q2
    have g3 : ((bits BinOp.and IntKind.i64 x 255).tmod 9 == 3) = false := by simpa using q3
    have g4 : ((bits BinOp.and IntKind.i64 x 255).tmod 9 == 4) = false := by simpa using q4
    have g5 : ((bits BinOp.and IntKind.i64 x 255).tmod 9 == 5) = true := by simpa using q5
    clear q0 q1 q2 q3 q4 q5
    have HT : Hid (tkA (F.set 16 4) 0 = (0, 0, [], 0, 2)) := by unfold Hid; rw [hFL]; exact fields_5
    clear hFL
    go_enter Try.func5, Try.ntmps5
    have kc := run_conv_bytes w #[.int .u8 120, .int .u8 121, .int .u8 122] 3 3
    go_wp2_with fail
    refine (ref_Lay ((sl_new w _ _ _ [120, 121, 122] rfl (by simp [maxLen])).ext (Ext.alloc _ _)) R1 HF).mono ?_
    rintro e w1 ⟨A1, n1, c1, rfl, hb1, hx1⟩
    obtain rfl : n1 = 25 := by rw [← hb1.len]; exact HLN.out
    replace hx1 := ((Ext.alloc w _).trans (Ext.alloc _ _)).trans hx1
    have hb1 := hb1.low (B' := w.heap.size) (by simp; omega)
    obtain ⟨g, rfl, hgB, hgl, hcells⟩ := hb1.open_ (by omega)
    clear kc
    obtain ⟨hc, hf⟩ := hcells 16 (by omega)
    clear hcells
    have hb2 : Byt U8 (w1.setCell ⟨g, 16, none⟩ (.int .u8 4)) w.heap.size (some ⟨g, 0, none⟩) 25 c1 (F.set 16 4) := hb1.set_ (by omega) 4
    have hx2 : Ext w (w1.setCell ⟨g, 16, none⟩ (.int .u8 4)) := hx1.sets hgB _
    go_wp2_with fail
    refine (frame_Take hb2.sl (by omega) HT).mono ?_
    rintro e w3 ⟨A3, n3, c3, rfl, hb3, hx3⟩
    obtain rfl : n3 = 0 := by rw [← hb3.sl.len]; rfl
    go_wp2_with fail
    refine (law4_known _).mono ?_
    rintro e w4 ⟨rfl, hx4⟩
    go_wp2_with fail
    go_ret
    exact ⟨rfl, ((hx2.trans hx3).trans (Ext.alloc _ _)).trans hx4⟩
  by_cases q6 : (bits BinOp.and IntKind.i64 x 255).tmod 9 = 6
  · skip
    have g0 : ((bits BinOp.and IntKind.i64 x 255).tmod 9 == 0) = false := by simpa using q0
    have g1 : ((bits BinOp.and IntKind.i64 x 255).tmod 9 == 1) = false := by simpa using q1
    have g2 : ((bits BinOp.and IntKind.i64 x 255).tmod 9 == 2) = false := by simpa using q2
    have g3 : ((bits BinOp.and IntKind.i64 x 255).tmod 9 == 3) = false := by simpa using q3
    have g4 : ((bits BinOp.and IntKind.i64 x 255).tmod 9 == 4) = false := by simpa using q4
    have g5 : ((bits BinOp.and IntKind.i64 x 255).tmod 9 == 5) = false := by simpa using q5
    have g6 : ((bits BinOp.and IntKind.i64 x 255).tmod 9 == 6) = true := by simpa using q6
    clear q0 q1 q2 q3 q4 q5 q6
    have HT : Hid (tkA (F.set 18 88) 0 = (0, 0, [], 0, 13)) := by unfold Hid; rw [hFL]; exact fields_6
    clear hFL
    go_enter Try.func5, Try.ntmps5
    have kc := run_conv_bytes w #[.int .u8 120, .int .u8 121, .int .u8 122] 3 3
    go_wp2_with fail
    refine (ref_Lay ((sl_new w _ _ _ [120, 121, 122] rfl (by simp [maxLen])).ext (Ext.alloc _ _)) R1 HF).mono ?_
    rintro e w1 ⟨A1, n1, c1, rfl, hb1, hx1⟩
    obtain rfl : n1 = 25 := by rw [← hb1.len]; exact HLN.out
    replace hx1 := ((Ext.alloc w _).trans (Ext.alloc _ _)).trans hx1
    have hb1 := hb1.low (B' := w.heap.size) (by simp; omega)
    obtain ⟨g, rfl, hgB, hgl, hcells⟩ := hb1.open_ (by omega)
    clear kc
    obtain ⟨hc, hf⟩ := hcells 18 (by omega)
    clear hcells
    have hb2 : Byt U8 (w1.setCell ⟨g, 18, none⟩ (.int .u8 88)) w.heap.size (some ⟨g, 0, none⟩) 25 c1 (F.set 18 88) := hb1.set_ (by omega) 88
    have hx2 : Ext w (w1.setCell ⟨g, 18, none⟩ (.int .u8 88)) := hx1.sets hgB _
    go_wp2_with fail
    refine (frame_Take hb2.sl (by omega) HT).mono ?_
    rintro e w3 ⟨A3, n3, c3, rfl, hb3, hx3⟩
    obtain rfl : n3 = 0 := by rw [← hb3.sl.len]; rfl
    go_wp2_with fail
    refine (law4_known _).mono ?_
    rintro e w4 ⟨rfl, hx4⟩
    go_wp2_with fail
    go_ret
    exact ⟨rfl, ((hx2.trans hx3).trans (Ext.alloc _ _)).trans hx4⟩
  by_cases q7 : (bits BinOp.and IntKind.i64 x 255).tmod 9 = 7
  · skip
    have g0 : ((bits BinOp.and IntKind.i64 x 255).tmod 9 == 0) = false := by simpa using q0
    have g1 : ((bits BinOp.and IntKind.i64 x 255).tmod 9 == 1) = false := by simpa using q1
    have g2 : ((bits BinOp.and IntKind.i64 x 255).tmod 9 == 2) = false := by simpa using q2
    have g3 : ((bits BinOp.and IntKind.i64 x 255).tmod 9 == 3) = false := by simpa using q3
    have g4 : ((bits BinOp.and IntKind.i64 x 255).tmod 9 == 4) = false := by simpa using q4
    have g5 : ((bits BinOp.and IntKind.i64 x 255).tmod 9 == 5) = false := by simpa using q5
    have g6 : ((bits BinOp.and IntKind.i64 x 255).tmod 9 == 6) = false := by simpa using q6
    have g7 : ((bits BinOp.and IntKind.i64 x 255).tmod 9 == 7) = true := by simpa using q7
    clear q0 q1 q2 q3 q4 q5 q6 q7
    have HT : Hid (tkA (F.set 16 2) 0 = (0, 0, [], 0, 13)) := by unfold Hid; rw [hFL]; exact fields_7
    clear hFL
    go_enter Try.func5, Try.ntmps5
    have kc := run_conv_bytes w #[.int .u8 120, .int .u8 121, .int .u8 122] 3 3
    go_wp2_with fail
    refine (ref_Lay ((sl_new w _ _ _ [120, 121, 122] rfl (by simp [maxLen])).ext (Ext.alloc _ _)) R1 HF).mono ?_
    rintro e w1 ⟨A1, n1, c1, rfl, hb1, hx1⟩
    obtain rfl : n1 = 25 := by rw [← hb1.len]; exact HLN.out
    replace hx1 := ((Ext.alloc w _).trans (Ext.alloc _ _)).trans hx1
    have hb1 := hb1.low (B' := w.heap.size) (by simp; omega)
    obtain ⟨g, rfl, hgB, hgl, hcells⟩ := hb1.open_ (by omega)
    clear kc
    obtain ⟨hc, hf⟩ := hcells 16 (by omega)
    clear hcells
    have hb2 : Byt U8 (w1.setCell ⟨g, 16, none⟩ (.int .u8 2)) w.heap.size (some ⟨g, 0, none⟩) 25 c1 (F.set 16 2) := hb1.set_ (by omega) 2
    have hx2 : Ext w (w1.setCell ⟨g, 16, none⟩ (.int .u8 2)) := hx1.sets hgB _
    go_wp2_with fail
    refine (frame_Take hb2.sl (by omega) HT).mono ?_
    rintro e w3 ⟨A3, n3, c3, rfl, hb3, hx3⟩
    obtain rfl : n3 = 0 := by rw [← hb3.sl.len]; rfl
    go_wp2_with fail
    refine (law4_known _).mono ?_
    rintro e w4 ⟨rfl, hx4⟩
    go_wp2_with fail
    go_ret
    exact ⟨rfl, ((hx2.trans hx3).trans (Ext.alloc _ _)).trans hx4⟩
  have g0 : ((bits BinOp.and IntKind.i64 x 255).tmod 9 == 0) = false := by simpa using q0
  have g1 : ((bits BinOp.and IntKind.i64 x 255).tmod 9 == 1) = false := by simpa using q1
  have g2 : ((bits BinOp.and IntKind.i64 x 255).tmod 9 == 2) = false := by simpa using q2
  have g3 : ((bits BinOp.and IntKind.i64 x 255).tmod 9 == 3) = false := by simpa using q3
  have g4 : ((bits BinOp.and IntKind.i64 x 255).tmod 9 == 4) = false := by simpa using q4
  have g5 : ((bits BinOp.and IntKind.i64 x 255).tmod 9 == 5) = false := by simpa using q5
  have g6 : ((bits BinOp.and IntKind.i64 x 255).tmod 9 == 6) = false := by simpa using q6
  have g7 : ((bits BinOp.and IntKind.i64 x 255).tmod 9 == 7) = false := by simpa using q7
  clear q0 q1 q2 q3 q4 q5 q6 q7
  have h24 : F.getD 24 0 = 45 := by rw [hFL]; rfl
  have HT : Hid (tkA (F.set 24 44) 0 = (0, 0, [], 0, 13)) := by unfold Hid; rw [hFL]; exact fields_8
  clear hFL
  have H24 := Lib.hid h24
  clear h24
  go_enter Try.func5, Try.ntmps5
  have kc := run_conv_bytes w #[.int .u8 120, .int .u8 121, .int .u8 122] 3 3
  go_wp2_with fail
  refine (ref_Lay ((sl_new w _ _ _ [120, 121, 122] rfl (by simp [maxLen])).ext (Ext.alloc _ _)) R1 HF).mono ?_
  rintro e w1 ⟨A1, n1, c1, rfl, hb1, hx1⟩
  obtain rfl : n1 = 25 := by rw [← hb1.len]; exact HLN.out
  replace hx1 := ((Ext.alloc w _).trans (Ext.alloc _ _)).trans hx1
  have hb1 := hb1.low (B' := w.heap.size) (by simp; omega)
  obtain ⟨g, rfl, hgB, hgl, hcells⟩ := hb1.open_ (by omega)
  clear kc
  obtain ⟨hc, hf⟩ := hcells 24 (by omega)
  rw [H24.out] at hc
  replace hc : w1.cell? ⟨g, 24, none⟩ = some (.int .u8 45) := hc
  clear hcells
  have hb2 : Byt U8 (w1.setCell ⟨g, 24, none⟩ (.int .u8 44)) w.heap.size (some ⟨g, 0, none⟩) 25 c1 (F.set 24 44) := hb1.set_ (by omega) 44
  have hx2 : Ext w (w1.setCell ⟨g, 24, none⟩ (.int .u8 44)) := hx1.sets hgB _
  go_wp2_with fail
  refine (frame_Take hb2.sl (by omega) HT).mono ?_
  rintro e w3 ⟨A3, n3, c3, rfl, hb3, hx3⟩
  obtain rfl : n3 = 0 := by rw [← hb3.sl.len]; rfl
  go_wp2_with fail
  refine (law4_known _).mono ?_
  rintro e w4 ⟨rfl, hx4⟩
  go_wp2_with fail
  go_ret
  exact ⟨rfl, ((hx2.trans hx3).trans (Ext.alloc _ _)).trans hx4⟩
end Go.Proofs.Ytcchlkialgjamaa
