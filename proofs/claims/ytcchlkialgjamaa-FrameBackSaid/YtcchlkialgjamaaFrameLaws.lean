/-
  Chapter 4: the statements' own 'known'.
-/
import Derived.Test.YtcchlkialgjamaaFrameTake
namespace Go.Proofs.Ytcchlkialgjamaa
open Go.RowKit
set_option linter.unusedVariables false
set_option linter.unusedSimpArgs false
set_option linter.unnecessarySimpa false
set_option maxRecDepth 100000

theorem known4_r : rightN 1 2 1 = true := by decide +kernel
theorem known4_take : tkA (layL 1 2 1 [97]) 0 = (1, 2, [97], 23, 0) := by decide +kernel
theorem known4_none : tkA [] 0 = (0, 0, [], 0, 4) := by decide +kernel
theorem known4_len : (layL 1 2 1 [97]).length = 23 := by decide +kernel

set_option maxHeartbeats 1000000 in
theorem law4_known (w : World) : Calls Try.prog 14 #[] w fun e w' => e = .returned (.bool true) ∧ Ext w w' := by
  have R1 := Lib.hid known4_r
  obtain ⟨F, hF⟩ : ∃ F, layL 1 2 1 [97] = F := ⟨_, rfl⟩
  have hT := known4_take
  have hLn := known4_len
  rw [hF] at hT hLn
  have HF := Lib.hid hF
  have HT := Lib.hid hT
  have HN := Lib.hid known4_none
  have HSZ : Hid (sizeI 1 = 23) := by unfold Hid; decide +kernel
  have HLN := Lib.hid hLn
  clear hF hT hLn
  go_enter Try.func14, Try.ntmps14
  have kc := run_conv_bytes w #[.int .u8 97] 1 1
  go_wp2_with fail
  refine (frame_Lay (sl_new w _ _ _ [97] rfl (by simp [maxLen])) (by omega) (by omega) R1 HF).mono ?_
  rintro e w1 ⟨A1, n1, c1, rfl, hb1, hx1⟩
  obtain rfl : n1 = 23 := by rw [← hb1.len]; exact HLN.out
  go_wp2_with fail
  refine (frame_Take hb1.sl (by omega) HT).mono ?_
  rintro e w2 ⟨A2, n2, c2, rfl, hb2, hx2⟩
  go_wp2_with fail
  refine (frame_Take (Sl.nil _) (by omega) HN).mono ?_
  rintro e w3 ⟨A3, n3, c3, rfl, hb3, hx3⟩
  have hx23 := (Ext.alloc w2 (.cells #[.int .i64 1, .int .i64 2, .slice A2 n2 c2] 24)).trans hx3
  have d0 : w3.cell? ⟨w2.heap.size, 0, none⟩ = some (.int .i64 1) := hx3.cell (cell_newF w2 _ _ 0)
  have d1 : w3.cell? ⟨w2.heap.size, 1, none⟩ = some (.int .i64 2) := hx3.cell (cell_newF w2 _ _ 1)
  have d2 : w3.cell? ⟨w2.heap.size, 2, none⟩ = some (.slice A2 n2 c2) := hx3.cell (cell_newF w2 _ _ 2)
  have hlt := World.block_lt_of_cell? _ _ d0
  have t1 := run_text_u8 ((hb2.ext hx23).ext (Ext.alloc w3 (.cells #[.int .i64 0, .int .i64 0, .slice A3 n3 c3] 24))).sl
  go_wp2_with fail
  refine (frame_Size 1 _).mono ?_
  rintro e w4 ⟨rfl, rfl⟩
  rw [HSZ.out]
  go_wp2_with fail
  go_ret
  exact ⟨rfl, ((((Ext.alloc w _).trans hx1).trans hx2).trans hx23).trans (Ext.alloc _ _)⟩
end Go.Proofs.Ytcchlkialgjamaa
