/-
  Chapter 14's known sentence.
-/
import Derived.Test.YtcklkjklepmabaaZModelRight
import Derived.Test.YtcklkjklepmabaaZRead
import Derived.Test.YtcklkjklepmabaaZStNew
import Derived.Test.YtcklkjklepmabaaZStSame2
import Derived.Test.YtcklkjklepmabaaZDiffKnown
namespace Go.Proofs.Ytcklkjklepmabaa
open Go.RowKit
set_option linter.unusedVariables false
set_option linter.unusedSimpArgs false
set_option linter.unnecessarySimpa false
set_option maxRecDepth 100000

theorem k14_new : newS 2 = ⟨[0, 0], []⟩ := by decide +kernel
theorem k14_check : checkN ⟨[0, 0], []⟩ 1 1 0 1 ⟨#[]⟩ = 0 := by decide +kernel
theorem k14_apply : appliedS 0 ⟨[0, 0], []⟩ 1 1 0 [97] ⟨#[]⟩ = ⟨[0, 97], []⟩ := by decide +kernel
theorem k14_read : readN ⟨[0, 0], []⟩ ⟨#[120]⟩ 0 0 = 4 := by decide +kernel
theorem k14_readL : readL ⟨[0, 0], []⟩ ⟨#[120]⟩ 0 0 = [] := by decide +kernel
theorem k14_check2 : checkN ⟨[0, 0], []⟩ 1 1 0 2 ⟨#[]⟩ = 3 := by decide +kernel
set_option maxHeartbeats 2000000 in
theorem law14_known (w : World) : Calls Try.prog 47 #[] w fun e w' => e = .returned (.bool true) ∧ Ext w w' := by
  go_enter Try.func47, Try.ntmps47
  go_wp2_with fail
  refine (model_New 2 w).mono ?_
  rintro e w1 ⟨A, n, c, rfl, hst, g1⟩
  rw [k14_new] at hst
  obtain rfl : 2 = n := hst.1.len
  obtain ⟨w2, hw2⟩ : ∃ w2, w1.alloc (.cells #[.slice A 2 c, .slice none 0 0] TSt) = w2 := ⟨_, rfl⟩
  have g2 : Ext w1 w2 := by rw [← hw2]; exact Ext.alloc _ _
  have c0 : w2.cell? ⟨w1.heap.size, 0, none⟩ = some (.slice A 2 c) := by rw [← hw2]; exact cell_new w1 _ _ 0
  have c1 : w2.cell? ⟨w1.heap.size, 1, none⟩ = some (.slice none 0 0) := by rw [← hw2]; exact cell_new w1 _ _ 1
  replace hst := hst.ext g2
  have hcv := @run_conv_bytes
  have l5 := sl_new w2 #[.int .u8 97] U8 (1, 2) [97] rfl (by simp [maxLen])
  have g3 := Ext.alloc w2 (.cells #[.int .u8 97] U8 (1, 2))
  subst hw2
  have hcv1 := run_conv_bytes (w1.alloc (.cells #[.slice A 2 c, .slice none 0 0] TSt)) #[.int .u8 97] 1 1
  have hwz : (w1.alloc (.cells #[.slice A 2 c, .slice none 0 0] TSt)).heap.size = w1.heap.size + 1 := by simp
  rw [hwz] at hcv1 l5
  go_wp2_with fail
  refine (model_Apply (hst.ext g3) (by omega) (by omega) (fun x hx => by cases hx) l5 (by decide) (Lib.hid k14_check) (Lib.hid k14_apply)).mono ?_
  rintro e w4 ⟨A4, n4, c4, A5, n5, c5, rfl, h4, g4⟩
  obtain rfl : 2 = n4 := h4.data.sl.len
  obtain rfl : 0 = n5 := h4.snaps.len
  obtain ⟨w5, hw5⟩ : ∃ w5, w4.alloc (.cells #[.slice A4 2 c4, .slice A5 0 c5] TSt) = w5 := ⟨_, rfl⟩
  have g5 : Ext w4 w5 := by rw [← hw5]; exact Ext.alloc _ _
  have d0 : w5.cell? ⟨w4.heap.size, 0, none⟩ = some (.slice A4 2 c4) := by rw [← hw5]; exact cell_new w4 _ _ 0
  have h5 := h4.ext g5
  have g25 := (g3.trans g4).trans g5
  replace c0 := g25.cell c0
  replace c1 := g25.cell c1
  replace hst := hst.ext g25
  clear l5
  go_wp2_with fail
  refine (model_Read hst (by omega) (fun x hx => by cases hx) (Lib.hid k14_read) (Lib.hid k14_readL)).mono ?_
  rintro e w6 ⟨A6, n6, c6, rfl, h6, g6⟩
  replace c0 := g6.cell c0
  replace c1 := g6.cell c1
  replace d0 := g6.cell d0
  replace hst := hst.ext g6
  have h5 := h5.ext g6
  have ht := run_text_u8 hst.1
  have ht2 := run_text_u8 h5.data.sl
  have l7 := sl_new w6 #[.int .u8 97, .int .u8 98] U8 (2, 3) [97, 98] rfl (by simp [maxLen])
  have g7 := Ext.alloc w6 (.cells #[.int .u8 97, .int .u8 98] U8 (2, 3))
  go_wp2_with fail
  refine (model_Check (hst.ext g7) l7 (by decide) (Lib.hid k14_check2)).mono ?_
  rintro e w8 ⟨rfl, g8⟩
  go_wp2_with fail
  go_ret
  exact ⟨rfl, (((g1.trans g2).trans g25).trans g6).trans (g7.trans g8)⟩
end Go.Proofs.Ytcklkjklepmabaa
