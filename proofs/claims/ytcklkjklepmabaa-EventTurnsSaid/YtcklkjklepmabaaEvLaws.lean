/-
  Chapter 5: the statements' own 'known'.
-/
import Derived.Test.YtcklkjklepmabaaEvGetRef
namespace Go.Proofs.Ytcklkjklepmabaa
open Go.RowKit
set_option linter.unusedVariables false
set_option maxRecDepth 100000

theorem right_flush : rightE 8 0 0 0 ⟨#[]⟩ = true := by decide +kernel
theorem put_flush : putE 8 0 0 [] ⟨#[]⟩ = [8] := by decide +kernel
theorem evOk_flush : evOk [8] = true := getOk_flush where
  getOk_flush : evOk [8] = true := by decide +kernel
theorem gotE_flush : gotE [8] = (8, 0, 0, [], ⟨#[]⟩) := by
  rw [gotE_yes evOk_flush]
  rfl
theorem evOk_none : evOk [] = false := rfl
theorem gotE_none : gotE [] = (0, 0, 0, [], ⟨#[]⟩) := gotE_no evOk_none
theorem nameB_a1 : nameB ⟨#[97, 45, 49]⟩ = true := by decide +kernel
theorem nameB_A : nameB ⟨#[65]⟩ = false := by decide +kernel
theorem event_Name' {s : ByteArray} {w : World} (hs : s.size ≤ maxLen) {r : Bool} (hr : Hid (nameB s = r)) :
    Calls Try.prog 45 #[.string s] w fun e w' => e = .returned (.bool r) ∧ w = w' := by
  have := event_Name s w hs
  rwa [hr.out] at this

set_option maxHeartbeats 400000 in
theorem law5_known (w : World) : Calls Try.prog 33 #[] w fun e w' => e = .returned (.bool true) ∧ Ext w w' := by
  have R1 := Lib.hid right_flush
  have L1 : Hid ((if true then putE 8 0 0 [] ⟨#[]⟩ else []) = [8]) := put_flush
  have G1 := Lib.hid evOk_flush
  have G2 := Lib.hid gotE_flush
  have G3 := Lib.hid evOk_none
  have G4 := Lib.hid gotE_none
  have N1 := Lib.hid nameB_a1
  have N2 := Lib.hid nameB_A
  go_enter Try.func33, Try.ntmps33
  go_wp2_with fail
  refine (event_Put 8 0 0 none 0 0 [] ⟨#[]⟩ _ (Sl.nil _) (Nat.zero_le _) R1 L1).mono ?_
  rintro e w1 ⟨A1, n1, c1, rfl, hb1, hx1⟩
  go_wp2_with fail
  have hb2 : Byt U8 (w1.alloc (.cells #[.int .u8 8] U8)) w.heap.size (some ⟨w1.heap.size, 0, none⟩) 1 1 [8] := byt_made w1 _ _ _ [8] rfl (by simp [maxLen]) hx1.size
  refine (event_Get hb2.sl (by omega) G1 G2).mono ?_
  rintro e w2 ⟨A2, n2, c2, rfl, hb3, hx2⟩
  go_wp2_with fail
  refine (event_Get (Sl.nil _) (by omega) G3 G4).mono ?_
  rintro e w3 ⟨A3, n3, c3, rfl, hb4, hx3⟩
  have hx12 : Ext w1 w3 := ((Ext.alloc w1 _).trans hx2).trans ((Ext.alloc w2 _).trans hx3)
  have d0 : w3.cell? ⟨w2.heap.size, 0, none⟩ = some (.int .i64 8) := hx3.cell (cell_new w2 _ _ 0)
  have hlt : w2.heap.size < w3.heap.size := World.block_lt_of_cell? _ _ d0
  have t1 := run_text_u8 ((hb1.ext hx12).ext (Ext.alloc w3 (.cells #[.int .i64 0, .int .i64 0, .int .i64 0, .slice A3 n3 c3, .string ⟨#[]⟩] 28))).sl
  go_wp2_with fail
  refine (event_Name' (by simp [maxLen, ByteArray.size]) N1).mono ?_
  rintro e w4 ⟨rfl, rfl⟩
  go_wp2_with fail
  refine (event_Name' (by simp [maxLen, ByteArray.size]) N2).mono ?_
  rintro e w4 ⟨rfl, rfl⟩
  go_wp2_with fail
  go_ret
  exact ⟨rfl, (hx1.trans hx12).trans (Ext.alloc _ _)⟩
end Go.Proofs.Ytcklkjklepmabaa
