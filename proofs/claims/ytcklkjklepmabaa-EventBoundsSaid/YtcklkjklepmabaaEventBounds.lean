/-
  The walk of one statement of chapter 5.
-/
import Derived.Test.YtcklkjklepmabaaEvLaws2
import Derived.Test.YtcklkjklepmabaaMake
import Derived.Test.YtcklkjklepmabaaMask
namespace Go.Proofs.Ytcklkjklepmabaa
open Go.RowKit
set_option linter.unusedVariables false
set_option linter.unusedSimpArgs false
set_option linter.unnecessarySimpa false
set_option maxRecDepth 100000

theorem bound_w (o : Int) (n : Nat) (hn : n ≤ 64) : rightE 1 o 0 n ⟨#[]⟩ = within o n := by
  unfold rightE; simp [hn, none_list]
theorem bound_z (o : Int) (n : Nat) : rightE 3 o n 0 ⟨#[]⟩ = within o n := by
  unfold rightE; simp [none_list]
theorem bound_d (o : Int) (n : Nat) : rightE 2 o n 0 ⟨#[]⟩ = within o n := by
  unfold rightE; simp [none_list]
theorem byt_zeros {w : World} {C : Array Value} {k : Nat} (hC : C.toList = (List.replicate k (0 : UInt8)).map bv) (hk : k ≤ 1000000) : Sl (w.alloc (.cells C U8)) (some ⟨w.heap.size, 0, none⟩) k k (List.replicate k 0) := by
  have := (byt_made w C U8 0 (List.replicate k 0) hC (by simp [maxLen]; omega) (Nat.zero_le _)).sl
  simpa using this
set_option maxHeartbeats 2000000 in
theorem law_EventBounds (x : Int) (ov : Bool) (w : World) (hx0 : -9223372036854775808 ≤ x) (hx1 : x ≤ 9223372036854775807) :
    Calls Try.prog 9 #[.int .i64 x, .bool ov] w fun e w' => e = .returned (.bool true) ∧ Ext w w' := by
  clear hx0 hx1
  obtain ⟨v, hv, hv63⟩ : ∃ v : Nat, bits BinOp.and IntKind.i64 x 63 = (v : Int) ∧ v ≤ 63 := ⟨(x % 64).toNat, by rw [and63]; omega, by omega⟩
  obtain ⟨C1, hC1, hmk1⟩ := make_bytes v v rfl (by omega)
  obtain ⟨C2, hC2, hmk2⟩ := make_bytes 64 64 rfl (by omega)
  obtain ⟨C3, hC3, hmk3⟩ := make_bytes 65 65 rfl (by omega)
  have F1 : Hid (rightE 1 0 0 64 ⟨#[]⟩ = true) := by unfold Hid; decide +kernel
  have F2 : Hid (rightE 1 0 0 65 ⟨#[]⟩ = false) := by unfold Hid; decide +kernel
  have F3 : Hid (rightE 4 0 512 0 ⟨#[]⟩ = true) := by unfold Hid; decide +kernel
  have F4 : Hid (rightE 4 0 513 0 ⟨#[]⟩ = false) := by unfold Hid; decide +kernel
  have hnil : (⟨#[]⟩ : ByteArray).size ≤ maxLen := Nat.zero_le _
  by_cases hv0 : 0 < v
  · skip
    cases ov
    · obtain ⟨res, hres⟩ : ∃ q, within (512 - (v : Int)) v = q := ⟨_, rfl⟩
      have hr2 : res = (decide (0 < v) && !false) := by rw [← hres]; unfold within; rw [Bool.eq_iff_iff]; simp <;> omega
      have hw : decide (0 < (v : Int)) = decide (0 < v) := by simp
      have R1 : Hid (rightE 1 (512 - (v : Int)) 0 v ⟨#[]⟩ = res) := by unfold Hid; rw [bound_w _ _ (by omega)]; exact hres
      have R2 : Hid (rightE 3 (512 - (v : Int)) v 0 ⟨#[]⟩ = res) := by unfold Hid; rw [bound_z]; exact hres
      have R3 : Hid (rightE 2 (512 - (v : Int)) v 0 ⟨#[]⟩ = res) := by unfold Hid; rw [bound_d]; exact hres
      have HRES := Lib.hid hr2
      clear hres hr2 hw
      go_enter Try.func9, Try.ntmps9
      go_wp2_with fail
      refine (event_Right 1 (512 - (v : Int)) 0 _ v v _ ⟨#[]⟩ _ (byt_zeros hC1 (by omega)) hnil).mono ?_
      rintro e w1 ⟨rfl, hx1⟩
      rw [R1.out]
      replace hx1 := (Ext.alloc w _).trans hx1
      go_wp2_with fail
      refine (event_Right 3 (512 - (v : Int)) v none 0 0 [] ⟨#[]⟩ _ (Sl.nil _) hnil).mono ?_
      rintro e w2 ⟨rfl, hx2⟩
      rw [R2.out]
      replace hx1 := hx1.trans hx2
      clear hx2
      go_wp2_with fail
      refine (event_Right 2 (512 - (v : Int)) v none 0 0 [] ⟨#[]⟩ _ (Sl.nil _) hnil).mono ?_
      rintro e w3 ⟨rfl, hx2⟩
      rw [R3.out]
      replace hx1 := hx1.trans hx2
      clear hx2
      go_wp2_with fail
      refine (event_Right 1 0 0 _ 64 64 _ ⟨#[]⟩ _ (byt_zeros hC2 (by omega)) hnil).mono ?_
      rintro e w4 ⟨rfl, hx2⟩
      rw [F1.out]
      replace hx1 := (hx1.trans (Ext.alloc _ _)).trans hx2
      clear hx2
      go_wp2_with fail
      refine (event_Right 1 0 0 _ 65 65 _ ⟨#[]⟩ _ (byt_zeros hC3 (by omega)) hnil).mono ?_
      rintro e w5 ⟨rfl, hx2⟩
      rw [F2.out]
      replace hx1 := (hx1.trans (Ext.alloc _ _)).trans hx2
      clear hx2
      go_wp2_with fail
      refine (event_Right 4 0 512 none 0 0 [] ⟨#[]⟩ _ (Sl.nil _) hnil).mono ?_
      rintro e w6 ⟨rfl, hx2⟩
      rw [F3.out]
      replace hx1 := hx1.trans hx2
      clear hx2
      go_wp2_with fail
      refine (event_Right 4 0 513 none 0 0 [] ⟨#[]⟩ _ (Sl.nil _) hnil).mono ?_
      rintro e w7 ⟨rfl, hx2⟩
      rw [F4.out]
      replace hx1 := hx1.trans hx2
      clear hx2
      obtain rfl : res = true := by rw [HRES.out]; simp <;> omega
      go_wp2_with fail
      refine (law5_known _).mono ?_
      rintro e w8 ⟨rfl, hx2⟩
      go_wp2_with fail
      go_ret
      exact ⟨rfl, hx1.trans hx2⟩
    · obtain ⟨res, hres⟩ : ∃ q, within (512 - (v : Int) + 1) v = q := ⟨_, rfl⟩
      have hr2 : res = (decide (0 < v) && !true) := by rw [← hres]; unfold within; rw [Bool.eq_iff_iff]; simp <;> omega
      have hw : decide (0 < (v : Int)) = decide (0 < v) := by simp
      have R1 : Hid (rightE 1 (512 - (v : Int) + 1) 0 v ⟨#[]⟩ = res) := by unfold Hid; rw [bound_w _ _ (by omega)]; exact hres
      have R2 : Hid (rightE 3 (512 - (v : Int) + 1) v 0 ⟨#[]⟩ = res) := by unfold Hid; rw [bound_z]; exact hres
      have R3 : Hid (rightE 2 (512 - (v : Int) + 1) v 0 ⟨#[]⟩ = res) := by unfold Hid; rw [bound_d]; exact hres
      have HRES := Lib.hid hr2
      clear hres hr2 hw
      go_enter Try.func9, Try.ntmps9
      go_wp2_with fail
      refine (event_Right 1 (512 - (v : Int) + 1) 0 _ v v _ ⟨#[]⟩ _ (byt_zeros hC1 (by omega)) hnil).mono ?_
      rintro e w1 ⟨rfl, hx1⟩
      rw [R1.out]
      replace hx1 := (Ext.alloc w _).trans hx1
      go_wp2_with fail
      refine (event_Right 3 (512 - (v : Int) + 1) v none 0 0 [] ⟨#[]⟩ _ (Sl.nil _) hnil).mono ?_
      rintro e w2 ⟨rfl, hx2⟩
      rw [R2.out]
      replace hx1 := hx1.trans hx2
      clear hx2
      go_wp2_with fail
      refine (event_Right 2 (512 - (v : Int) + 1) v none 0 0 [] ⟨#[]⟩ _ (Sl.nil _) hnil).mono ?_
      rintro e w3 ⟨rfl, hx2⟩
      rw [R3.out]
      replace hx1 := hx1.trans hx2
      clear hx2
      go_wp2_with fail
      refine (event_Right 1 0 0 _ 64 64 _ ⟨#[]⟩ _ (byt_zeros hC2 (by omega)) hnil).mono ?_
      rintro e w4 ⟨rfl, hx2⟩
      rw [F1.out]
      replace hx1 := (hx1.trans (Ext.alloc _ _)).trans hx2
      clear hx2
      go_wp2_with fail
      refine (event_Right 1 0 0 _ 65 65 _ ⟨#[]⟩ _ (byt_zeros hC3 (by omega)) hnil).mono ?_
      rintro e w5 ⟨rfl, hx2⟩
      rw [F2.out]
      replace hx1 := (hx1.trans (Ext.alloc _ _)).trans hx2
      clear hx2
      go_wp2_with fail
      refine (event_Right 4 0 512 none 0 0 [] ⟨#[]⟩ _ (Sl.nil _) hnil).mono ?_
      rintro e w6 ⟨rfl, hx2⟩
      rw [F3.out]
      replace hx1 := hx1.trans hx2
      clear hx2
      go_wp2_with fail
      refine (event_Right 4 0 513 none 0 0 [] ⟨#[]⟩ _ (Sl.nil _) hnil).mono ?_
      rintro e w7 ⟨rfl, hx2⟩
      rw [F4.out]
      replace hx1 := hx1.trans hx2
      clear hx2
      obtain rfl : res = false := by rw [HRES.out]; simp <;> omega
      go_wp2_with fail
      refine (law5_known _).mono ?_
      rintro e w8 ⟨rfl, hx2⟩
      go_wp2_with fail
      go_ret
      exact ⟨rfl, hx1.trans hx2⟩
  · skip
    cases ov
    · obtain ⟨res, hres⟩ : ∃ q, within (512 - (v : Int)) v = q := ⟨_, rfl⟩
      have hr2 : res = (decide (0 < v) && !false) := by rw [← hres]; unfold within; rw [Bool.eq_iff_iff]; simp <;> omega
      have hw : decide (0 < (v : Int)) = decide (0 < v) := by simp
      have R1 : Hid (rightE 1 (512 - (v : Int)) 0 v ⟨#[]⟩ = res) := by unfold Hid; rw [bound_w _ _ (by omega)]; exact hres
      have R2 : Hid (rightE 3 (512 - (v : Int)) v 0 ⟨#[]⟩ = res) := by unfold Hid; rw [bound_z]; exact hres
      have R3 : Hid (rightE 2 (512 - (v : Int)) v 0 ⟨#[]⟩ = res) := by unfold Hid; rw [bound_d]; exact hres
      have HRES := Lib.hid hr2
      clear hres hr2 hw
      go_enter Try.func9, Try.ntmps9
      go_wp2_with fail
      refine (event_Right 1 (512 - (v : Int)) 0 _ v v _ ⟨#[]⟩ _ (byt_zeros hC1 (by omega)) hnil).mono ?_
      rintro e w1 ⟨rfl, hx1⟩
      rw [R1.out]
      replace hx1 := (Ext.alloc w _).trans hx1
      go_wp2_with fail
      refine (event_Right 3 (512 - (v : Int)) v none 0 0 [] ⟨#[]⟩ _ (Sl.nil _) hnil).mono ?_
      rintro e w2 ⟨rfl, hx2⟩
      rw [R2.out]
      replace hx1 := hx1.trans hx2
      clear hx2
      go_wp2_with fail
      refine (event_Right 2 (512 - (v : Int)) v none 0 0 [] ⟨#[]⟩ _ (Sl.nil _) hnil).mono ?_
      rintro e w3 ⟨rfl, hx2⟩
      rw [R3.out]
      replace hx1 := hx1.trans hx2
      clear hx2
      go_wp2_with fail
      refine (event_Right 1 0 0 _ 64 64 _ ⟨#[]⟩ _ (byt_zeros hC2 (by omega)) hnil).mono ?_
      rintro e w4 ⟨rfl, hx2⟩
      rw [F1.out]
      replace hx1 := (hx1.trans (Ext.alloc _ _)).trans hx2
      clear hx2
      go_wp2_with fail
      refine (event_Right 1 0 0 _ 65 65 _ ⟨#[]⟩ _ (byt_zeros hC3 (by omega)) hnil).mono ?_
      rintro e w5 ⟨rfl, hx2⟩
      rw [F2.out]
      replace hx1 := (hx1.trans (Ext.alloc _ _)).trans hx2
      clear hx2
      go_wp2_with fail
      refine (event_Right 4 0 512 none 0 0 [] ⟨#[]⟩ _ (Sl.nil _) hnil).mono ?_
      rintro e w6 ⟨rfl, hx2⟩
      rw [F3.out]
      replace hx1 := hx1.trans hx2
      clear hx2
      go_wp2_with fail
      refine (event_Right 4 0 513 none 0 0 [] ⟨#[]⟩ _ (Sl.nil _) hnil).mono ?_
      rintro e w7 ⟨rfl, hx2⟩
      rw [F4.out]
      replace hx1 := hx1.trans hx2
      clear hx2
      obtain rfl : res = false := by rw [HRES.out]; simp <;> omega
      go_wp2_with fail
      refine (law5_known _).mono ?_
      rintro e w8 ⟨rfl, hx2⟩
      go_wp2_with fail
      go_ret
      exact ⟨rfl, hx1.trans hx2⟩
    · obtain ⟨res, hres⟩ : ∃ q, within (512 - (v : Int) + 1) v = q := ⟨_, rfl⟩
      have hr2 : res = (decide (0 < v) && !true) := by rw [← hres]; unfold within; rw [Bool.eq_iff_iff]; simp <;> omega
      have hw : decide (0 < (v : Int)) = decide (0 < v) := by simp
      have R1 : Hid (rightE 1 (512 - (v : Int) + 1) 0 v ⟨#[]⟩ = res) := by unfold Hid; rw [bound_w _ _ (by omega)]; exact hres
      have R2 : Hid (rightE 3 (512 - (v : Int) + 1) v 0 ⟨#[]⟩ = res) := by unfold Hid; rw [bound_z]; exact hres
      have R3 : Hid (rightE 2 (512 - (v : Int) + 1) v 0 ⟨#[]⟩ = res) := by unfold Hid; rw [bound_d]; exact hres
      have HRES := Lib.hid hr2
      clear hres hr2 hw
      go_enter Try.func9, Try.ntmps9
      go_wp2_with fail
      refine (event_Right 1 (512 - (v : Int) + 1) 0 _ v v _ ⟨#[]⟩ _ (byt_zeros hC1 (by omega)) hnil).mono ?_
      rintro e w1 ⟨rfl, hx1⟩
      rw [R1.out]
      replace hx1 := (Ext.alloc w _).trans hx1
      go_wp2_with fail
      refine (event_Right 3 (512 - (v : Int) + 1) v none 0 0 [] ⟨#[]⟩ _ (Sl.nil _) hnil).mono ?_
      rintro e w2 ⟨rfl, hx2⟩
      rw [R2.out]
      replace hx1 := hx1.trans hx2
      clear hx2
      go_wp2_with fail
      refine (event_Right 2 (512 - (v : Int) + 1) v none 0 0 [] ⟨#[]⟩ _ (Sl.nil _) hnil).mono ?_
      rintro e w3 ⟨rfl, hx2⟩
      rw [R3.out]
      replace hx1 := hx1.trans hx2
      clear hx2
      go_wp2_with fail
      refine (event_Right 1 0 0 _ 64 64 _ ⟨#[]⟩ _ (byt_zeros hC2 (by omega)) hnil).mono ?_
      rintro e w4 ⟨rfl, hx2⟩
      rw [F1.out]
      replace hx1 := (hx1.trans (Ext.alloc _ _)).trans hx2
      clear hx2
      go_wp2_with fail
      refine (event_Right 1 0 0 _ 65 65 _ ⟨#[]⟩ _ (byt_zeros hC3 (by omega)) hnil).mono ?_
      rintro e w5 ⟨rfl, hx2⟩
      rw [F2.out]
      replace hx1 := (hx1.trans (Ext.alloc _ _)).trans hx2
      clear hx2
      go_wp2_with fail
      refine (event_Right 4 0 512 none 0 0 [] ⟨#[]⟩ _ (Sl.nil _) hnil).mono ?_
      rintro e w6 ⟨rfl, hx2⟩
      rw [F3.out]
      replace hx1 := hx1.trans hx2
      clear hx2
      go_wp2_with fail
      refine (event_Right 4 0 513 none 0 0 [] ⟨#[]⟩ _ (Sl.nil _) hnil).mono ?_
      rintro e w7 ⟨rfl, hx2⟩
      rw [F4.out]
      replace hx1 := hx1.trans hx2
      clear hx2
      obtain rfl : res = false := by rw [HRES.out]; simp <;> omega
      go_wp2_with fail
      refine (law5_known _).mono ?_
      rintro e w8 ⟨rfl, hx2⟩
      go_wp2_with fail
      go_ret
      exact ⟨rfl, hx1.trans hx2⟩
end Go.Proofs.Ytcklkjklepmabaa
