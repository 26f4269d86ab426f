/-
  The walk of one statement of chapter 14: rows folded one behind the other.
-/
import Derived.Test.YtcklkjklepmabaaKnown14
import Derived.Test.YtcklkjklepmabaaFoldLaws
import Derived.Test.YtcklkjklepmabaaOpenEvs
namespace Go.Proofs.Ytcklkjklepmabaa
open Go.RowKit
set_option linter.unusedVariables false
set_option linter.unusedSimpArgs false
set_option linter.unnecessarySimpa false
set_option maxRecDepth 100000

theorem small_len {xs : List Ev} {m : Nat} (h : smallB xs m = true) : xs.length ≤ m := (of_decide_eq_true h).2
set_option maxHeartbeats 4000000 in
theorem law_ModelFolds (z : Int) (A : Option Addr) (n c : Nat) (one : List Ev) (A' : Option Addr) (n' c' : Nat) (two : List Ev) (w : World) (hz1 : -9223372036854775808 ≤ z) (hz2 : z ≤ 9223372036854775807) (h : Lst 5 evR w A n c one) (h' : Lst 5 evR w A' n' c' two) :
    Calls Try.prog 17 #[.int .i64 z, .slice A n c, .slice A' n' c'] w fun e w' => e = .returned (.bool true) ∧ Ext w w' := by
  have h63 := h.n63
  have h63' := h'.n63
  obtain ⟨f, hf⟩ : ∃ q, smallB one 40 = q := ⟨_, rfl⟩
  obtain ⟨f2, hf2⟩ : ∃ q, smallB two 40 = q := ⟨_, rfl⟩
  have HF := Lib.hid hf
  have HF2 := Lib.hid hf2
  cases f with
  | false =>
    clear hf hf2
    go_enter Try.func17, Try.ntmps17
    go_wp2_with fail
    refine (keep_Small h (m := 40) (by decide) HF).mono ?_
    rintro e w1 ⟨rfl, gq⟩
    go_wp2_with fail
    refine (law14_known _).mono ?_
    rintro e w9 ⟨rfl, hx1⟩
    go_wp2_with fail
    go_ret
    exact ⟨rfl, gq.trans hx1⟩
  | true =>
    have hnl := small_len hf
    rw [h.len] at hnl
    cases f2 with
    | false =>
      clear hf hf2
      go_enter Try.func17, Try.ntmps17
      go_wp2_with fail
      refine (keep_Small h (m := 40) (by decide) HF).mono ?_
      rintro e w1 ⟨rfl, gq⟩
      have gx := gq
      go_wp2_with fail
      refine (keep_Small (h'.ext ev_rep gx) (m := 40) (by decide) HF2).mono ?_
      rintro e w1 ⟨rfl, gq⟩
      replace gx := gx.trans gq
      go_wp2_with fail
      refine (law14_known _).mono ?_
      rintro e w9 ⟨rfl, hx1⟩
      go_wp2_with fail
      go_ret
      exact ⟨rfl, gx.trans hx1⟩
    | true =>
      have hnl2 := small_len hf2
      rw [h'.len] at hnl2
      obtain ⟨i0, hi0, hy0, hy1, hy2⟩ := info_parts info_ev
      have rt0 := right_new z
      obtain ⟨S0, hS0⟩ : ∃ S, newS z = S := ⟨_, rfl⟩
      rw [hS0] at rt0
      have rt1 := right_fold rt0 one
      obtain ⟨S1, hS1⟩ : ∃ S, foldS S0 one = S := ⟨_, rfl⟩
      rw [hS1] at rt1
      have rt2 := right_fold rt1 two
      obtain ⟨S2, hS2⟩ : ∃ S, foldS S1 two = S := ⟨_, rfl⟩
      rw [hS2] at rt2
      have hS12 : foldS S0 (one ++ two) = S2 := by rw [fold_append, hS1, hS2]
      have ok0 := okS_right rt0
      have ok1 := okS_right rt1
      have RT2 := Lib.hid rt2
      have HS0 := Lib.hid hS0
      have HS1 := Lib.hid hS1
      have HS2 := Lib.hid hS2
      have HS12 := Lib.hid hS12
      clear hf hf2 hS0 hS1 hS2 hS12 rt0 rt1 rt2
      go_enter Try.func17, Try.ntmps17
      go_wp2_with fail
      refine (keep_Small h (m := 40) (by decide) HF).mono ?_
      rintro e w1 ⟨rfl, gq⟩
      have gx := gq
      go_wp2_with fail
      refine (keep_Small (h'.ext ev_rep gx) (m := 40) (by decide) HF2).mono ?_
      rintro e w1 ⟨rfl, gq⟩
      replace gx := gx.trans gq
      clear gq
      go_wp2_with fail
      refine (model_New z _).mono ?_
      rintro e w2 ⟨A2, n2, c2, rfl, k1, gq⟩
      have b2 := k1.1.n63
      rw [HS0.out] at k1
      replace gx := gx.trans gq
      clear gq
      go_wp2_with fail
      refine (model_Fold k1 ok0 (h.ext ev_rep gx)).mono ?_
      rintro e w3 ⟨A3, n3, c3, B3, m3, d3, rfl, ua, gq⟩
      rw [HS1.out] at ua
      have b3 := ua.st.1.n63
      have bb3 := ua.st.2.n63
      replace gx := gx.trans gq
      clear gq
      clear k1
      obtain ⟨w3b, hW⟩ : ∃ q, w3.alloc (.cells #[.slice A3 n3 c3, .slice B3 m3 d3] TSt) = q := ⟨_, rfl⟩
      have gq : Ext w3 w3b := by rw [← hW]; exact Ext.alloc _ _
      replace ua := ua.ext gq
      replace gx := gx.trans gq
      clear gq
      have p0 : w3b.cell? ⟨w3.heap.size, 0, none⟩ = some (.slice A3 n3 c3) := by rw [← hW]; exact cell_new w3 _ _ 0
      have p1 : w3b.cell? ⟨w3.heap.size, 1, none⟩ = some (.slice B3 m3 d3) := by rw [← hW]; exact cell_new w3 _ _ 1
      go_wp2_with fail
      refine (model_New z _).mono ?_
      rintro e w4 ⟨A4, n4, c4, rfl, k1, gq⟩
      have b4 := k1.1.n63
      rw [HS0.out] at k1
      replace p0 := gq.cell p0
      replace p1 := gq.cell p1
      replace ua := ua.ext gq
      replace gx := gx.trans gq
      clear gq
      go_wp2_with fail
      refine (model_Fold k1 ok0 (h.ext ev_rep gx)).mono ?_
      rintro e w5 ⟨A5, n5, c5, B5, m5, d5, rfl, ub, gq⟩
      rw [HS1.out] at ub
      have b5 := ub.st.1.n63
      have bb5 := ub.st.2.n63
      replace p0 := gq.cell p0
      replace p1 := gq.cell p1
      replace ua := ua.ext gq
      replace gx := gx.trans gq
      clear gq
      clear k1
      obtain ⟨w5b, hW⟩ : ∃ q, w5.alloc (.cells #[.slice A5 n5 c5, .slice B5 m5 d5] TSt) = q := ⟨_, rfl⟩
      have gq : Ext w5 w5b := by rw [← hW]; exact Ext.alloc _ _
      replace p0 := gq.cell p0
      replace p1 := gq.cell p1
      replace ua := ua.ext gq
      replace ub := ub.ext gq
      replace gx := gx.trans gq
      clear gq
      have q0 : w5b.cell? ⟨w5.heap.size, 0, none⟩ = some (.slice A5 n5 c5) := by rw [← hW]; exact cell_new w5 _ _ 0
      have q1 : w5b.cell? ⟨w5.heap.size, 1, none⟩ = some (.slice B5 m5 d5) := by rw [← hW]; exact cell_new w5 _ _ 1
      go_wp2_with fail
      refine (model_Fold ua.st ok1 (h'.ext ev_rep gx)).mono ?_
      rintro e w6 ⟨A6, n6, c6, B6, m6, d6, rfl, uc, gq⟩
      rw [HS2.out] at uc
      have b6 := uc.st.1.n63
      have bb6 := uc.st.2.n63
      replace p0 := gq.cell p0
      replace p1 := gq.cell p1
      replace q0 := gq.cell q0
      replace q1 := gq.cell q1
      replace ua := ua.ext gq
      replace ub := ub.ext gq
      replace gx := gx.trans gq
      clear gq
      obtain ⟨w6b, hW⟩ : ∃ q, w6.alloc (.cells #[.slice A6 n6 c6, .slice B6 m6 d6] TSt) = q := ⟨_, rfl⟩
      have gq : Ext w6 w6b := by rw [← hW]; exact Ext.alloc _ _
      replace p0 := gq.cell p0
      replace p1 := gq.cell p1
      replace q0 := gq.cell q0
      replace q1 := gq.cell q1
      replace ua := ua.ext gq
      replace ub := ub.ext gq
      replace uc := uc.ext gq
      replace gx := gx.trans gq
      clear gq
      have r0 : w6b.cell? ⟨w6.heap.size, 0, none⟩ = some (.slice A6 n6 c6) := by rw [← hW]; exact cell_new w6 _ _ 0
      have r1 : w6b.cell? ⟨w6.heap.size, 1, none⟩ = some (.slice B6 m6 d6) := by rw [← hW]; exact cell_new w6 _ _ 1
      go_wp2_with fail
      refine (model_New z _).mono ?_
      rintro e w7 ⟨A7, n7, c7, rfl, k1, gq⟩
      have b7 := k1.1.n63
      rw [HS0.out] at k1
      replace p0 := gq.cell p0
      replace p1 := gq.cell p1
      replace q0 := gq.cell q0
      replace q1 := gq.cell q1
      replace r0 := gq.cell r0
      replace r1 := gq.cell r1
      replace ua := ua.ext gq
      replace ub := ub.ext gq
      replace uc := uc.ext gq
      replace gx := gx.trans gq
      clear gq
      have hh := h.ext ev_rep gx
      have hh' := h'.ext ev_rep gx
      go_wp2_with (
        at_builtin
        first
        | (refine wpList_append_lst2 (w0 := w7) ev_rep rfl _ _ _ _ rfl TEv i0 _ 64 under_evs hi0 hy0 hy1 hy2 rfl _ 0 0 [] rfl (OwnL.nil _ _ _ _) _ n one rfl (Feed.old (e := TEv) (n := 0) (xs := []) ev_rep (OwnL.nil _ _ _ _) hh (Ext.alloc _ _) under_evs) n (Nat.zero_add _) one rfl (by simp only [maxLen]; omega) (by omega) (Ext.alloc _ _) ?_
           intro Aa ca wa ho1 gxa hga)
        | (refine wpList_append_lst2 (w0 := w7) ev_rep rfl _ _ _ _ rfl TEv i0 _ 64 under_evs hi0 hy0 hy1 hy2 rfl Aa n ca one rfl ho1 _ n' two rfl (Feed.old ev_rep ho1 hh' gxa under_evs) (n + n') rfl _ rfl (by simp only [maxLen]; omega) (by omega) gxa ?_
           intro Ab cb wb ho2 gq hgb))
      replace k1 := k1.ext gq
      replace p0 := gq.cell p0
      replace p1 := gq.cell p1
      replace q0 := gq.cell q0
      replace q1 := gq.cell q1
      replace r0 := gq.cell r0
      replace r1 := gq.cell r1
      replace ua := ua.ext gq
      replace ub := ub.ext gq
      replace uc := uc.ext gq
      replace gx := gx.trans gq
      clear gq gxa hga hgb ho1 hh hh'
      refine (model_Fold k1 ok0 ho2.lst).mono ?_
      rintro e w9 ⟨A9, n9, c9, B9, m9, d9, rfl, ud, gq⟩
      rw [HS12.out] at ud
      have b9 := ud.st.1.n63
      have bb9 := ud.st.2.n63
      replace p0 := gq.cell p0
      replace p1 := gq.cell p1
      replace q0 := gq.cell q0
      replace q1 := gq.cell q1
      replace r0 := gq.cell r0
      replace r1 := gq.cell r1
      replace ua := ua.ext gq
      replace ub := ub.ext gq
      replace uc := uc.ext gq
      replace gx := gx.trans gq
      clear gq k1 ho2
      obtain ⟨w9b, hW⟩ : ∃ q, w9.alloc (.cells #[.slice A9 n9 c9, .slice B9 m9 d9] TSt) = q := ⟨_, rfl⟩
      have gq : Ext w9 w9b := by rw [← hW]; exact Ext.alloc _ _
      replace p0 := gq.cell p0
      replace p1 := gq.cell p1
      replace q0 := gq.cell q0
      replace q1 := gq.cell q1
      replace r0 := gq.cell r0
      replace r1 := gq.cell r1
      replace ua := ua.ext gq
      replace ub := ub.ext gq
      replace uc := uc.ext gq
      replace ud := ud.ext gq
      replace gx := gx.trans gq
      have t0 : w9b.cell? ⟨w9.heap.size, 0, none⟩ = some (.slice A9 n9 c9) := by rw [← hW]; exact cell_new w9 _ _ 0
      have t1 : w9b.cell? ⟨w9.heap.size, 1, none⟩ = some (.slice B9 m9 d9) := by rw [← hW]; exact cell_new w9 _ _ 1
      clear gq
      go_wp2_with fail
      refine (model_SameSt uc.st ud.st (Lib.hid (decide_eq_true rfl))).mono ?_
      rintro e w10 ⟨rfl, gq⟩
      replace p0 := gq.cell p0
      replace p1 := gq.cell p1
      replace q0 := gq.cell q0
      replace q1 := gq.cell q1
      replace r0 := gq.cell r0
      replace r1 := gq.cell r1
      replace t0 := gq.cell t0
      replace t1 := gq.cell t1
      replace ua := ua.ext gq
      replace ub := ub.ext gq
      replace uc := uc.ext gq
      replace ud := ud.ext gq
      replace gx := gx.trans gq
      clear gq
      go_wp2_with fail
      refine (model_SameSt ua.st ub.st (Lib.hid (decide_eq_true rfl))).mono ?_
      rintro e w11 ⟨rfl, gq⟩
      replace p0 := gq.cell p0
      replace p1 := gq.cell p1
      replace q0 := gq.cell q0
      replace q1 := gq.cell q1
      replace r0 := gq.cell r0
      replace r1 := gq.cell r1
      replace t0 := gq.cell t0
      replace t1 := gq.cell t1
      replace ua := ua.ext gq
      replace ub := ub.ext gq
      replace uc := uc.ext gq
      replace ud := ud.ext gq
      replace gx := gx.trans gq
      clear gq
      go_wp2_with fail
      refine (model_Right uc.st RT2).mono ?_
      rintro e w12 ⟨rfl, gq⟩
      replace p0 := gq.cell p0
      replace p1 := gq.cell p1
      replace q0 := gq.cell q0
      replace q1 := gq.cell q1
      replace r0 := gq.cell r0
      replace r1 := gq.cell r1
      replace t0 := gq.cell t0
      replace t1 := gq.cell t1
      replace ua := ua.ext gq
      replace ub := ub.ext gq
      replace uc := uc.ext gq
      replace ud := ud.ext gq
      replace gx := gx.trans gq
      go_wp2_with fail
      refine (law14_known _).mono ?_
      rintro e w9 ⟨rfl, hx1⟩
      go_wp2_with fail
      go_ret
      exact ⟨rfl, gx.trans hx1⟩
end Go.Proofs.Ytcklkjklepmabaa
