/-
  Chapter 9: the statement MsgMakes, walked.
-/
import Derived.Test.YtoeknbogaclfdaaZFromMsGetToMsgBack
import Derived.Test.YtoeknbogaclfdaaZMsPutR
import Derived.Test.YtoeknbogaclfdaaZMsRightR
import Derived.Test.YtoeknbogaclfdaaZFromTagParseToMsTags
namespace Go.Proofs.Ytoeknbogaclfdaa
open Go.RowKit
set_option linter.unusedVariables false
set_option linter.unusedSimpArgs false
set_option linter.unnecessarySimpa false
set_option maxRecDepth 100000
set_option maxHeartbeats 8000000 in
theorem law_MsgMakes (k0 : Int) (A1 : Option Addr) (n1 c1 : Nat) (l : List Int) (A2 : Option Addr) (n2 c2 : Nat) (p : List UInt8) (wi by_ : Int) (w : World) (hi : Lst 1 intR w A1 n1 c1 l) (hp : Sl w A2 n2 c2 p) :
    Calls Try.prog 10 #[.int .i64 k0, .slice A1 n1 c1, .slice A2 n2 c2, .int .i64 wi, .int .i64 by_] w fun e w' => e = .returned (.bool true) ∧ Ext w w' := by
  have g1 := hi.n63
  have g2 := hp.n63
  by_cases tn1 : 40 < n1
  · go_enter Try.func10, Try.ntmps10
    go_wp2_with fail
    refine (law9_known _).mono ?_
    rintro e wz ⟨rfl, hxz⟩
    go_wp2_with fail
    go_ret
    exact ⟨rfl, hxz⟩
  have dn1 : decide ((40 : Int) < (n1 : Int)) = false := by simp; omega
  by_cases tn2 : 200 < n2
  · go_enter Try.func10, Try.ntmps10
    go_wp2_with fail
    refine (law9_known _).mono ?_
    rintro e wz ⟨rfl, hxz⟩
    go_wp2_with fail
    go_ret
    exact ⟨rfl, hxz⟩
  have dn2 : decide ((200 : Int) < (n2 : Int)) = false := by simp; omega
  obtain ⟨i0, hi0, hz0, hz1, hz2⟩ := info_parts info_u8
  obtain ⟨m, hm⟩ : ∃ h, makeM k0 l p = h := ⟨_, rfl⟩
  have hr : rightM m = true := by rw [← hm]; exact make_rightM k0 l p (by rw [hi.len]; omega)
  have HH := Lib.hid hm
  have HR := Lib.hid hr
  obtain ⟨L, hL⟩ : ∃ L, putM m = L := ⟨_, rfl⟩
  have HPL : Hid (putMr m true = L) := hL
  obtain ⟨hf1, hf2⟩ := rightM_fit hr
  have HF := Lib.hid hf1
  have HSH := Lib.hid hf2
  obtain ⟨q1, q2, q3, q4, q5, q6, qa, qb, qc, qd⟩ := m
  simp only at HF HSH
  obtain ⟨e, he⟩ : ∃ q, bits BinOp.and IntKind.i64 wi 7 = q := ⟨_, rfl⟩
  have heb : e = 0 ∨ e = 1 ∨ e = 2 ∨ e = 3 ∨ e = 4 ∨ e = 5 ∨ e = 6 ∨ e = 7 := by rw [← he, and7]; omega
  have HE := Lib.hid heb
  clear hm hr hL hf1 hf2 heb
  go_enter Try.func10, Try.ntmps10
  go_wp2_with fail
  refine (law9_Make hi (by omega) hp (by omega) HH).mono ?_
  rintro e' w1 ⟨U1, Un1, Uc1, U2, Un2, Uc2, U3, Un3, Uc3, U4, Un4, Uc4, rfl, ol, hx1⟩
  have o63 := ol.n63
  have b0 := cell_new w1 #[.int .i64 q1, .int .i64 q2, .int .i64 q3, .int .i64 q4, .int .i64 q5, .int .i64 q6, .slice U1 Un1 Uc1, .slice U2 Un2 Uc2, .slice U3 Un3 Uc3, .slice U4 Un4 Uc4] TMs 0
  have b1 := cell_new w1 #[.int .i64 q1, .int .i64 q2, .int .i64 q3, .int .i64 q4, .int .i64 q5, .int .i64 q6, .slice U1 Un1 Uc1, .slice U2 Un2 Uc2, .slice U3 Un3 Uc3, .slice U4 Un4 Uc4] TMs 1
  have b2 := cell_new w1 #[.int .i64 q1, .int .i64 q2, .int .i64 q3, .int .i64 q4, .int .i64 q5, .int .i64 q6, .slice U1 Un1 Uc1, .slice U2 Un2 Uc2, .slice U3 Un3 Uc3, .slice U4 Un4 Uc4] TMs 2
  have b3 := cell_new w1 #[.int .i64 q1, .int .i64 q2, .int .i64 q3, .int .i64 q4, .int .i64 q5, .int .i64 q6, .slice U1 Un1 Uc1, .slice U2 Un2 Uc2, .slice U3 Un3 Uc3, .slice U4 Un4 Uc4] TMs 3
  have b4 := cell_new w1 #[.int .i64 q1, .int .i64 q2, .int .i64 q3, .int .i64 q4, .int .i64 q5, .int .i64 q6, .slice U1 Un1 Uc1, .slice U2 Un2 Uc2, .slice U3 Un3 Uc3, .slice U4 Un4 Uc4] TMs 4
  have b5 := cell_new w1 #[.int .i64 q1, .int .i64 q2, .int .i64 q3, .int .i64 q4, .int .i64 q5, .int .i64 q6, .slice U1 Un1 Uc1, .slice U2 Un2 Uc2, .slice U3 Un3 Uc3, .slice U4 Un4 Uc4] TMs 5
  have b6 := cell_new w1 #[.int .i64 q1, .int .i64 q2, .int .i64 q3, .int .i64 q4, .int .i64 q5, .int .i64 q6, .slice U1 Un1 Uc1, .slice U2 Un2 Uc2, .slice U3 Un3 Uc3, .slice U4 Un4 Uc4] TMs 6
  have b7 := cell_new w1 #[.int .i64 q1, .int .i64 q2, .int .i64 q3, .int .i64 q4, .int .i64 q5, .int .i64 q6, .slice U1 Un1 Uc1, .slice U2 Un2 Uc2, .slice U3 Un3 Uc3, .slice U4 Un4 Uc4] TMs 7
  have b8 := cell_new w1 #[.int .i64 q1, .int .i64 q2, .int .i64 q3, .int .i64 q4, .int .i64 q5, .int .i64 q6, .slice U1 Un1 Uc1, .slice U2 Un2 Uc2, .slice U3 Un3 Uc3, .slice U4 Un4 Uc4] TMs 8
  have b9 := cell_new w1 #[.int .i64 q1, .int .i64 q2, .int .i64 q3, .int .i64 q4, .int .i64 q5, .int .i64 q6, .slice U1 Un1 Uc1, .slice U2 Un2 Uc2, .slice U3 Un3 Uc3, .slice U4 Un4 Uc4] TMs 9
  have gx1 := hx1.allocs (.cells #[.int .i64 q1, .int .i64 q2, .int .i64 q3, .int .i64 q4, .int .i64 q5, .int .i64 q6, .slice U1 Un1 Uc1, .slice U2 Un2 Uc2, .slice U3 Un3 Uc3, .slice U4 Un4 Uc4] TMs)
  have l1 := ol.ext (Ext.alloc w1 (.cells #[.int .i64 q1, .int .i64 q2, .int .i64 q3, .int .i64 q4, .int .i64 q5, .int .i64 q6, .slice U1 Un1 Uc1, .slice U2 Un2 Uc2, .slice U3 Un3 Uc3, .slice U4 Un4 Uc4] TMs))
  clear hx1 ol
  go_wp2_with fail
  refine (msg_Put l1 HF HSH HR HPL).mono ?_
  rintro e' w2 ⟨P2, m2, k2, rfl, hb2, hx2⟩
  have her : (if true = true then (0 : Int) else 1) = 0 := rfl
  rw [her]
  clear her
  replace b0 := hx2.cell b0
  replace b1 := hx2.cell b1
  replace b2 := hx2.cell b2
  replace b3 := hx2.cell b3
  replace b4 := hx2.cell b4
  replace b5 := hx2.cell b5
  replace b6 := hx2.cell b6
  replace b7 := hx2.cell b7
  replace b8 := hx2.cell b8
  replace b9 := hx2.cell b9
  replace gx1 := gx1.trans hx2
  replace l1 := l1.ext hx2
  have n55 := hb2.sl.n63
  clear hx2
  go_wp2_with fail
  refine (ref_PutMsg l1 HF HSH HR HPL).mono ?_
  rintro e' w3 ⟨P3, m3, k3, rfl, hb3, hx3⟩
  have her : (if true = true then (0 : Int) else 1) = 0 := rfl
  rw [her]
  clear her
  replace b0 := hx3.cell b0
  replace b1 := hx3.cell b1
  replace b2 := hx3.cell b2
  replace b3 := hx3.cell b3
  replace b4 := hx3.cell b4
  replace b5 := hx3.cell b5
  replace b6 := hx3.cell b6
  replace b7 := hx3.cell b7
  replace b8 := hx3.cell b8
  replace b9 := hx3.cell b9
  replace gx1 := gx1.trans hx3
  replace l1 := l1.ext hx3
  have t2 := run_text_u8 (hb2.sl.ext hx3)
  have t3 := run_text_u8 hb3.sl
  have n66 := hb3.sl.n63
  have hpw := hp.ext gx1
  clear hx3 hb2 hb3 hi hp HPL HH
  have hwb : w.heap.size ≤ w3.heap.size := gx1.size
  rcases HE.out with rfl | rfl | rfl | rfl | rfl | rfl | rfl | rfl
  · skip
    go_wp2_with fail
    obtain ⟨wf, hwf⟩ : ∃ q, q = w3.alloc (.cells #[.int .i64 by_, .int .i64 q2, .int .i64 q3, .int .i64 q4, .int .i64 q5, .int .i64 q6, .slice U1 Un1 Uc1, .slice U2 Un2 Uc2, .slice U3 Un3 Uc3, .slice U4 Un4 Uc4] TMs) := ⟨_, rfl⟩
    have hx3f : Ext w3 wf := by rw [hwf]; exact Ext.alloc _ _
    have LW : Hid (MsR wf ⟨by_, q2, q3, q4, q5, q6, qa, qb, qc, qd⟩ U1 Un1 Uc1 U2 Un2 Uc2 U3 Un3 Uc3 U4 Un4 Uc4) := ⟨(l1.ext hx3f).ch, (l1.ext hx3f).en, (l1.ext hx3f).ms, (l1.ext hx3f).da⟩
    have x0 := cell_new w3 #[.int .i64 by_, .int .i64 q2, .int .i64 q3, .int .i64 q4, .int .i64 q5, .int .i64 q6, .slice U1 Un1 Uc1, .slice U2 Un2 Uc2, .slice U3 Un3 Uc3, .slice U4 Un4 Uc4] TMs 0
    replace b0 := hx3f.cell b0
    have x1 := cell_new w3 #[.int .i64 by_, .int .i64 q2, .int .i64 q3, .int .i64 q4, .int .i64 q5, .int .i64 q6, .slice U1 Un1 Uc1, .slice U2 Un2 Uc2, .slice U3 Un3 Uc3, .slice U4 Un4 Uc4] TMs 1
    replace b1 := hx3f.cell b1
    have x2 := cell_new w3 #[.int .i64 by_, .int .i64 q2, .int .i64 q3, .int .i64 q4, .int .i64 q5, .int .i64 q6, .slice U1 Un1 Uc1, .slice U2 Un2 Uc2, .slice U3 Un3 Uc3, .slice U4 Un4 Uc4] TMs 2
    replace b2 := hx3f.cell b2
    have x3 := cell_new w3 #[.int .i64 by_, .int .i64 q2, .int .i64 q3, .int .i64 q4, .int .i64 q5, .int .i64 q6, .slice U1 Un1 Uc1, .slice U2 Un2 Uc2, .slice U3 Un3 Uc3, .slice U4 Un4 Uc4] TMs 3
    replace b3 := hx3f.cell b3
    have x4 := cell_new w3 #[.int .i64 by_, .int .i64 q2, .int .i64 q3, .int .i64 q4, .int .i64 q5, .int .i64 q6, .slice U1 Un1 Uc1, .slice U2 Un2 Uc2, .slice U3 Un3 Uc3, .slice U4 Un4 Uc4] TMs 4
    replace b4 := hx3f.cell b4
    have x5 := cell_new w3 #[.int .i64 by_, .int .i64 q2, .int .i64 q3, .int .i64 q4, .int .i64 q5, .int .i64 q6, .slice U1 Un1 Uc1, .slice U2 Un2 Uc2, .slice U3 Un3 Uc3, .slice U4 Un4 Uc4] TMs 5
    replace b5 := hx3f.cell b5
    have x6 := cell_new w3 #[.int .i64 by_, .int .i64 q2, .int .i64 q3, .int .i64 q4, .int .i64 q5, .int .i64 q6, .slice U1 Un1 Uc1, .slice U2 Un2 Uc2, .slice U3 Un3 Uc3, .slice U4 Un4 Uc4] TMs 6
    replace b6 := hx3f.cell b6
    have x7 := cell_new w3 #[.int .i64 by_, .int .i64 q2, .int .i64 q3, .int .i64 q4, .int .i64 q5, .int .i64 q6, .slice U1 Un1 Uc1, .slice U2 Un2 Uc2, .slice U3 Un3 Uc3, .slice U4 Un4 Uc4] TMs 7
    replace b7 := hx3f.cell b7
    have x8 := cell_new w3 #[.int .i64 by_, .int .i64 q2, .int .i64 q3, .int .i64 q4, .int .i64 q5, .int .i64 q6, .slice U1 Un1 Uc1, .slice U2 Un2 Uc2, .slice U3 Un3 Uc3, .slice U4 Un4 Uc4] TMs 8
    replace b8 := hx3f.cell b8
    have x9 := cell_new w3 #[.int .i64 by_, .int .i64 q2, .int .i64 q3, .int .i64 q4, .int .i64 q5, .int .i64 q6, .slice U1 Un1 Uc1, .slice U2 Un2 Uc2, .slice U3 Un3 Uc3, .slice U4 Un4 Uc4] TMs 9
    replace b9 := hx3f.cell b9
    rw [← hwf] at x0 x1 x2 x3 x4 x5 x6 x7 x8 x9
    rw [← hwf]
    clear hwf
    have GXW := Lib.hid (gx1.trans hx3f)
    replace l1 := l1.ext hx3f
    clear hx3f gx1
    obtain ⟨r, hr⟩ : ∃ q, rightM ⟨by_, q2, q3, q4, q5, q6, qa, qb, qc, qd⟩ = q := ⟨_, rfl⟩
    have HR2 := Lib.hid hr
    obtain ⟨M, hM⟩ : ∃ q, putMr ⟨by_, q2, q3, q4, q5, q6, qa, qb, qc, qd⟩ r = q := ⟨_, rfl⟩
    have HM2 := Lib.hid hM
    clear hr hM
    refine (msg_Put (m := ⟨by_, q2, q3, q4, q5, q6, qa, qb, qc, qd⟩) LW.out HF HSH HR2 HM2).mono ?_
    rintro e w7 ⟨A7, n7, c7, rfl, hb7, hx7⟩
    obtain ⟨er, her⟩ : ∃ q : Int, (if r = true then (0 : Int) else 1) = q := ⟨_, rfl⟩
    rw [her]
    have HER := Lib.hid her
    clear her
    replace x0 := hx7.cell x0
    replace b0 := hx7.cell b0
    replace x1 := hx7.cell x1
    replace b1 := hx7.cell b1
    replace x2 := hx7.cell x2
    replace b2 := hx7.cell b2
    replace x3 := hx7.cell x3
    replace b3 := hx7.cell b3
    replace x4 := hx7.cell x4
    replace b4 := hx7.cell b4
    replace x5 := hx7.cell x5
    replace b5 := hx7.cell b5
    replace x6 := hx7.cell x6
    replace b6 := hx7.cell b6
    replace x7 := hx7.cell x7
    replace b7 := hx7.cell b7
    replace x8 := hx7.cell x8
    replace b8 := hx7.cell b8
    replace x9 := hx7.cell x9
    replace b9 := hx7.cell b9
    have gx7 := GXW.out.trans hx7
    have lW := LW.out.ext hx7
    replace l1 := l1.ext hx7
    have n77 := hb7.sl.n63
    clear GXW hx7 LW
    go_wp2_with fail
    refine (ref_PutMsg (m := ⟨by_, q2, q3, q4, q5, q6, qa, qb, qc, qd⟩) lW HF HSH HR2 HM2).mono ?_
    rintro e w8 ⟨A8, n8, c8, rfl, hb8, hx8⟩
    rw [HER.out]
    replace x0 := hx8.cell x0
    replace b0 := hx8.cell b0
    replace x1 := hx8.cell x1
    replace b1 := hx8.cell b1
    replace x2 := hx8.cell x2
    replace b2 := hx8.cell b2
    replace x3 := hx8.cell x3
    replace b3 := hx8.cell b3
    replace x4 := hx8.cell x4
    replace b4 := hx8.cell b4
    replace x5 := hx8.cell x5
    replace b5 := hx8.cell b5
    replace x6 := hx8.cell x6
    replace b6 := hx8.cell b6
    replace x7 := hx8.cell x7
    replace b7 := hx8.cell b7
    replace x8 := hx8.cell x8
    replace b8 := hx8.cell b8
    replace x9 := hx8.cell x9
    replace b9 := hx8.cell b9
    replace gx7 := gx7.trans hx8
    replace lW := lW.ext hx8
    replace l1 := l1.ext hx8
    have tb7 := hb7.sl.ext hx8
    have tb8 := hb8.sl
    have n88 := hb8.sl.n63
    clear hx8 hb7 hb8 HER HM2
    go_wp2_with fail
    refine wp_region_typed Ext.steady rfl 127 rfl (by kernel_rfl) ?_
    apply Stage.step (Is _) [] (Is.keeps _) (by kernel_rfl)
    · intro w1 h1
      simp only [Given]
      go_wp2_with fail
      exact Post.isv (Ext.refl _) rfl rfl rfl
    apply Stage.step (Is (.string ⟨M.toArray⟩)) [true] (Is.keeps _) (by kernel_rfl)
    · intro w1 h1
      simp only [List.nil_append, Given]
      rintro _ rfl
      have tx := run_text_u8 (tb7.ext h1)
      go_wp2_with fail
      exact Post.isv (Ext.refl _) rfl rfl rfl
    apply Stage.step (Is _) [] (Is.keeps _) (by kernel_rfl)
    · intro w1 h1
      simp only [Given]
      go_wp2_with fail
      exact Post.isv (Ext.refl _) rfl rfl rfl
    apply Stage.step (Is (.string ⟨M.toArray⟩)) [false, false, true] (Is.keeps _) (by kernel_rfl)
    · intro w1 h1
      simp only [List.nil_append, List.cons_append, Given]
      rintro _ rfl
      have tx := run_text_u8 (tb8.ext h1)
      go_wp2_with fail
      exact Post.isv (Ext.refl _) rfl rfl rfl
    apply Stage.step (Is (.bool true)) [false, true, false, true] (Is.keeps _) (by kernel_rfl)
    · intro w1 h1
      simp only [List.nil_append, List.cons_append, Given]
      rintro _ rfl
      rintro _ rfl
      go_wp2_with fail
      exact Post.isv (Ext.refl _) rfl rfl rfl
    apply Stage.step (Is _) [false, false, false, false, true] (Is.keeps _) (by kernel_rfl)
    · intro w1 h1
      simp only [List.nil_append, List.cons_append, Given]
      rintro _ rfl
      go_wp2_with fail
      exact Post.isv (Ext.refl _) rfl rfl rfl
    apply Stage.step (Is _) [false, false, false, false, false, true] (Is.keeps _) (by kernel_rfl)
    · intro w1 h1
      simp only [List.nil_append, List.cons_append, Given]
      rintro _ rfl
      go_wp2_with fail
      exact Post.isv (Ext.refl _) rfl rfl rfl
    apply Stage.step (Is _) [false, false, false, false, false, true] (Is.keeps _) (by kernel_rfl)
    · intro w1 h1
      simp only [List.nil_append, List.cons_append, Given]
      rintro _ rfl
      go_wp2_with fail
      exact Post.isv (Ext.refl _) rfl rfl rfl
    apply Stage.step (Is (.bool true)) [false, false, false, false, false, true, true, true] (Is.keeps _) (by kernel_rfl)
    · intro w1 h1
      simp only [List.nil_append, List.cons_append, Given]
      rintro _ rfl
      rintro _ rfl
      rintro _ rfl
      go_wp2_with fail
      exact Post.isv (Ext.refl _) rfl rfl rfl
    apply Stage.step (Is (.bool true)) [false, false, false, false, false, true, false, false, true] (Is.keeps _) (by kernel_rfl)
    · intro w1 h1
      simp only [List.nil_append, List.cons_append, Given]
      rintro _ rfl
      rintro _ rfl
      go_wp2_with fail
      exact Post.isv (Ext.refl _) rfl rfl rfl
    apply Stage.step (Is _) [false, false, false, false, false, false, false, false, false, true] (Is.keeps _) (by kernel_rfl)
    · intro w1 h1
      simp only [List.nil_append, List.cons_append, Given]
      rintro _ rfl
      go_wp2_with fail
      exact Post.isv (Ext.refl _) rfl rfl rfl
    apply Stage.step (Is (msV ⟨by_, q2, q3, q4, q5, q6, qa, qb, qc, qd⟩ U1 Un1 Uc1 U2 Un2 Uc2 U3 Un3 Uc3 U4 Un4 Uc4)) [false, false, false, false, false, false, false, false, false, false, true] (Is.keeps _) (by kernel_rfl)
    · intro w1 h1
      simp only [List.nil_append, List.cons_append, Given]
      rintro _ rfl
      have uu0 := h1.cell x0
      have uu1 := h1.cell x1
      have uu2 := h1.cell x2
      have uu3 := h1.cell x3
      have uu4 := h1.cell x4
      have uu5 := h1.cell x5
      have uu6 := h1.cell x6
      have uu7 := h1.cell x7
      have uu8 := h1.cell x8
      have uu9 := h1.cell x9
      go_wp2_with fail
      exact Post.isv (Ext.refl _) rfl rfl rfl
    apply Stage.step (Is (.bool r)) [false, false, false, false, false, false, false, false, false, false, true, true] (Is.keeps _) (by kernel_rfl)
    · intro w1 h1
      simp only [List.nil_append, List.cons_append, Given]
      rintro _ rfl
      rintro _ rfl
      go_wp2_with fail
      refine (msg_Right (m := ⟨by_, q2, q3, q4, q5, q6, qa, qb, qc, qd⟩) (lW.ext h1) HF HSH HR2).mono ?_
      rintro e w2 ⟨rfl, hx2⟩
      go_wp2_with fail
      exact Post.isv hx2 rfl rfl rfl
    apply Stage.step (Is (msV ⟨by_, q2, q3, q4, q5, q6, qa, qb, qc, qd⟩ U1 Un1 Uc1 U2 Un2 Uc2 U3 Un3 Uc3 U4 Un4 Uc4)) [false, false, false, false, false, false, false, false, false, false, true] (Is.keeps _) (by kernel_rfl)
    · intro w1 h1
      simp only [List.nil_append, List.cons_append, Given]
      rintro _ rfl
      have uu0 := h1.cell x0
      have uu1 := h1.cell x1
      have uu2 := h1.cell x2
      have uu3 := h1.cell x3
      have uu4 := h1.cell x4
      have uu5 := h1.cell x5
      have uu6 := h1.cell x6
      have uu7 := h1.cell x7
      have uu8 := h1.cell x8
      have uu9 := h1.cell x9
      go_wp2_with fail
      exact Post.isv (Ext.refl _) rfl rfl rfl
    apply Stage.step (Is (.bool r)) [false, false, false, false, false, false, false, false, false, false, true, false, false, true] (Is.keeps _) (by kernel_rfl)
    · intro w1 h1
      simp only [List.nil_append, List.cons_append, Given]
      rintro _ rfl
      rintro _ rfl
      go_wp2_with fail
      refine (ref_RightMsg (m := ⟨by_, q2, q3, q4, q5, q6, qa, qb, qc, qd⟩) (lW.ext h1) HF HSH HR2).mono ?_
      rintro e w2 ⟨rfl, hx2⟩
      go_wp2_with fail
      exact Post.isv hx2 rfl rfl rfl
    apply Stage.step (Is (.bool true)) [false, false, false, false, false, false, false, false, false, false, true, false, true, false, true] (Is.keeps _) (by kernel_rfl)
    · intro w1 h1
      simp only [List.nil_append, List.cons_append, Given]
      rintro _ rfl
      rintro _ rfl
      rintro _ rfl
      go_wp2_with fail
      exact Post.isv (Ext.refl _) rfl rfl rfl
    apply Stage.step (Is (.bool true)) [false, false, false, false, false, false, false, false, false, false, true, false, false, false, false, true] (Is.keeps _) (by kernel_rfl)
    · intro w1 h1
      simp only [List.nil_append, List.cons_append, Given]
      rintro _ rfl
      rintro _ rfl
      go_wp2_with fail
      exact Post.isv (Ext.refl _) rfl rfl rfl
    apply Stage.step (Is _) [false, false, false, false, false, false, false, false, false, false, false, false, false, false, false, false, true] (Is.keeps _) (by kernel_rfl)
    · intro w1 h1
      simp only [List.nil_append, List.cons_append, Given]
      rintro _ rfl
      go_wp2_with fail
      exact Post.isv (Ext.refl _) rfl rfl rfl
    apply Stage.step (Is (msV ⟨q1, q2, q3, q4, q5, q6, qa, qb, qc, qd⟩ U1 Un1 Uc1 U2 Un2 Uc2 U3 Un3 Uc3 U4 Un4 Uc4)) [false, false, false, false, false, false, false, false, false, false, false, false, false, false, false, false, false, true] (Is.keeps _) (by kernel_rfl)
    · intro w1 h1
      simp only [List.nil_append, List.cons_append, Given]
      rintro _ rfl
      have uu0 := h1.cell b0
      have uu1 := h1.cell b1
      have uu2 := h1.cell b2
      have uu3 := h1.cell b3
      have uu4 := h1.cell b4
      have uu5 := h1.cell b5
      have uu6 := h1.cell b6
      have uu7 := h1.cell b7
      have uu8 := h1.cell b8
      have uu9 := h1.cell b9
      go_wp2_with fail
      exact Post.isv (Ext.refl _) rfl rfl rfl
    apply Stage.step (Is (.bool true)) [false, false, false, false, false, false, false, false, false, false, false, false, false, false, false, false, false, true, true] (Is.keeps _) (by kernel_rfl)
    · intro w1 h1
      simp only [List.nil_append, List.cons_append, Given]
      rintro _ rfl
      rintro _ rfl
      go_wp2_with fail
      refine (msg_Right (m := ⟨q1, q2, q3, q4, q5, q6, qa, qb, qc, qd⟩) (l1.ext h1) HF HSH HR).mono ?_
      rintro e w2 ⟨rfl, hx2⟩
      go_wp2_with fail
      exact Post.isv hx2 rfl rfl rfl
    apply Stage.step (Is (.bool true)) [false, false, false, false, false, false, false, false, false, false, false, false, false, false, false, false, false, true, false, true] (Is.keeps _) (by kernel_rfl)
    · intro w1 h1
      simp only [List.nil_append, List.cons_append, Given]
      rintro _ rfl
      rintro _ rfl
      go_wp2_with fail
      exact Post.isv (Ext.refl _) rfl rfl rfl
    apply Stage.step (Is _) [false, false, false, false, false, false, false, false, false, false, false, false, false, false, false, false, false, false, false, false, true] (Is.keeps _) (by kernel_rfl)
    · intro w1 h1
      simp only [List.nil_append, List.cons_append, Given]
      rintro _ rfl
      go_wp2_with fail
      exact Post.isv (Ext.refl _) rfl rfl rfl
    apply Stage.step (Is (.bool true)) [false, false, false, false, false, false, false, false, false, false, false, false, false, false, false, false, false, false, false, false, false, true] (Is.keeps _) (by kernel_rfl)
    · intro w1 h1
      simp only [List.nil_append, List.cons_append, Given]
      rintro _ rfl
      go_wp2_with fail
      refine (law9_known _).mono ?_
      rintro e w2 ⟨rfl, hx2⟩
      go_wp2_with fail
      exact Post.isv hx2 rfl rfl rfl
    apply Stage.step (Is (.bool true)) [false, false, false, false, false, false, false, false, false, false, false, false, false, false, false, false, false, false, false, false, false, true, true] (Is.keeps _) (by kernel_rfl)
    · intro w1 h1
      simp only [List.nil_append, List.cons_append, Given]
      rintro _ rfl
      rintro _ rfl
      go_wp2_with fail
      exact Post.isv (Ext.refl _) rfl rfl rfl
    apply Stage.step (Is _) [false, false, false, false, false, false, false, false, false, false, false, false, false, false, false, false, false, false, false, false, false, false, false, true] (Is.keeps _) (by kernel_rfl)
    · intro w1 h1
      simp only [List.nil_append, List.cons_append, Given]
      rintro _ rfl
      go_wp2_with fail
      exact Post.isv (Ext.refl _) rfl rfl rfl
    apply Stage.nil
    intro w1 h1
    simp only [List.nil_append, List.cons_append]
    refine Fin.is_ ?_
    refine Fin.is_ ?_
    refine Fin.is_ ?_
    refine Fin.is_ ?_
    refine Fin.is_ ?_
    refine Fin.is_ ?_
    refine Fin.is_ ?_
    refine Fin.is_ ?_
    refine Fin.is_ ?_
    refine Fin.is_ ?_
    refine Fin.is_ ?_
    refine Fin.is_ ?_
    refine Fin.is_ ?_
    refine Fin.is_ ?_
    refine Fin.is_ ?_
    refine Fin.is_ ?_
    refine Fin.is_ ?_
    refine Fin.is_ ?_
    refine Fin.is_ ?_
    refine Fin.is_ ?_
    refine Fin.is_ ?_
    refine Fin.is_ ?_
    refine Fin.is_ ?_
    refine Fin.is_ ?_
    refine Fin.is_ ?_
    refine Fin.nil_ ?_
    go_simp
    go_wp2_with fail
    go_ret
    exact ⟨rfl, gx7.trans h1⟩
  · skip
    go_wp2_with fail
    obtain ⟨wf, hwf⟩ : ∃ q, q = w3.alloc (.cells #[.int .i64 q1, .int .i64 by_, .int .i64 q3, .int .i64 q4, .int .i64 q5, .int .i64 q6, .slice U1 Un1 Uc1, .slice U2 Un2 Uc2, .slice U3 Un3 Uc3, .slice U4 Un4 Uc4] TMs) := ⟨_, rfl⟩
    have hx3f : Ext w3 wf := by rw [hwf]; exact Ext.alloc _ _
    have LW : Hid (MsR wf ⟨q1, by_, q3, q4, q5, q6, qa, qb, qc, qd⟩ U1 Un1 Uc1 U2 Un2 Uc2 U3 Un3 Uc3 U4 Un4 Uc4) := ⟨(l1.ext hx3f).ch, (l1.ext hx3f).en, (l1.ext hx3f).ms, (l1.ext hx3f).da⟩
    have x0 := cell_new w3 #[.int .i64 q1, .int .i64 by_, .int .i64 q3, .int .i64 q4, .int .i64 q5, .int .i64 q6, .slice U1 Un1 Uc1, .slice U2 Un2 Uc2, .slice U3 Un3 Uc3, .slice U4 Un4 Uc4] TMs 0
    replace b0 := hx3f.cell b0
    have x1 := cell_new w3 #[.int .i64 q1, .int .i64 by_, .int .i64 q3, .int .i64 q4, .int .i64 q5, .int .i64 q6, .slice U1 Un1 Uc1, .slice U2 Un2 Uc2, .slice U3 Un3 Uc3, .slice U4 Un4 Uc4] TMs 1
    replace b1 := hx3f.cell b1
    have x2 := cell_new w3 #[.int .i64 q1, .int .i64 by_, .int .i64 q3, .int .i64 q4, .int .i64 q5, .int .i64 q6, .slice U1 Un1 Uc1, .slice U2 Un2 Uc2, .slice U3 Un3 Uc3, .slice U4 Un4 Uc4] TMs 2
    replace b2 := hx3f.cell b2
    have x3 := cell_new w3 #[.int .i64 q1, .int .i64 by_, .int .i64 q3, .int .i64 q4, .int .i64 q5, .int .i64 q6, .slice U1 Un1 Uc1, .slice U2 Un2 Uc2, .slice U3 Un3 Uc3, .slice U4 Un4 Uc4] TMs 3
    replace b3 := hx3f.cell b3
    have x4 := cell_new w3 #[.int .i64 q1, .int .i64 by_, .int .i64 q3, .int .i64 q4, .int .i64 q5, .int .i64 q6, .slice U1 Un1 Uc1, .slice U2 Un2 Uc2, .slice U3 Un3 Uc3, .slice U4 Un4 Uc4] TMs 4
    replace b4 := hx3f.cell b4
    have x5 := cell_new w3 #[.int .i64 q1, .int .i64 by_, .int .i64 q3, .int .i64 q4, .int .i64 q5, .int .i64 q6, .slice U1 Un1 Uc1, .slice U2 Un2 Uc2, .slice U3 Un3 Uc3, .slice U4 Un4 Uc4] TMs 5
    replace b5 := hx3f.cell b5
    have x6 := cell_new w3 #[.int .i64 q1, .int .i64 by_, .int .i64 q3, .int .i64 q4, .int .i64 q5, .int .i64 q6, .slice U1 Un1 Uc1, .slice U2 Un2 Uc2, .slice U3 Un3 Uc3, .slice U4 Un4 Uc4] TMs 6
    replace b6 := hx3f.cell b6
    have x7 := cell_new w3 #[.int .i64 q1, .int .i64 by_, .int .i64 q3, .int .i64 q4, .int .i64 q5, .int .i64 q6, .slice U1 Un1 Uc1, .slice U2 Un2 Uc2, .slice U3 Un3 Uc3, .slice U4 Un4 Uc4] TMs 7
    replace b7 := hx3f.cell b7
    have x8 := cell_new w3 #[.int .i64 q1, .int .i64 by_, .int .i64 q3, .int .i64 q4, .int .i64 q5, .int .i64 q6, .slice U1 Un1 Uc1, .slice U2 Un2 Uc2, .slice U3 Un3 Uc3, .slice U4 Un4 Uc4] TMs 8
    replace b8 := hx3f.cell b8
    have x9 := cell_new w3 #[.int .i64 q1, .int .i64 by_, .int .i64 q3, .int .i64 q4, .int .i64 q5, .int .i64 q6, .slice U1 Un1 Uc1, .slice U2 Un2 Uc2, .slice U3 Un3 Uc3, .slice U4 Un4 Uc4] TMs 9
    replace b9 := hx3f.cell b9
    rw [← hwf] at x0 x1 x2 x3 x4 x5 x6 x7 x8 x9
    rw [← hwf]
    clear hwf
    have GXW := Lib.hid (gx1.trans hx3f)
    replace l1 := l1.ext hx3f
    clear hx3f gx1
    obtain ⟨r, hr⟩ : ∃ q, rightM ⟨q1, by_, q3, q4, q5, q6, qa, qb, qc, qd⟩ = q := ⟨_, rfl⟩
    have HR2 := Lib.hid hr
    obtain ⟨M, hM⟩ : ∃ q, putMr ⟨q1, by_, q3, q4, q5, q6, qa, qb, qc, qd⟩ r = q := ⟨_, rfl⟩
    have HM2 := Lib.hid hM
    clear hr hM
    refine (msg_Put (m := ⟨q1, by_, q3, q4, q5, q6, qa, qb, qc, qd⟩) LW.out HF HSH HR2 HM2).mono ?_
    rintro e w7 ⟨A7, n7, c7, rfl, hb7, hx7⟩
    obtain ⟨er, her⟩ : ∃ q : Int, (if r = true then (0 : Int) else 1) = q := ⟨_, rfl⟩
    rw [her]
    have HER := Lib.hid her
    clear her
    replace x0 := hx7.cell x0
    replace b0 := hx7.cell b0
    replace x1 := hx7.cell x1
    replace b1 := hx7.cell b1
    replace x2 := hx7.cell x2
    replace b2 := hx7.cell b2
    replace x3 := hx7.cell x3
    replace b3 := hx7.cell b3
    replace x4 := hx7.cell x4
    replace b4 := hx7.cell b4
    replace x5 := hx7.cell x5
    replace b5 := hx7.cell b5
    replace x6 := hx7.cell x6
    replace b6 := hx7.cell b6
    replace x7 := hx7.cell x7
    replace b7 := hx7.cell b7
    replace x8 := hx7.cell x8
    replace b8 := hx7.cell b8
    replace x9 := hx7.cell x9
    replace b9 := hx7.cell b9
    have gx7 := GXW.out.trans hx7
    have lW := LW.out.ext hx7
    replace l1 := l1.ext hx7
    have n77 := hb7.sl.n63
    clear GXW hx7 LW
    go_wp2_with fail
    refine (ref_PutMsg (m := ⟨q1, by_, q3, q4, q5, q6, qa, qb, qc, qd⟩) lW HF HSH HR2 HM2).mono ?_
    rintro e w8 ⟨A8, n8, c8, rfl, hb8, hx8⟩
    rw [HER.out]
    replace x0 := hx8.cell x0
    replace b0 := hx8.cell b0
    replace x1 := hx8.cell x1
    replace b1 := hx8.cell b1
    replace x2 := hx8.cell x2
    replace b2 := hx8.cell b2
    replace x3 := hx8.cell x3
    replace b3 := hx8.cell b3
    replace x4 := hx8.cell x4
    replace b4 := hx8.cell b4
    replace x5 := hx8.cell x5
    replace b5 := hx8.cell b5
    replace x6 := hx8.cell x6
    replace b6 := hx8.cell b6
    replace x7 := hx8.cell x7
    replace b7 := hx8.cell b7
    replace x8 := hx8.cell x8
    replace b8 := hx8.cell b8
    replace x9 := hx8.cell x9
    replace b9 := hx8.cell b9
    replace gx7 := gx7.trans hx8
    replace lW := lW.ext hx8
    replace l1 := l1.ext hx8
    have tb7 := hb7.sl.ext hx8
    have tb8 := hb8.sl
    have n88 := hb8.sl.n63
    clear hx8 hb7 hb8 HER HM2
    go_wp2_with fail
    refine wp_region_typed Ext.steady rfl 127 rfl (by kernel_rfl) ?_
    apply Stage.step (Is _) [] (Is.keeps _) (by kernel_rfl)
    · intro w1 h1
      simp only [Given]
      go_wp2_with fail
      exact Post.isv (Ext.refl _) rfl rfl rfl
    apply Stage.step (Is (.string ⟨M.toArray⟩)) [true] (Is.keeps _) (by kernel_rfl)
    · intro w1 h1
      simp only [List.nil_append, Given]
      rintro _ rfl
      have tx := run_text_u8 (tb7.ext h1)
      go_wp2_with fail
      exact Post.isv (Ext.refl _) rfl rfl rfl
    apply Stage.step (Is _) [] (Is.keeps _) (by kernel_rfl)
    · intro w1 h1
      simp only [Given]
      go_wp2_with fail
      exact Post.isv (Ext.refl _) rfl rfl rfl
    apply Stage.step (Is (.string ⟨M.toArray⟩)) [false, false, true] (Is.keeps _) (by kernel_rfl)
    · intro w1 h1
      simp only [List.nil_append, List.cons_append, Given]
      rintro _ rfl
      have tx := run_text_u8 (tb8.ext h1)
      go_wp2_with fail
      exact Post.isv (Ext.refl _) rfl rfl rfl
    apply Stage.step (Is (.bool true)) [false, true, false, true] (Is.keeps _) (by kernel_rfl)
    · intro w1 h1
      simp only [List.nil_append, List.cons_append, Given]
      rintro _ rfl
      rintro _ rfl
      go_wp2_with fail
      exact Post.isv (Ext.refl _) rfl rfl rfl
    apply Stage.step (Is _) [false, false, false, false, true] (Is.keeps _) (by kernel_rfl)
    · intro w1 h1
      simp only [List.nil_append, List.cons_append, Given]
      rintro _ rfl
      go_wp2_with fail
      exact Post.isv (Ext.refl _) rfl rfl rfl
    apply Stage.step (Is _) [false, false, false, false, false, true] (Is.keeps _) (by kernel_rfl)
    · intro w1 h1
      simp only [List.nil_append, List.cons_append, Given]
      rintro _ rfl
      go_wp2_with fail
      exact Post.isv (Ext.refl _) rfl rfl rfl
    apply Stage.step (Is _) [false, false, false, false, false, true] (Is.keeps _) (by kernel_rfl)
    · intro w1 h1
      simp only [List.nil_append, List.cons_append, Given]
      rintro _ rfl
      go_wp2_with fail
      exact Post.isv (Ext.refl _) rfl rfl rfl
    apply Stage.step (Is (.bool true)) [false, false, false, false, false, true, true, true] (Is.keeps _) (by kernel_rfl)
    · intro w1 h1
      simp only [List.nil_append, List.cons_append, Given]
      rintro _ rfl
      rintro _ rfl
      rintro _ rfl
      go_wp2_with fail
      exact Post.isv (Ext.refl _) rfl rfl rfl
    apply Stage.step (Is (.bool true)) [false, false, false, false, false, true, false, false, true] (Is.keeps _) (by kernel_rfl)
    · intro w1 h1
      simp only [List.nil_append, List.cons_append, Given]
      rintro _ rfl
      rintro _ rfl
      go_wp2_with fail
      exact Post.isv (Ext.refl _) rfl rfl rfl
    apply Stage.step (Is _) [false, false, false, false, false, false, false, false, false, true] (Is.keeps _) (by kernel_rfl)
    · intro w1 h1
      simp only [List.nil_append, List.cons_append, Given]
      rintro _ rfl
      go_wp2_with fail
      exact Post.isv (Ext.refl _) rfl rfl rfl
    apply Stage.step (Is (msV ⟨q1, by_, q3, q4, q5, q6, qa, qb, qc, qd⟩ U1 Un1 Uc1 U2 Un2 Uc2 U3 Un3 Uc3 U4 Un4 Uc4)) [false, false, false, false, false, false, false, false, false, false, true] (Is.keeps _) (by kernel_rfl)
    · intro w1 h1
      simp only [List.nil_append, List.cons_append, Given]
      rintro _ rfl
      have uu0 := h1.cell x0
      have uu1 := h1.cell x1
      have uu2 := h1.cell x2
      have uu3 := h1.cell x3
      have uu4 := h1.cell x4
      have uu5 := h1.cell x5
      have uu6 := h1.cell x6
      have uu7 := h1.cell x7
      have uu8 := h1.cell x8
      have uu9 := h1.cell x9
      go_wp2_with fail
      exact Post.isv (Ext.refl _) rfl rfl rfl
    apply Stage.step (Is (.bool r)) [false, false, false, false, false, false, false, false, false, false, true, true] (Is.keeps _) (by kernel_rfl)
    · intro w1 h1
      simp only [List.nil_append, List.cons_append, Given]
      rintro _ rfl
      rintro _ rfl
      go_wp2_with fail
      refine (msg_Right (m := ⟨q1, by_, q3, q4, q5, q6, qa, qb, qc, qd⟩) (lW.ext h1) HF HSH HR2).mono ?_
      rintro e w2 ⟨rfl, hx2⟩
      go_wp2_with fail
      exact Post.isv hx2 rfl rfl rfl
    apply Stage.step (Is (msV ⟨q1, by_, q3, q4, q5, q6, qa, qb, qc, qd⟩ U1 Un1 Uc1 U2 Un2 Uc2 U3 Un3 Uc3 U4 Un4 Uc4)) [false, false, false, false, false, false, false, false, false, false, true] (Is.keeps _) (by kernel_rfl)
    · intro w1 h1
      simp only [List.nil_append, List.cons_append, Given]
      rintro _ rfl
      have uu0 := h1.cell x0
      have uu1 := h1.cell x1
      have uu2 := h1.cell x2
      have uu3 := h1.cell x3
      have uu4 := h1.cell x4
      have uu5 := h1.cell x5
      have uu6 := h1.cell x6
      have uu7 := h1.cell x7
      have uu8 := h1.cell x8
      have uu9 := h1.cell x9
      go_wp2_with fail
      exact Post.isv (Ext.refl _) rfl rfl rfl
    apply Stage.step (Is (.bool r)) [false, false, false, false, false, false, false, false, false, false, true, false, false, true] (Is.keeps _) (by kernel_rfl)
    · intro w1 h1
      simp only [List.nil_append, List.cons_append, Given]
      rintro _ rfl
      rintro _ rfl
      go_wp2_with fail
      refine (ref_RightMsg (m := ⟨q1, by_, q3, q4, q5, q6, qa, qb, qc, qd⟩) (lW.ext h1) HF HSH HR2).mono ?_
      rintro e w2 ⟨rfl, hx2⟩
      go_wp2_with fail
      exact Post.isv hx2 rfl rfl rfl
    apply Stage.step (Is (.bool true)) [false, false, false, false, false, false, false, false, false, false, true, false, true, false, true] (Is.keeps _) (by kernel_rfl)
    · intro w1 h1
      simp only [List.nil_append, List.cons_append, Given]
      rintro _ rfl
      rintro _ rfl
      rintro _ rfl
      go_wp2_with fail
      exact Post.isv (Ext.refl _) rfl rfl rfl
    apply Stage.step (Is (.bool true)) [false, false, false, false, false, false, false, false, false, false, true, false, false, false, false, true] (Is.keeps _) (by kernel_rfl)
    · intro w1 h1
      simp only [List.nil_append, List.cons_append, Given]
      rintro _ rfl
      rintro _ rfl
      go_wp2_with fail
      exact Post.isv (Ext.refl _) rfl rfl rfl
    apply Stage.step (Is _) [false, false, false, false, false, false, false, false, false, false, false, false, false, false, false, false, true] (Is.keeps _) (by kernel_rfl)
    · intro w1 h1
      simp only [List.nil_append, List.cons_append, Given]
      rintro _ rfl
      go_wp2_with fail
      exact Post.isv (Ext.refl _) rfl rfl rfl
    apply Stage.step (Is (msV ⟨q1, q2, q3, q4, q5, q6, qa, qb, qc, qd⟩ U1 Un1 Uc1 U2 Un2 Uc2 U3 Un3 Uc3 U4 Un4 Uc4)) [false, false, false, false, false, false, false, false, false, false, false, false, false, false, false, false, false, true] (Is.keeps _) (by kernel_rfl)
    · intro w1 h1
      simp only [List.nil_append, List.cons_append, Given]
      rintro _ rfl
      have uu0 := h1.cell b0
      have uu1 := h1.cell b1
      have uu2 := h1.cell b2
      have uu3 := h1.cell b3
      have uu4 := h1.cell b4
      have uu5 := h1.cell b5
      have uu6 := h1.cell b6
      have uu7 := h1.cell b7
      have uu8 := h1.cell b8
      have uu9 := h1.cell b9
      go_wp2_with fail
      exact Post.isv (Ext.refl _) rfl rfl rfl
    apply Stage.step (Is (.bool true)) [false, false, false, false, false, false, false, false, false, false, false, false, false, false, false, false, false, true, true] (Is.keeps _) (by kernel_rfl)
    · intro w1 h1
      simp only [List.nil_append, List.cons_append, Given]
      rintro _ rfl
      rintro _ rfl
      go_wp2_with fail
      refine (msg_Right (m := ⟨q1, q2, q3, q4, q5, q6, qa, qb, qc, qd⟩) (l1.ext h1) HF HSH HR).mono ?_
      rintro e w2 ⟨rfl, hx2⟩
      go_wp2_with fail
      exact Post.isv hx2 rfl rfl rfl
    apply Stage.step (Is (.bool true)) [false, false, false, false, false, false, false, false, false, false, false, false, false, false, false, false, false, true, false, true] (Is.keeps _) (by kernel_rfl)
    · intro w1 h1
      simp only [List.nil_append, List.cons_append, Given]
      rintro _ rfl
      rintro _ rfl
      go_wp2_with fail
      exact Post.isv (Ext.refl _) rfl rfl rfl
    apply Stage.step (Is _) [false, false, false, false, false, false, false, false, false, false, false, false, false, false, false, false, false, false, false, false, true] (Is.keeps _) (by kernel_rfl)
    · intro w1 h1
      simp only [List.nil_append, List.cons_append, Given]
      rintro _ rfl
      go_wp2_with fail
      exact Post.isv (Ext.refl _) rfl rfl rfl
    apply Stage.step (Is (.bool true)) [false, false, false, false, false, false, false, false, false, false, false, false, false, false, false, false, false, false, false, false, false, true] (Is.keeps _) (by kernel_rfl)
    · intro w1 h1
      simp only [List.nil_append, List.cons_append, Given]
      rintro _ rfl
      go_wp2_with fail
      refine (law9_known _).mono ?_
      rintro e w2 ⟨rfl, hx2⟩
      go_wp2_with fail
      exact Post.isv hx2 rfl rfl rfl
    apply Stage.step (Is (.bool true)) [false, false, false, false, false, false, false, false, false, false, false, false, false, false, false, false, false, false, false, false, false, true, true] (Is.keeps _) (by kernel_rfl)
    · intro w1 h1
      simp only [List.nil_append, List.cons_append, Given]
      rintro _ rfl
      rintro _ rfl
      go_wp2_with fail
      exact Post.isv (Ext.refl _) rfl rfl rfl
    apply Stage.step (Is _) [false, false, false, false, false, false, false, false, false, false, false, false, false, false, false, false, false, false, false, false, false, false, false, true] (Is.keeps _) (by kernel_rfl)
    · intro w1 h1
      simp only [List.nil_append, List.cons_append, Given]
      rintro _ rfl
      go_wp2_with fail
      exact Post.isv (Ext.refl _) rfl rfl rfl
    apply Stage.nil
    intro w1 h1
    simp only [List.nil_append, List.cons_append]
    refine Fin.is_ ?_
    refine Fin.is_ ?_
    refine Fin.is_ ?_
    refine Fin.is_ ?_
    refine Fin.is_ ?_
    refine Fin.is_ ?_
    refine Fin.is_ ?_
    refine Fin.is_ ?_
    refine Fin.is_ ?_
    refine Fin.is_ ?_
    refine Fin.is_ ?_
    refine Fin.is_ ?_
    refine Fin.is_ ?_
    refine Fin.is_ ?_
    refine Fin.is_ ?_
    refine Fin.is_ ?_
    refine Fin.is_ ?_
    refine Fin.is_ ?_
    refine Fin.is_ ?_
    refine Fin.is_ ?_
    refine Fin.is_ ?_
    refine Fin.is_ ?_
    refine Fin.is_ ?_
    refine Fin.is_ ?_
    refine Fin.is_ ?_
    refine Fin.nil_ ?_
    go_simp
    go_wp2_with fail
    go_ret
    exact ⟨rfl, gx7.trans h1⟩
  · skip
    go_wp2_with fail
    obtain ⟨wf, hwf⟩ : ∃ q, q = w3.alloc (.cells #[.int .i64 q1, .int .i64 q2, .int .i64 by_, .int .i64 q4, .int .i64 q5, .int .i64 q6, .slice U1 Un1 Uc1, .slice U2 Un2 Uc2, .slice U3 Un3 Uc3, .slice U4 Un4 Uc4] TMs) := ⟨_, rfl⟩
    have hx3f : Ext w3 wf := by rw [hwf]; exact Ext.alloc _ _
    have LW : Hid (MsR wf ⟨q1, q2, by_, q4, q5, q6, qa, qb, qc, qd⟩ U1 Un1 Uc1 U2 Un2 Uc2 U3 Un3 Uc3 U4 Un4 Uc4) := ⟨(l1.ext hx3f).ch, (l1.ext hx3f).en, (l1.ext hx3f).ms, (l1.ext hx3f).da⟩
    have x0 := cell_new w3 #[.int .i64 q1, .int .i64 q2, .int .i64 by_, .int .i64 q4, .int .i64 q5, .int .i64 q6, .slice U1 Un1 Uc1, .slice U2 Un2 Uc2, .slice U3 Un3 Uc3, .slice U4 Un4 Uc4] TMs 0
    replace b0 := hx3f.cell b0
    have x1 := cell_new w3 #[.int .i64 q1, .int .i64 q2, .int .i64 by_, .int .i64 q4, .int .i64 q5, .int .i64 q6, .slice U1 Un1 Uc1, .slice U2 Un2 Uc2, .slice U3 Un3 Uc3, .slice U4 Un4 Uc4] TMs 1
    replace b1 := hx3f.cell b1
    have x2 := cell_new w3 #[.int .i64 q1, .int .i64 q2, .int .i64 by_, .int .i64 q4, .int .i64 q5, .int .i64 q6, .slice U1 Un1 Uc1, .slice U2 Un2 Uc2, .slice U3 Un3 Uc3, .slice U4 Un4 Uc4] TMs 2
    replace b2 := hx3f.cell b2
    have x3 := cell_new w3 #[.int .i64 q1, .int .i64 q2, .int .i64 by_, .int .i64 q4, .int .i64 q5, .int .i64 q6, .slice U1 Un1 Uc1, .slice U2 Un2 Uc2, .slice U3 Un3 Uc3, .slice U4 Un4 Uc4] TMs 3
    replace b3 := hx3f.cell b3
    have x4 := cell_new w3 #[.int .i64 q1, .int .i64 q2, .int .i64 by_, .int .i64 q4, .int .i64 q5, .int .i64 q6, .slice U1 Un1 Uc1, .slice U2 Un2 Uc2, .slice U3 Un3 Uc3, .slice U4 Un4 Uc4] TMs 4
    replace b4 := hx3f.cell b4
    have x5 := cell_new w3 #[.int .i64 q1, .int .i64 q2, .int .i64 by_, .int .i64 q4, .int .i64 q5, .int .i64 q6, .slice U1 Un1 Uc1, .slice U2 Un2 Uc2, .slice U3 Un3 Uc3, .slice U4 Un4 Uc4] TMs 5
    replace b5 := hx3f.cell b5
    have x6 := cell_new w3 #[.int .i64 q1, .int .i64 q2, .int .i64 by_, .int .i64 q4, .int .i64 q5, .int .i64 q6, .slice U1 Un1 Uc1, .slice U2 Un2 Uc2, .slice U3 Un3 Uc3, .slice U4 Un4 Uc4] TMs 6
    replace b6 := hx3f.cell b6
    have x7 := cell_new w3 #[.int .i64 q1, .int .i64 q2, .int .i64 by_, .int .i64 q4, .int .i64 q5, .int .i64 q6, .slice U1 Un1 Uc1, .slice U2 Un2 Uc2, .slice U3 Un3 Uc3, .slice U4 Un4 Uc4] TMs 7
    replace b7 := hx3f.cell b7
    have x8 := cell_new w3 #[.int .i64 q1, .int .i64 q2, .int .i64 by_, .int .i64 q4, .int .i64 q5, .int .i64 q6, .slice U1 Un1 Uc1, .slice U2 Un2 Uc2, .slice U3 Un3 Uc3, .slice U4 Un4 Uc4] TMs 8
    replace b8 := hx3f.cell b8
    have x9 := cell_new w3 #[.int .i64 q1, .int .i64 q2, .int .i64 by_, .int .i64 q4, .int .i64 q5, .int .i64 q6, .slice U1 Un1 Uc1, .slice U2 Un2 Uc2, .slice U3 Un3 Uc3, .slice U4 Un4 Uc4] TMs 9
    replace b9 := hx3f.cell b9
    rw [← hwf] at x0 x1 x2 x3 x4 x5 x6 x7 x8 x9
    rw [← hwf]
    clear hwf
    have GXW := Lib.hid (gx1.trans hx3f)
    replace l1 := l1.ext hx3f
    clear hx3f gx1
    obtain ⟨r, hr⟩ : ∃ q, rightM ⟨q1, q2, by_, q4, q5, q6, qa, qb, qc, qd⟩ = q := ⟨_, rfl⟩
    have HR2 := Lib.hid hr
    obtain ⟨M, hM⟩ : ∃ q, putMr ⟨q1, q2, by_, q4, q5, q6, qa, qb, qc, qd⟩ r = q := ⟨_, rfl⟩
    have HM2 := Lib.hid hM
    clear hr hM
    refine (msg_Put (m := ⟨q1, q2, by_, q4, q5, q6, qa, qb, qc, qd⟩) LW.out HF HSH HR2 HM2).mono ?_
    rintro e w7 ⟨A7, n7, c7, rfl, hb7, hx7⟩
    obtain ⟨er, her⟩ : ∃ q : Int, (if r = true then (0 : Int) else 1) = q := ⟨_, rfl⟩
    rw [her]
    have HER := Lib.hid her
    clear her
    replace x0 := hx7.cell x0
    replace b0 := hx7.cell b0
    replace x1 := hx7.cell x1
    replace b1 := hx7.cell b1
    replace x2 := hx7.cell x2
    replace b2 := hx7.cell b2
    replace x3 := hx7.cell x3
    replace b3 := hx7.cell b3
    replace x4 := hx7.cell x4
    replace b4 := hx7.cell b4
    replace x5 := hx7.cell x5
    replace b5 := hx7.cell b5
    replace x6 := hx7.cell x6
    replace b6 := hx7.cell b6
    replace x7 := hx7.cell x7
    replace b7 := hx7.cell b7
    replace x8 := hx7.cell x8
    replace b8 := hx7.cell b8
    replace x9 := hx7.cell x9
    replace b9 := hx7.cell b9
    have gx7 := GXW.out.trans hx7
    have lW := LW.out.ext hx7
    replace l1 := l1.ext hx7
    have n77 := hb7.sl.n63
    clear GXW hx7 LW
    go_wp2_with fail
    refine (ref_PutMsg (m := ⟨q1, q2, by_, q4, q5, q6, qa, qb, qc, qd⟩) lW HF HSH HR2 HM2).mono ?_
    rintro e w8 ⟨A8, n8, c8, rfl, hb8, hx8⟩
    rw [HER.out]
    replace x0 := hx8.cell x0
    replace b0 := hx8.cell b0
    replace x1 := hx8.cell x1
    replace b1 := hx8.cell b1
    replace x2 := hx8.cell x2
    replace b2 := hx8.cell b2
    replace x3 := hx8.cell x3
    replace b3 := hx8.cell b3
    replace x4 := hx8.cell x4
    replace b4 := hx8.cell b4
    replace x5 := hx8.cell x5
    replace b5 := hx8.cell b5
    replace x6 := hx8.cell x6
    replace b6 := hx8.cell b6
    replace x7 := hx8.cell x7
    replace b7 := hx8.cell b7
    replace x8 := hx8.cell x8
    replace b8 := hx8.cell b8
    replace x9 := hx8.cell x9
    replace b9 := hx8.cell b9
    replace gx7 := gx7.trans hx8
    replace lW := lW.ext hx8
    replace l1 := l1.ext hx8
    have tb7 := hb7.sl.ext hx8
    have tb8 := hb8.sl
    have n88 := hb8.sl.n63
    clear hx8 hb7 hb8 HER HM2
    go_wp2_with fail
    refine wp_region_typed Ext.steady rfl 127 rfl (by kernel_rfl) ?_
    apply Stage.step (Is _) [] (Is.keeps _) (by kernel_rfl)
    · intro w1 h1
      simp only [Given]
      go_wp2_with fail
      exact Post.isv (Ext.refl _) rfl rfl rfl
    apply Stage.step (Is (.string ⟨M.toArray⟩)) [true] (Is.keeps _) (by kernel_rfl)
    · intro w1 h1
      simp only [List.nil_append, Given]
      rintro _ rfl
      have tx := run_text_u8 (tb7.ext h1)
      go_wp2_with fail
      exact Post.isv (Ext.refl _) rfl rfl rfl
    apply Stage.step (Is _) [] (Is.keeps _) (by kernel_rfl)
    · intro w1 h1
      simp only [Given]
      go_wp2_with fail
      exact Post.isv (Ext.refl _) rfl rfl rfl
    apply Stage.step (Is (.string ⟨M.toArray⟩)) [false, false, true] (Is.keeps _) (by kernel_rfl)
    · intro w1 h1
      simp only [List.nil_append, List.cons_append, Given]
      rintro _ rfl
      have tx := run_text_u8 (tb8.ext h1)
      go_wp2_with fail
      exact Post.isv (Ext.refl _) rfl rfl rfl
    apply Stage.step (Is (.bool true)) [false, true, false, true] (Is.keeps _) (by kernel_rfl)
    · intro w1 h1
      simp only [List.nil_append, List.cons_append, Given]
      rintro _ rfl
      rintro _ rfl
      go_wp2_with fail
      exact Post.isv (Ext.refl _) rfl rfl rfl
    apply Stage.step (Is _) [false, false, false, false, true] (Is.keeps _) (by kernel_rfl)
    · intro w1 h1
      simp only [List.nil_append, List.cons_append, Given]
      rintro _ rfl
      go_wp2_with fail
      exact Post.isv (Ext.refl _) rfl rfl rfl
    apply Stage.step (Is _) [false, false, false, false, false, true] (Is.keeps _) (by kernel_rfl)
    · intro w1 h1
      simp only [List.nil_append, List.cons_append, Given]
      rintro _ rfl
      go_wp2_with fail
      exact Post.isv (Ext.refl _) rfl rfl rfl
    apply Stage.step (Is _) [false, false, false, false, false, true] (Is.keeps _) (by kernel_rfl)
    · intro w1 h1
      simp only [List.nil_append, List.cons_append, Given]
      rintro _ rfl
      go_wp2_with fail
      exact Post.isv (Ext.refl _) rfl rfl rfl
    apply Stage.step (Is (.bool true)) [false, false, false, false, false, true, true, true] (Is.keeps _) (by kernel_rfl)
    · intro w1 h1
      simp only [List.nil_append, List.cons_append, Given]
      rintro _ rfl
      rintro _ rfl
      rintro _ rfl
      go_wp2_with fail
      exact Post.isv (Ext.refl _) rfl rfl rfl
    apply Stage.step (Is (.bool true)) [false, false, false, false, false, true, false, false, true] (Is.keeps _) (by kernel_rfl)
    · intro w1 h1
      simp only [List.nil_append, List.cons_append, Given]
      rintro _ rfl
      rintro _ rfl
      go_wp2_with fail
      exact Post.isv (Ext.refl _) rfl rfl rfl
    apply Stage.step (Is _) [false, false, false, false, false, false, false, false, false, true] (Is.keeps _) (by kernel_rfl)
    · intro w1 h1
      simp only [List.nil_append, List.cons_append, Given]
      rintro _ rfl
      go_wp2_with fail
      exact Post.isv (Ext.refl _) rfl rfl rfl
    apply Stage.step (Is (msV ⟨q1, q2, by_, q4, q5, q6, qa, qb, qc, qd⟩ U1 Un1 Uc1 U2 Un2 Uc2 U3 Un3 Uc3 U4 Un4 Uc4)) [false, false, false, false, false, false, false, false, false, false, true] (Is.keeps _) (by kernel_rfl)
    · intro w1 h1
      simp only [List.nil_append, List.cons_append, Given]
      rintro _ rfl
      have uu0 := h1.cell x0
      have uu1 := h1.cell x1
      have uu2 := h1.cell x2
      have uu3 := h1.cell x3
      have uu4 := h1.cell x4
      have uu5 := h1.cell x5
      have uu6 := h1.cell x6
      have uu7 := h1.cell x7
      have uu8 := h1.cell x8
      have uu9 := h1.cell x9
      go_wp2_with fail
      exact Post.isv (Ext.refl _) rfl rfl rfl
    apply Stage.step (Is (.bool r)) [false, false, false, false, false, false, false, false, false, false, true, true] (Is.keeps _) (by kernel_rfl)
    · intro w1 h1
      simp only [List.nil_append, List.cons_append, Given]
      rintro _ rfl
      rintro _ rfl
      go_wp2_with fail
      refine (msg_Right (m := ⟨q1, q2, by_, q4, q5, q6, qa, qb, qc, qd⟩) (lW.ext h1) HF HSH HR2).mono ?_
      rintro e w2 ⟨rfl, hx2⟩
      go_wp2_with fail
      exact Post.isv hx2 rfl rfl rfl
    apply Stage.step (Is (msV ⟨q1, q2, by_, q4, q5, q6, qa, qb, qc, qd⟩ U1 Un1 Uc1 U2 Un2 Uc2 U3 Un3 Uc3 U4 Un4 Uc4)) [false, false, false, false, false, false, false, false, false, false, true] (Is.keeps _) (by kernel_rfl)
    · intro w1 h1
      simp only [List.nil_append, List.cons_append, Given]
      rintro _ rfl
      have uu0 := h1.cell x0
      have uu1 := h1.cell x1
      have uu2 := h1.cell x2
      have uu3 := h1.cell x3
      have uu4 := h1.cell x4
      have uu5 := h1.cell x5
      have uu6 := h1.cell x6
      have uu7 := h1.cell x7
      have uu8 := h1.cell x8
      have uu9 := h1.cell x9
      go_wp2_with fail
      exact Post.isv (Ext.refl _) rfl rfl rfl
    apply Stage.step (Is (.bool r)) [false, false, false, false, false, false, false, false, false, false, true, false, false, true] (Is.keeps _) (by kernel_rfl)
    · intro w1 h1
      simp only [List.nil_append, List.cons_append, Given]
      rintro _ rfl
      rintro _ rfl
      go_wp2_with fail
      refine (ref_RightMsg (m := ⟨q1, q2, by_, q4, q5, q6, qa, qb, qc, qd⟩) (lW.ext h1) HF HSH HR2).mono ?_
      rintro e w2 ⟨rfl, hx2⟩
      go_wp2_with fail
      exact Post.isv hx2 rfl rfl rfl
    apply Stage.step (Is (.bool true)) [false, false, false, false, false, false, false, false, false, false, true, false, true, false, true] (Is.keeps _) (by kernel_rfl)
    · intro w1 h1
      simp only [List.nil_append, List.cons_append, Given]
      rintro _ rfl
      rintro _ rfl
      rintro _ rfl
      go_wp2_with fail
      exact Post.isv (Ext.refl _) rfl rfl rfl
    apply Stage.step (Is (.bool true)) [false, false, false, false, false, false, false, false, false, false, true, false, false, false, false, true] (Is.keeps _) (by kernel_rfl)
    · intro w1 h1
      simp only [List.nil_append, List.cons_append, Given]
      rintro _ rfl
      rintro _ rfl
      go_wp2_with fail
      exact Post.isv (Ext.refl _) rfl rfl rfl
    apply Stage.step (Is _) [false, false, false, false, false, false, false, false, false, false, false, false, false, false, false, false, true] (Is.keeps _) (by kernel_rfl)
    · intro w1 h1
      simp only [List.nil_append, List.cons_append, Given]
      rintro _ rfl
      go_wp2_with fail
      exact Post.isv (Ext.refl _) rfl rfl rfl
    apply Stage.step (Is (msV ⟨q1, q2, q3, q4, q5, q6, qa, qb, qc, qd⟩ U1 Un1 Uc1 U2 Un2 Uc2 U3 Un3 Uc3 U4 Un4 Uc4)) [false, false, false, false, false, false, false, false, false, false, false, false, false, false, false, false, false, true] (Is.keeps _) (by kernel_rfl)
    · intro w1 h1
      simp only [List.nil_append, List.cons_append, Given]
      rintro _ rfl
      have uu0 := h1.cell b0
      have uu1 := h1.cell b1
      have uu2 := h1.cell b2
      have uu3 := h1.cell b3
      have uu4 := h1.cell b4
      have uu5 := h1.cell b5
      have uu6 := h1.cell b6
      have uu7 := h1.cell b7
      have uu8 := h1.cell b8
      have uu9 := h1.cell b9
      go_wp2_with fail
      exact Post.isv (Ext.refl _) rfl rfl rfl
    apply Stage.step (Is (.bool true)) [false, false, false, false, false, false, false, false, false, false, false, false, false, false, false, false, false, true, true] (Is.keeps _) (by kernel_rfl)
    · intro w1 h1
      simp only [List.nil_append, List.cons_append, Given]
      rintro _ rfl
      rintro _ rfl
      go_wp2_with fail
      refine (msg_Right (m := ⟨q1, q2, q3, q4, q5, q6, qa, qb, qc, qd⟩) (l1.ext h1) HF HSH HR).mono ?_
      rintro e w2 ⟨rfl, hx2⟩
      go_wp2_with fail
      exact Post.isv hx2 rfl rfl rfl
    apply Stage.step (Is (.bool true)) [false, false, false, false, false, false, false, false, false, false, false, false, false, false, false, false, false, true, false, true] (Is.keeps _) (by kernel_rfl)
    · intro w1 h1
      simp only [List.nil_append, List.cons_append, Given]
      rintro _ rfl
      rintro _ rfl
      go_wp2_with fail
      exact Post.isv (Ext.refl _) rfl rfl rfl
    apply Stage.step (Is _) [false, false, false, false, false, false, false, false, false, false, false, false, false, false, false, false, false, false, false, false, true] (Is.keeps _) (by kernel_rfl)
    · intro w1 h1
      simp only [List.nil_append, List.cons_append, Given]
      rintro _ rfl
      go_wp2_with fail
      exact Post.isv (Ext.refl _) rfl rfl rfl
    apply Stage.step (Is (.bool true)) [false, false, false, false, false, false, false, false, false, false, false, false, false, false, false, false, false, false, false, false, false, true] (Is.keeps _) (by kernel_rfl)
    · intro w1 h1
      simp only [List.nil_append, List.cons_append, Given]
      rintro _ rfl
      go_wp2_with fail
      refine (law9_known _).mono ?_
      rintro e w2 ⟨rfl, hx2⟩
      go_wp2_with fail
      exact Post.isv hx2 rfl rfl rfl
    apply Stage.step (Is (.bool true)) [false, false, false, false, false, false, false, false, false, false, false, false, false, false, false, false, false, false, false, false, false, true, true] (Is.keeps _) (by kernel_rfl)
    · intro w1 h1
      simp only [List.nil_append, List.cons_append, Given]
      rintro _ rfl
      rintro _ rfl
      go_wp2_with fail
      exact Post.isv (Ext.refl _) rfl rfl rfl
    apply Stage.step (Is _) [false, false, false, false, false, false, false, false, false, false, false, false, false, false, false, false, false, false, false, false, false, false, false, true] (Is.keeps _) (by kernel_rfl)
    · intro w1 h1
      simp only [List.nil_append, List.cons_append, Given]
      rintro _ rfl
      go_wp2_with fail
      exact Post.isv (Ext.refl _) rfl rfl rfl
    apply Stage.nil
    intro w1 h1
    simp only [List.nil_append, List.cons_append]
    refine Fin.is_ ?_
    refine Fin.is_ ?_
    refine Fin.is_ ?_
    refine Fin.is_ ?_
    refine Fin.is_ ?_
    refine Fin.is_ ?_
    refine Fin.is_ ?_
    refine Fin.is_ ?_
    refine Fin.is_ ?_
    refine Fin.is_ ?_
    refine Fin.is_ ?_
    refine Fin.is_ ?_
    refine Fin.is_ ?_
    refine Fin.is_ ?_
    refine Fin.is_ ?_
    refine Fin.is_ ?_
    refine Fin.is_ ?_
    refine Fin.is_ ?_
    refine Fin.is_ ?_
    refine Fin.is_ ?_
    refine Fin.is_ ?_
    refine Fin.is_ ?_
    refine Fin.is_ ?_
    refine Fin.is_ ?_
    refine Fin.is_ ?_
    refine Fin.nil_ ?_
    go_simp
    go_wp2_with fail
    go_ret
    exact ⟨rfl, gx7.trans h1⟩
  · skip
    go_wp2_with fail
    obtain ⟨wf, hwf⟩ : ∃ q, q = w3.alloc (.cells #[.int .i64 q1, .int .i64 q2, .int .i64 q3, .int .i64 by_, .int .i64 q5, .int .i64 q6, .slice U1 Un1 Uc1, .slice U2 Un2 Uc2, .slice U3 Un3 Uc3, .slice U4 Un4 Uc4] TMs) := ⟨_, rfl⟩
    have hx3f : Ext w3 wf := by rw [hwf]; exact Ext.alloc _ _
    have LW : Hid (MsR wf ⟨q1, q2, q3, by_, q5, q6, qa, qb, qc, qd⟩ U1 Un1 Uc1 U2 Un2 Uc2 U3 Un3 Uc3 U4 Un4 Uc4) := ⟨(l1.ext hx3f).ch, (l1.ext hx3f).en, (l1.ext hx3f).ms, (l1.ext hx3f).da⟩
    have x0 := cell_new w3 #[.int .i64 q1, .int .i64 q2, .int .i64 q3, .int .i64 by_, .int .i64 q5, .int .i64 q6, .slice U1 Un1 Uc1, .slice U2 Un2 Uc2, .slice U3 Un3 Uc3, .slice U4 Un4 Uc4] TMs 0
    replace b0 := hx3f.cell b0
    have x1 := cell_new w3 #[.int .i64 q1, .int .i64 q2, .int .i64 q3, .int .i64 by_, .int .i64 q5, .int .i64 q6, .slice U1 Un1 Uc1, .slice U2 Un2 Uc2, .slice U3 Un3 Uc3, .slice U4 Un4 Uc4] TMs 1
    replace b1 := hx3f.cell b1
    have x2 := cell_new w3 #[.int .i64 q1, .int .i64 q2, .int .i64 q3, .int .i64 by_, .int .i64 q5, .int .i64 q6, .slice U1 Un1 Uc1, .slice U2 Un2 Uc2, .slice U3 Un3 Uc3, .slice U4 Un4 Uc4] TMs 2
    replace b2 := hx3f.cell b2
    have x3 := cell_new w3 #[.int .i64 q1, .int .i64 q2, .int .i64 q3, .int .i64 by_, .int .i64 q5, .int .i64 q6, .slice U1 Un1 Uc1, .slice U2 Un2 Uc2, .slice U3 Un3 Uc3, .slice U4 Un4 Uc4] TMs 3
    replace b3 := hx3f.cell b3
    have x4 := cell_new w3 #[.int .i64 q1, .int .i64 q2, .int .i64 q3, .int .i64 by_, .int .i64 q5, .int .i64 q6, .slice U1 Un1 Uc1, .slice U2 Un2 Uc2, .slice U3 Un3 Uc3, .slice U4 Un4 Uc4] TMs 4
    replace b4 := hx3f.cell b4
    have x5 := cell_new w3 #[.int .i64 q1, .int .i64 q2, .int .i64 q3, .int .i64 by_, .int .i64 q5, .int .i64 q6, .slice U1 Un1 Uc1, .slice U2 Un2 Uc2, .slice U3 Un3 Uc3, .slice U4 Un4 Uc4] TMs 5
    replace b5 := hx3f.cell b5
    have x6 := cell_new w3 #[.int .i64 q1, .int .i64 q2, .int .i64 q3, .int .i64 by_, .int .i64 q5, .int .i64 q6, .slice U1 Un1 Uc1, .slice U2 Un2 Uc2, .slice U3 Un3 Uc3, .slice U4 Un4 Uc4] TMs 6
    replace b6 := hx3f.cell b6
    have x7 := cell_new w3 #[.int .i64 q1, .int .i64 q2, .int .i64 q3, .int .i64 by_, .int .i64 q5, .int .i64 q6, .slice U1 Un1 Uc1, .slice U2 Un2 Uc2, .slice U3 Un3 Uc3, .slice U4 Un4 Uc4] TMs 7
    replace b7 := hx3f.cell b7
    have x8 := cell_new w3 #[.int .i64 q1, .int .i64 q2, .int .i64 q3, .int .i64 by_, .int .i64 q5, .int .i64 q6, .slice U1 Un1 Uc1, .slice U2 Un2 Uc2, .slice U3 Un3 Uc3, .slice U4 Un4 Uc4] TMs 8
    replace b8 := hx3f.cell b8
    have x9 := cell_new w3 #[.int .i64 q1, .int .i64 q2, .int .i64 q3, .int .i64 by_, .int .i64 q5, .int .i64 q6, .slice U1 Un1 Uc1, .slice U2 Un2 Uc2, .slice U3 Un3 Uc3, .slice U4 Un4 Uc4] TMs 9
    replace b9 := hx3f.cell b9
    rw [← hwf] at x0 x1 x2 x3 x4 x5 x6 x7 x8 x9
    rw [← hwf]
    clear hwf
    have GXW := Lib.hid (gx1.trans hx3f)
    replace l1 := l1.ext hx3f
    clear hx3f gx1
    obtain ⟨r, hr⟩ : ∃ q, rightM ⟨q1, q2, q3, by_, q5, q6, qa, qb, qc, qd⟩ = q := ⟨_, rfl⟩
    have HR2 := Lib.hid hr
    obtain ⟨M, hM⟩ : ∃ q, putMr ⟨q1, q2, q3, by_, q5, q6, qa, qb, qc, qd⟩ r = q := ⟨_, rfl⟩
    have HM2 := Lib.hid hM
    clear hr hM
    refine (msg_Put (m := ⟨q1, q2, q3, by_, q5, q6, qa, qb, qc, qd⟩) LW.out HF HSH HR2 HM2).mono ?_
    rintro e w7 ⟨A7, n7, c7, rfl, hb7, hx7⟩
    obtain ⟨er, her⟩ : ∃ q : Int, (if r = true then (0 : Int) else 1) = q := ⟨_, rfl⟩
    rw [her]
    have HER := Lib.hid her
    clear her
    replace x0 := hx7.cell x0
    replace b0 := hx7.cell b0
    replace x1 := hx7.cell x1
    replace b1 := hx7.cell b1
    replace x2 := hx7.cell x2
    replace b2 := hx7.cell b2
    replace x3 := hx7.cell x3
    replace b3 := hx7.cell b3
    replace x4 := hx7.cell x4
    replace b4 := hx7.cell b4
    replace x5 := hx7.cell x5
    replace b5 := hx7.cell b5
    replace x6 := hx7.cell x6
    replace b6 := hx7.cell b6
    replace x7 := hx7.cell x7
    replace b7 := hx7.cell b7
    replace x8 := hx7.cell x8
    replace b8 := hx7.cell b8
    replace x9 := hx7.cell x9
    replace b9 := hx7.cell b9
    have gx7 := GXW.out.trans hx7
    have lW := LW.out.ext hx7
    replace l1 := l1.ext hx7
    have n77 := hb7.sl.n63
    clear GXW hx7 LW
    go_wp2_with fail
    refine (ref_PutMsg (m := ⟨q1, q2, q3, by_, q5, q6, qa, qb, qc, qd⟩) lW HF HSH HR2 HM2).mono ?_
    rintro e w8 ⟨A8, n8, c8, rfl, hb8, hx8⟩
    rw [HER.out]
    replace x0 := hx8.cell x0
    replace b0 := hx8.cell b0
    replace x1 := hx8.cell x1
    replace b1 := hx8.cell b1
    replace x2 := hx8.cell x2
    replace b2 := hx8.cell b2
    replace x3 := hx8.cell x3
    replace b3 := hx8.cell b3
    replace x4 := hx8.cell x4
    replace b4 := hx8.cell b4
    replace x5 := hx8.cell x5
    replace b5 := hx8.cell b5
    replace x6 := hx8.cell x6
    replace b6 := hx8.cell b6
    replace x7 := hx8.cell x7
    replace b7 := hx8.cell b7
    replace x8 := hx8.cell x8
    replace b8 := hx8.cell b8
    replace x9 := hx8.cell x9
    replace b9 := hx8.cell b9
    replace gx7 := gx7.trans hx8
    replace lW := lW.ext hx8
    replace l1 := l1.ext hx8
    have tb7 := hb7.sl.ext hx8
    have tb8 := hb8.sl
    have n88 := hb8.sl.n63
    clear hx8 hb7 hb8 HER HM2
    go_wp2_with fail
    refine wp_region_typed Ext.steady rfl 127 rfl (by kernel_rfl) ?_
    apply Stage.step (Is _) [] (Is.keeps _) (by kernel_rfl)
    · intro w1 h1
      simp only [Given]
      go_wp2_with fail
      exact Post.isv (Ext.refl _) rfl rfl rfl
    apply Stage.step (Is (.string ⟨M.toArray⟩)) [true] (Is.keeps _) (by kernel_rfl)
    · intro w1 h1
      simp only [List.nil_append, Given]
      rintro _ rfl
      have tx := run_text_u8 (tb7.ext h1)
      go_wp2_with fail
      exact Post.isv (Ext.refl _) rfl rfl rfl
    apply Stage.step (Is _) [] (Is.keeps _) (by kernel_rfl)
    · intro w1 h1
      simp only [Given]
      go_wp2_with fail
      exact Post.isv (Ext.refl _) rfl rfl rfl
    apply Stage.step (Is (.string ⟨M.toArray⟩)) [false, false, true] (Is.keeps _) (by kernel_rfl)
    · intro w1 h1
      simp only [List.nil_append, List.cons_append, Given]
      rintro _ rfl
      have tx := run_text_u8 (tb8.ext h1)
      go_wp2_with fail
      exact Post.isv (Ext.refl _) rfl rfl rfl
    apply Stage.step (Is (.bool true)) [false, true, false, true] (Is.keeps _) (by kernel_rfl)
    · intro w1 h1
      simp only [List.nil_append, List.cons_append, Given]
      rintro _ rfl
      rintro _ rfl
      go_wp2_with fail
      exact Post.isv (Ext.refl _) rfl rfl rfl
    apply Stage.step (Is _) [false, false, false, false, true] (Is.keeps _) (by kernel_rfl)
    · intro w1 h1
      simp only [List.nil_append, List.cons_append, Given]
      rintro _ rfl
      go_wp2_with fail
      exact Post.isv (Ext.refl _) rfl rfl rfl
    apply Stage.step (Is _) [false, false, false, false, false, true] (Is.keeps _) (by kernel_rfl)
    · intro w1 h1
      simp only [List.nil_append, List.cons_append, Given]
      rintro _ rfl
      go_wp2_with fail
      exact Post.isv (Ext.refl _) rfl rfl rfl
    apply Stage.step (Is _) [false, false, false, false, false, true] (Is.keeps _) (by kernel_rfl)
    · intro w1 h1
      simp only [List.nil_append, List.cons_append, Given]
      rintro _ rfl
      go_wp2_with fail
      exact Post.isv (Ext.refl _) rfl rfl rfl
    apply Stage.step (Is (.bool true)) [false, false, false, false, false, true, true, true] (Is.keeps _) (by kernel_rfl)
    · intro w1 h1
      simp only [List.nil_append, List.cons_append, Given]
      rintro _ rfl
      rintro _ rfl
      rintro _ rfl
      go_wp2_with fail
      exact Post.isv (Ext.refl _) rfl rfl rfl
    apply Stage.step (Is (.bool true)) [false, false, false, false, false, true, false, false, true] (Is.keeps _) (by kernel_rfl)
    · intro w1 h1
      simp only [List.nil_append, List.cons_append, Given]
      rintro _ rfl
      rintro _ rfl
      go_wp2_with fail
      exact Post.isv (Ext.refl _) rfl rfl rfl
    apply Stage.step (Is _) [false, false, false, false, false, false, false, false, false, true] (Is.keeps _) (by kernel_rfl)
    · intro w1 h1
      simp only [List.nil_append, List.cons_append, Given]
      rintro _ rfl
      go_wp2_with fail
      exact Post.isv (Ext.refl _) rfl rfl rfl
    apply Stage.step (Is (msV ⟨q1, q2, q3, by_, q5, q6, qa, qb, qc, qd⟩ U1 Un1 Uc1 U2 Un2 Uc2 U3 Un3 Uc3 U4 Un4 Uc4)) [false, false, false, false, false, false, false, false, false, false, true] (Is.keeps _) (by kernel_rfl)
    · intro w1 h1
      simp only [List.nil_append, List.cons_append, Given]
      rintro _ rfl
      have uu0 := h1.cell x0
      have uu1 := h1.cell x1
      have uu2 := h1.cell x2
      have uu3 := h1.cell x3
      have uu4 := h1.cell x4
      have uu5 := h1.cell x5
      have uu6 := h1.cell x6
      have uu7 := h1.cell x7
      have uu8 := h1.cell x8
      have uu9 := h1.cell x9
      go_wp2_with fail
      exact Post.isv (Ext.refl _) rfl rfl rfl
    apply Stage.step (Is (.bool r)) [false, false, false, false, false, false, false, false, false, false, true, true] (Is.keeps _) (by kernel_rfl)
    · intro w1 h1
      simp only [List.nil_append, List.cons_append, Given]
      rintro _ rfl
      rintro _ rfl
      go_wp2_with fail
      refine (msg_Right (m := ⟨q1, q2, q3, by_, q5, q6, qa, qb, qc, qd⟩) (lW.ext h1) HF HSH HR2).mono ?_
      rintro e w2 ⟨rfl, hx2⟩
      go_wp2_with fail
      exact Post.isv hx2 rfl rfl rfl
    apply Stage.step (Is (msV ⟨q1, q2, q3, by_, q5, q6, qa, qb, qc, qd⟩ U1 Un1 Uc1 U2 Un2 Uc2 U3 Un3 Uc3 U4 Un4 Uc4)) [false, false, false, false, false, false, false, false, false, false, true] (Is.keeps _) (by kernel_rfl)
    · intro w1 h1
      simp only [List.nil_append, List.cons_append, Given]
      rintro _ rfl
      have uu0 := h1.cell x0
      have uu1 := h1.cell x1
      have uu2 := h1.cell x2
      have uu3 := h1.cell x3
      have uu4 := h1.cell x4
      have uu5 := h1.cell x5
      have uu6 := h1.cell x6
      have uu7 := h1.cell x7
      have uu8 := h1.cell x8
      have uu9 := h1.cell x9
      go_wp2_with fail
      exact Post.isv (Ext.refl _) rfl rfl rfl
    apply Stage.step (Is (.bool r)) [false, false, false, false, false, false, false, false, false, false, true, false, false, true] (Is.keeps _) (by kernel_rfl)
    · intro w1 h1
      simp only [List.nil_append, List.cons_append, Given]
      rintro _ rfl
      rintro _ rfl
      go_wp2_with fail
      refine (ref_RightMsg (m := ⟨q1, q2, q3, by_, q5, q6, qa, qb, qc, qd⟩) (lW.ext h1) HF HSH HR2).mono ?_
      rintro e w2 ⟨rfl, hx2⟩
      go_wp2_with fail
      exact Post.isv hx2 rfl rfl rfl
    apply Stage.step (Is (.bool true)) [false, false, false, false, false, false, false, false, false, false, true, false, true, false, true] (Is.keeps _) (by kernel_rfl)
    · intro w1 h1
      simp only [List.nil_append, List.cons_append, Given]
      rintro _ rfl
      rintro _ rfl
      rintro _ rfl
      go_wp2_with fail
      exact Post.isv (Ext.refl _) rfl rfl rfl
    apply Stage.step (Is (.bool true)) [false, false, false, false, false, false, false, false, false, false, true, false, false, false, false, true] (Is.keeps _) (by kernel_rfl)
    · intro w1 h1
      simp only [List.nil_append, List.cons_append, Given]
      rintro _ rfl
      rintro _ rfl
      go_wp2_with fail
      exact Post.isv (Ext.refl _) rfl rfl rfl
    apply Stage.step (Is _) [false, false, false, false, false, false, false, false, false, false, false, false, false, false, false, false, true] (Is.keeps _) (by kernel_rfl)
    · intro w1 h1
      simp only [List.nil_append, List.cons_append, Given]
      rintro _ rfl
      go_wp2_with fail
      exact Post.isv (Ext.refl _) rfl rfl rfl
    apply Stage.step (Is (msV ⟨q1, q2, q3, q4, q5, q6, qa, qb, qc, qd⟩ U1 Un1 Uc1 U2 Un2 Uc2 U3 Un3 Uc3 U4 Un4 Uc4)) [false, false, false, false, false, false, false, false, false, false, false, false, false, false, false, false, false, true] (Is.keeps _) (by kernel_rfl)
    · intro w1 h1
      simp only [List.nil_append, List.cons_append, Given]
      rintro _ rfl
      have uu0 := h1.cell b0
      have uu1 := h1.cell b1
      have uu2 := h1.cell b2
      have uu3 := h1.cell b3
      have uu4 := h1.cell b4
      have uu5 := h1.cell b5
      have uu6 := h1.cell b6
      have uu7 := h1.cell b7
      have uu8 := h1.cell b8
      have uu9 := h1.cell b9
      go_wp2_with fail
      exact Post.isv (Ext.refl _) rfl rfl rfl
    apply Stage.step (Is (.bool true)) [false, false, false, false, false, false, false, false, false, false, false, false, false, false, false, false, false, true, true] (Is.keeps _) (by kernel_rfl)
    · intro w1 h1
      simp only [List.nil_append, List.cons_append, Given]
      rintro _ rfl
      rintro _ rfl
      go_wp2_with fail
      refine (msg_Right (m := ⟨q1, q2, q3, q4, q5, q6, qa, qb, qc, qd⟩) (l1.ext h1) HF HSH HR).mono ?_
      rintro e w2 ⟨rfl, hx2⟩
      go_wp2_with fail
      exact Post.isv hx2 rfl rfl rfl
    apply Stage.step (Is (.bool true)) [false, false, false, false, false, false, false, false, false, false, false, false, false, false, false, false, false, true, false, true] (Is.keeps _) (by kernel_rfl)
    · intro w1 h1
      simp only [List.nil_append, List.cons_append, Given]
      rintro _ rfl
      rintro _ rfl
      go_wp2_with fail
      exact Post.isv (Ext.refl _) rfl rfl rfl
    apply Stage.step (Is _) [false, false, false, false, false, false, false, false, false, false, false, false, false, false, false, false, false, false, false, false, true] (Is.keeps _) (by kernel_rfl)
    · intro w1 h1
      simp only [List.nil_append, List.cons_append, Given]
      rintro _ rfl
      go_wp2_with fail
      exact Post.isv (Ext.refl _) rfl rfl rfl
    apply Stage.step (Is (.bool true)) [false, false, false, false, false, false, false, false, false, false, false, false, false, false, false, false, false, false, false, false, false, true] (Is.keeps _) (by kernel_rfl)
    · intro w1 h1
      simp only [List.nil_append, List.cons_append, Given]
      rintro _ rfl
      go_wp2_with fail
      refine (law9_known _).mono ?_
      rintro e w2 ⟨rfl, hx2⟩
      go_wp2_with fail
      exact Post.isv hx2 rfl rfl rfl
    apply Stage.step (Is (.bool true)) [false, false, false, false, false, false, false, false, false, false, false, false, false, false, false, false, false, false, false, false, false, true, true] (Is.keeps _) (by kernel_rfl)
    · intro w1 h1
      simp only [List.nil_append, List.cons_append, Given]
      rintro _ rfl
      rintro _ rfl
      go_wp2_with fail
      exact Post.isv (Ext.refl _) rfl rfl rfl
    apply Stage.step (Is _) [false, false, false, false, false, false, false, false, false, false, false, false, false, false, false, false, false, false, false, false, false, false, false, true] (Is.keeps _) (by kernel_rfl)
    · intro w1 h1
      simp only [List.nil_append, List.cons_append, Given]
      rintro _ rfl
      go_wp2_with fail
      exact Post.isv (Ext.refl _) rfl rfl rfl
    apply Stage.nil
    intro w1 h1
    simp only [List.nil_append, List.cons_append]
    refine Fin.is_ ?_
    refine Fin.is_ ?_
    refine Fin.is_ ?_
    refine Fin.is_ ?_
    refine Fin.is_ ?_
    refine Fin.is_ ?_
    refine Fin.is_ ?_
    refine Fin.is_ ?_
    refine Fin.is_ ?_
    refine Fin.is_ ?_
    refine Fin.is_ ?_
    refine Fin.is_ ?_
    refine Fin.is_ ?_
    refine Fin.is_ ?_
    refine Fin.is_ ?_
    refine Fin.is_ ?_
    refine Fin.is_ ?_
    refine Fin.is_ ?_
    refine Fin.is_ ?_
    refine Fin.is_ ?_
    refine Fin.is_ ?_
    refine Fin.is_ ?_
    refine Fin.is_ ?_
    refine Fin.is_ ?_
    refine Fin.is_ ?_
    refine Fin.nil_ ?_
    go_simp
    go_wp2_with fail
    go_ret
    exact ⟨rfl, gx7.trans h1⟩
  · skip
    go_wp2_with fail
    obtain ⟨wf, hwf⟩ : ∃ q, q = w3.alloc (.cells #[.int .i64 q1, .int .i64 q2, .int .i64 q3, .int .i64 q4, .int .i64 by_, .int .i64 q6, .slice U1 Un1 Uc1, .slice U2 Un2 Uc2, .slice U3 Un3 Uc3, .slice U4 Un4 Uc4] TMs) := ⟨_, rfl⟩
    have hx3f : Ext w3 wf := by rw [hwf]; exact Ext.alloc _ _
    have LW : Hid (MsR wf ⟨q1, q2, q3, q4, by_, q6, qa, qb, qc, qd⟩ U1 Un1 Uc1 U2 Un2 Uc2 U3 Un3 Uc3 U4 Un4 Uc4) := ⟨(l1.ext hx3f).ch, (l1.ext hx3f).en, (l1.ext hx3f).ms, (l1.ext hx3f).da⟩
    have x0 := cell_new w3 #[.int .i64 q1, .int .i64 q2, .int .i64 q3, .int .i64 q4, .int .i64 by_, .int .i64 q6, .slice U1 Un1 Uc1, .slice U2 Un2 Uc2, .slice U3 Un3 Uc3, .slice U4 Un4 Uc4] TMs 0
    replace b0 := hx3f.cell b0
    have x1 := cell_new w3 #[.int .i64 q1, .int .i64 q2, .int .i64 q3, .int .i64 q4, .int .i64 by_, .int .i64 q6, .slice U1 Un1 Uc1, .slice U2 Un2 Uc2, .slice U3 Un3 Uc3, .slice U4 Un4 Uc4] TMs 1
    replace b1 := hx3f.cell b1
    have x2 := cell_new w3 #[.int .i64 q1, .int .i64 q2, .int .i64 q3, .int .i64 q4, .int .i64 by_, .int .i64 q6, .slice U1 Un1 Uc1, .slice U2 Un2 Uc2, .slice U3 Un3 Uc3, .slice U4 Un4 Uc4] TMs 2
    replace b2 := hx3f.cell b2
    have x3 := cell_new w3 #[.int .i64 q1, .int .i64 q2, .int .i64 q3, .int .i64 q4, .int .i64 by_, .int .i64 q6, .slice U1 Un1 Uc1, .slice U2 Un2 Uc2, .slice U3 Un3 Uc3, .slice U4 Un4 Uc4] TMs 3
    replace b3 := hx3f.cell b3
    have x4 := cell_new w3 #[.int .i64 q1, .int .i64 q2, .int .i64 q3, .int .i64 q4, .int .i64 by_, .int .i64 q6, .slice U1 Un1 Uc1, .slice U2 Un2 Uc2, .slice U3 Un3 Uc3, .slice U4 Un4 Uc4] TMs 4
    replace b4 := hx3f.cell b4
    have x5 := cell_new w3 #[.int .i64 q1, .int .i64 q2, .int .i64 q3, .int .i64 q4, .int .i64 by_, .int .i64 q6, .slice U1 Un1 Uc1, .slice U2 Un2 Uc2, .slice U3 Un3 Uc3, .slice U4 Un4 Uc4] TMs 5
    replace b5 := hx3f.cell b5
    have x6 := cell_new w3 #[.int .i64 q1, .int .i64 q2, .int .i64 q3, .int .i64 q4, .int .i64 by_, .int .i64 q6, .slice U1 Un1 Uc1, .slice U2 Un2 Uc2, .slice U3 Un3 Uc3, .slice U4 Un4 Uc4] TMs 6
    replace b6 := hx3f.cell b6
    have x7 := cell_new w3 #[.int .i64 q1, .int .i64 q2, .int .i64 q3, .int .i64 q4, .int .i64 by_, .int .i64 q6, .slice U1 Un1 Uc1, .slice U2 Un2 Uc2, .slice U3 Un3 Uc3, .slice U4 Un4 Uc4] TMs 7
    replace b7 := hx3f.cell b7
    have x8 := cell_new w3 #[.int .i64 q1, .int .i64 q2, .int .i64 q3, .int .i64 q4, .int .i64 by_, .int .i64 q6, .slice U1 Un1 Uc1, .slice U2 Un2 Uc2, .slice U3 Un3 Uc3, .slice U4 Un4 Uc4] TMs 8
    replace b8 := hx3f.cell b8
    have x9 := cell_new w3 #[.int .i64 q1, .int .i64 q2, .int .i64 q3, .int .i64 q4, .int .i64 by_, .int .i64 q6, .slice U1 Un1 Uc1, .slice U2 Un2 Uc2, .slice U3 Un3 Uc3, .slice U4 Un4 Uc4] TMs 9
    replace b9 := hx3f.cell b9
    rw [← hwf] at x0 x1 x2 x3 x4 x5 x6 x7 x8 x9
    rw [← hwf]
    clear hwf
    have GXW := Lib.hid (gx1.trans hx3f)
    replace l1 := l1.ext hx3f
    clear hx3f gx1
    obtain ⟨r, hr⟩ : ∃ q, rightM ⟨q1, q2, q3, q4, by_, q6, qa, qb, qc, qd⟩ = q := ⟨_, rfl⟩
    have HR2 := Lib.hid hr
    obtain ⟨M, hM⟩ : ∃ q, putMr ⟨q1, q2, q3, q4, by_, q6, qa, qb, qc, qd⟩ r = q := ⟨_, rfl⟩
    have HM2 := Lib.hid hM
    clear hr hM
    refine (msg_Put (m := ⟨q1, q2, q3, q4, by_, q6, qa, qb, qc, qd⟩) LW.out HF HSH HR2 HM2).mono ?_
    rintro e w7 ⟨A7, n7, c7, rfl, hb7, hx7⟩
    obtain ⟨er, her⟩ : ∃ q : Int, (if r = true then (0 : Int) else 1) = q := ⟨_, rfl⟩
    rw [her]
    have HER := Lib.hid her
    clear her
    replace x0 := hx7.cell x0
    replace b0 := hx7.cell b0
    replace x1 := hx7.cell x1
    replace b1 := hx7.cell b1
    replace x2 := hx7.cell x2
    replace b2 := hx7.cell b2
    replace x3 := hx7.cell x3
    replace b3 := hx7.cell b3
    replace x4 := hx7.cell x4
    replace b4 := hx7.cell b4
    replace x5 := hx7.cell x5
    replace b5 := hx7.cell b5
    replace x6 := hx7.cell x6
    replace b6 := hx7.cell b6
    replace x7 := hx7.cell x7
    replace b7 := hx7.cell b7
    replace x8 := hx7.cell x8
    replace b8 := hx7.cell b8
    replace x9 := hx7.cell x9
    replace b9 := hx7.cell b9
    have gx7 := GXW.out.trans hx7
    have lW := LW.out.ext hx7
    replace l1 := l1.ext hx7
    have n77 := hb7.sl.n63
    clear GXW hx7 LW
    go_wp2_with fail
    refine (ref_PutMsg (m := ⟨q1, q2, q3, q4, by_, q6, qa, qb, qc, qd⟩) lW HF HSH HR2 HM2).mono ?_
    rintro e w8 ⟨A8, n8, c8, rfl, hb8, hx8⟩
    rw [HER.out]
    replace x0 := hx8.cell x0
    replace b0 := hx8.cell b0
    replace x1 := hx8.cell x1
    replace b1 := hx8.cell b1
    replace x2 := hx8.cell x2
    replace b2 := hx8.cell b2
    replace x3 := hx8.cell x3
    replace b3 := hx8.cell b3
    replace x4 := hx8.cell x4
    replace b4 := hx8.cell b4
    replace x5 := hx8.cell x5
    replace b5 := hx8.cell b5
    replace x6 := hx8.cell x6
    replace b6 := hx8.cell b6
    replace x7 := hx8.cell x7
    replace b7 := hx8.cell b7
    replace x8 := hx8.cell x8
    replace b8 := hx8.cell b8
    replace x9 := hx8.cell x9
    replace b9 := hx8.cell b9
    replace gx7 := gx7.trans hx8
    replace lW := lW.ext hx8
    replace l1 := l1.ext hx8
    have tb7 := hb7.sl.ext hx8
    have tb8 := hb8.sl
    have n88 := hb8.sl.n63
    clear hx8 hb7 hb8 HER HM2
    go_wp2_with fail
    refine wp_region_typed Ext.steady rfl 127 rfl (by kernel_rfl) ?_
    apply Stage.step (Is _) [] (Is.keeps _) (by kernel_rfl)
    · intro w1 h1
      simp only [Given]
      go_wp2_with fail
      exact Post.isv (Ext.refl _) rfl rfl rfl
    apply Stage.step (Is (.string ⟨M.toArray⟩)) [true] (Is.keeps _) (by kernel_rfl)
    · intro w1 h1
      simp only [List.nil_append, Given]
      rintro _ rfl
      have tx := run_text_u8 (tb7.ext h1)
      go_wp2_with fail
      exact Post.isv (Ext.refl _) rfl rfl rfl
    apply Stage.step (Is _) [] (Is.keeps _) (by kernel_rfl)
    · intro w1 h1
      simp only [Given]
      go_wp2_with fail
      exact Post.isv (Ext.refl _) rfl rfl rfl
    apply Stage.step (Is (.string ⟨M.toArray⟩)) [false, false, true] (Is.keeps _) (by kernel_rfl)
    · intro w1 h1
      simp only [List.nil_append, List.cons_append, Given]
      rintro _ rfl
      have tx := run_text_u8 (tb8.ext h1)
      go_wp2_with fail
      exact Post.isv (Ext.refl _) rfl rfl rfl
    apply Stage.step (Is (.bool true)) [false, true, false, true] (Is.keeps _) (by kernel_rfl)
    · intro w1 h1
      simp only [List.nil_append, List.cons_append, Given]
      rintro _ rfl
      rintro _ rfl
      go_wp2_with fail
      exact Post.isv (Ext.refl _) rfl rfl rfl
    apply Stage.step (Is _) [false, false, false, false, true] (Is.keeps _) (by kernel_rfl)
    · intro w1 h1
      simp only [List.nil_append, List.cons_append, Given]
      rintro _ rfl
      go_wp2_with fail
      exact Post.isv (Ext.refl _) rfl rfl rfl
    apply Stage.step (Is _) [false, false, false, false, false, true] (Is.keeps _) (by kernel_rfl)
    · intro w1 h1
      simp only [List.nil_append, List.cons_append, Given]
      rintro _ rfl
      go_wp2_with fail
      exact Post.isv (Ext.refl _) rfl rfl rfl
    apply Stage.step (Is _) [false, false, false, false, false, true] (Is.keeps _) (by kernel_rfl)
    · intro w1 h1
      simp only [List.nil_append, List.cons_append, Given]
      rintro _ rfl
      go_wp2_with fail
      exact Post.isv (Ext.refl _) rfl rfl rfl
    apply Stage.step (Is (.bool true)) [false, false, false, false, false, true, true, true] (Is.keeps _) (by kernel_rfl)
    · intro w1 h1
      simp only [List.nil_append, List.cons_append, Given]
      rintro _ rfl
      rintro _ rfl
      rintro _ rfl
      go_wp2_with fail
      exact Post.isv (Ext.refl _) rfl rfl rfl
    apply Stage.step (Is (.bool true)) [false, false, false, false, false, true, false, false, true] (Is.keeps _) (by kernel_rfl)
    · intro w1 h1
      simp only [List.nil_append, List.cons_append, Given]
      rintro _ rfl
      rintro _ rfl
      go_wp2_with fail
      exact Post.isv (Ext.refl _) rfl rfl rfl
    apply Stage.step (Is _) [false, false, false, false, false, false, false, false, false, true] (Is.keeps _) (by kernel_rfl)
    · intro w1 h1
      simp only [List.nil_append, List.cons_append, Given]
      rintro _ rfl
      go_wp2_with fail
      exact Post.isv (Ext.refl _) rfl rfl rfl
    apply Stage.step (Is (msV ⟨q1, q2, q3, q4, by_, q6, qa, qb, qc, qd⟩ U1 Un1 Uc1 U2 Un2 Uc2 U3 Un3 Uc3 U4 Un4 Uc4)) [false, false, false, false, false, false, false, false, false, false, true] (Is.keeps _) (by kernel_rfl)
    · intro w1 h1
      simp only [List.nil_append, List.cons_append, Given]
      rintro _ rfl
      have uu0 := h1.cell x0
      have uu1 := h1.cell x1
      have uu2 := h1.cell x2
      have uu3 := h1.cell x3
      have uu4 := h1.cell x4
      have uu5 := h1.cell x5
      have uu6 := h1.cell x6
      have uu7 := h1.cell x7
      have uu8 := h1.cell x8
      have uu9 := h1.cell x9
      go_wp2_with fail
      exact Post.isv (Ext.refl _) rfl rfl rfl
    apply Stage.step (Is (.bool r)) [false, false, false, false, false, false, false, false, false, false, true, true] (Is.keeps _) (by kernel_rfl)
    · intro w1 h1
      simp only [List.nil_append, List.cons_append, Given]
      rintro _ rfl
      rintro _ rfl
      go_wp2_with fail
      refine (msg_Right (m := ⟨q1, q2, q3, q4, by_, q6, qa, qb, qc, qd⟩) (lW.ext h1) HF HSH HR2).mono ?_
      rintro e w2 ⟨rfl, hx2⟩
      go_wp2_with fail
      exact Post.isv hx2 rfl rfl rfl
    apply Stage.step (Is (msV ⟨q1, q2, q3, q4, by_, q6, qa, qb, qc, qd⟩ U1 Un1 Uc1 U2 Un2 Uc2 U3 Un3 Uc3 U4 Un4 Uc4)) [false, false, false, false, false, false, false, false, false, false, true] (Is.keeps _) (by kernel_rfl)
    · intro w1 h1
      simp only [List.nil_append, List.cons_append, Given]
      rintro _ rfl
      have uu0 := h1.cell x0
      have uu1 := h1.cell x1
      have uu2 := h1.cell x2
      have uu3 := h1.cell x3
      have uu4 := h1.cell x4
      have uu5 := h1.cell x5
      have uu6 := h1.cell x6
      have uu7 := h1.cell x7
      have uu8 := h1.cell x8
      have uu9 := h1.cell x9
      go_wp2_with fail
      exact Post.isv (Ext.refl _) rfl rfl rfl
    apply Stage.step (Is (.bool r)) [false, false, false, false, false, false, false, false, false, false, true, false, false, true] (Is.keeps _) (by kernel_rfl)
    · intro w1 h1
      simp only [List.nil_append, List.cons_append, Given]
      rintro _ rfl
      rintro _ rfl
      go_wp2_with fail
      refine (ref_RightMsg (m := ⟨q1, q2, q3, q4, by_, q6, qa, qb, qc, qd⟩) (lW.ext h1) HF HSH HR2).mono ?_
      rintro e w2 ⟨rfl, hx2⟩
      go_wp2_with fail
      exact Post.isv hx2 rfl rfl rfl
    apply Stage.step (Is (.bool true)) [false, false, false, false, false, false, false, false, false, false, true, false, true, false, true] (Is.keeps _) (by kernel_rfl)
    · intro w1 h1
      simp only [List.nil_append, List.cons_append, Given]
      rintro _ rfl
      rintro _ rfl
      rintro _ rfl
      go_wp2_with fail
      exact Post.isv (Ext.refl _) rfl rfl rfl
    apply Stage.step (Is (.bool true)) [false, false, false, false, false, false, false, false, false, false, true, false, false, false, false, true] (Is.keeps _) (by kernel_rfl)
    · intro w1 h1
      simp only [List.nil_append, List.cons_append, Given]
      rintro _ rfl
      rintro _ rfl
      go_wp2_with fail
      exact Post.isv (Ext.refl _) rfl rfl rfl
    apply Stage.step (Is _) [false, false, false, false, false, false, false, false, false, false, false, false, false, false, false, false, true] (Is.keeps _) (by kernel_rfl)
    · intro w1 h1
      simp only [List.nil_append, List.cons_append, Given]
      rintro _ rfl
      go_wp2_with fail
      exact Post.isv (Ext.refl _) rfl rfl rfl
    apply Stage.step (Is (msV ⟨q1, q2, q3, q4, q5, q6, qa, qb, qc, qd⟩ U1 Un1 Uc1 U2 Un2 Uc2 U3 Un3 Uc3 U4 Un4 Uc4)) [false, false, false, false, false, false, false, false, false, false, false, false, false, false, false, false, false, true] (Is.keeps _) (by kernel_rfl)
    · intro w1 h1
      simp only [List.nil_append, List.cons_append, Given]
      rintro _ rfl
      have uu0 := h1.cell b0
      have uu1 := h1.cell b1
      have uu2 := h1.cell b2
      have uu3 := h1.cell b3
      have uu4 := h1.cell b4
      have uu5 := h1.cell b5
      have uu6 := h1.cell b6
      have uu7 := h1.cell b7
      have uu8 := h1.cell b8
      have uu9 := h1.cell b9
      go_wp2_with fail
      exact Post.isv (Ext.refl _) rfl rfl rfl
    apply Stage.step (Is (.bool true)) [false, false, false, false, false, false, false, false, false, false, false, false, false, false, false, false, false, true, true] (Is.keeps _) (by kernel_rfl)
    · intro w1 h1
      simp only [List.nil_append, List.cons_append, Given]
      rintro _ rfl
      rintro _ rfl
      go_wp2_with fail
      refine (msg_Right (m := ⟨q1, q2, q3, q4, q5, q6, qa, qb, qc, qd⟩) (l1.ext h1) HF HSH HR).mono ?_
      rintro e w2 ⟨rfl, hx2⟩
      go_wp2_with fail
      exact Post.isv hx2 rfl rfl rfl
    apply Stage.step (Is (.bool true)) [false, false, false, false, false, false, false, false, false, false, false, false, false, false, false, false, false, true, false, true] (Is.keeps _) (by kernel_rfl)
    · intro w1 h1
      simp only [List.nil_append, List.cons_append, Given]
      rintro _ rfl
      rintro _ rfl
      go_wp2_with fail
      exact Post.isv (Ext.refl _) rfl rfl rfl
    apply Stage.step (Is _) [false, false, false, false, false, false, false, false, false, false, false, false, false, false, false, false, false, false, false, false, true] (Is.keeps _) (by kernel_rfl)
    · intro w1 h1
      simp only [List.nil_append, List.cons_append, Given]
      rintro _ rfl
      go_wp2_with fail
      exact Post.isv (Ext.refl _) rfl rfl rfl
    apply Stage.step (Is (.bool true)) [false, false, false, false, false, false, false, false, false, false, false, false, false, false, false, false, false, false, false, false, false, true] (Is.keeps _) (by kernel_rfl)
    · intro w1 h1
      simp only [List.nil_append, List.cons_append, Given]
      rintro _ rfl
      go_wp2_with fail
      refine (law9_known _).mono ?_
      rintro e w2 ⟨rfl, hx2⟩
      go_wp2_with fail
      exact Post.isv hx2 rfl rfl rfl
    apply Stage.step (Is (.bool true)) [false, false, false, false, false, false, false, false, false, false, false, false, false, false, false, false, false, false, false, false, false, true, true] (Is.keeps _) (by kernel_rfl)
    · intro w1 h1
      simp only [List.nil_append, List.cons_append, Given]
      rintro _ rfl
      rintro _ rfl
      go_wp2_with fail
      exact Post.isv (Ext.refl _) rfl rfl rfl
    apply Stage.step (Is _) [false, false, false, false, false, false, false, false, false, false, false, false, false, false, false, false, false, false, false, false, false, false, false, true] (Is.keeps _) (by kernel_rfl)
    · intro w1 h1
      simp only [List.nil_append, List.cons_append, Given]
      rintro _ rfl
      go_wp2_with fail
      exact Post.isv (Ext.refl _) rfl rfl rfl
    apply Stage.nil
    intro w1 h1
    simp only [List.nil_append, List.cons_append]
    refine Fin.is_ ?_
    refine Fin.is_ ?_
    refine Fin.is_ ?_
    refine Fin.is_ ?_
    refine Fin.is_ ?_
    refine Fin.is_ ?_
    refine Fin.is_ ?_
    refine Fin.is_ ?_
    refine Fin.is_ ?_
    refine Fin.is_ ?_
    refine Fin.is_ ?_
    refine Fin.is_ ?_
    refine Fin.is_ ?_
    refine Fin.is_ ?_
    refine Fin.is_ ?_
    refine Fin.is_ ?_
    refine Fin.is_ ?_
    refine Fin.is_ ?_
    refine Fin.is_ ?_
    refine Fin.is_ ?_
    refine Fin.is_ ?_
    refine Fin.is_ ?_
    refine Fin.is_ ?_
    refine Fin.is_ ?_
    refine Fin.is_ ?_
    refine Fin.nil_ ?_
    go_simp
    go_wp2_with fail
    go_ret
    exact ⟨rfl, gx7.trans h1⟩
  · skip
    go_wp2_with fail
    obtain ⟨wf, hwf⟩ : ∃ q, q = w3.alloc (.cells #[.int .i64 q1, .int .i64 q2, .int .i64 q3, .int .i64 q4, .int .i64 q5, .int .i64 by_, .slice U1 Un1 Uc1, .slice U2 Un2 Uc2, .slice U3 Un3 Uc3, .slice U4 Un4 Uc4] TMs) := ⟨_, rfl⟩
    have hx3f : Ext w3 wf := by rw [hwf]; exact Ext.alloc _ _
    have LW : Hid (MsR wf ⟨q1, q2, q3, q4, q5, by_, qa, qb, qc, qd⟩ U1 Un1 Uc1 U2 Un2 Uc2 U3 Un3 Uc3 U4 Un4 Uc4) := ⟨(l1.ext hx3f).ch, (l1.ext hx3f).en, (l1.ext hx3f).ms, (l1.ext hx3f).da⟩
    have x0 := cell_new w3 #[.int .i64 q1, .int .i64 q2, .int .i64 q3, .int .i64 q4, .int .i64 q5, .int .i64 by_, .slice U1 Un1 Uc1, .slice U2 Un2 Uc2, .slice U3 Un3 Uc3, .slice U4 Un4 Uc4] TMs 0
    replace b0 := hx3f.cell b0
    have x1 := cell_new w3 #[.int .i64 q1, .int .i64 q2, .int .i64 q3, .int .i64 q4, .int .i64 q5, .int .i64 by_, .slice U1 Un1 Uc1, .slice U2 Un2 Uc2, .slice U3 Un3 Uc3, .slice U4 Un4 Uc4] TMs 1
    replace b1 := hx3f.cell b1
    have x2 := cell_new w3 #[.int .i64 q1, .int .i64 q2, .int .i64 q3, .int .i64 q4, .int .i64 q5, .int .i64 by_, .slice U1 Un1 Uc1, .slice U2 Un2 Uc2, .slice U3 Un3 Uc3, .slice U4 Un4 Uc4] TMs 2
    replace b2 := hx3f.cell b2
    have x3 := cell_new w3 #[.int .i64 q1, .int .i64 q2, .int .i64 q3, .int .i64 q4, .int .i64 q5, .int .i64 by_, .slice U1 Un1 Uc1, .slice U2 Un2 Uc2, .slice U3 Un3 Uc3, .slice U4 Un4 Uc4] TMs 3
    replace b3 := hx3f.cell b3
    have x4 := cell_new w3 #[.int .i64 q1, .int .i64 q2, .int .i64 q3, .int .i64 q4, .int .i64 q5, .int .i64 by_, .slice U1 Un1 Uc1, .slice U2 Un2 Uc2, .slice U3 Un3 Uc3, .slice U4 Un4 Uc4] TMs 4
    replace b4 := hx3f.cell b4
    have x5 := cell_new w3 #[.int .i64 q1, .int .i64 q2, .int .i64 q3, .int .i64 q4, .int .i64 q5, .int .i64 by_, .slice U1 Un1 Uc1, .slice U2 Un2 Uc2, .slice U3 Un3 Uc3, .slice U4 Un4 Uc4] TMs 5
    replace b5 := hx3f.cell b5
    have x6 := cell_new w3 #[.int .i64 q1, .int .i64 q2, .int .i64 q3, .int .i64 q4, .int .i64 q5, .int .i64 by_, .slice U1 Un1 Uc1, .slice U2 Un2 Uc2, .slice U3 Un3 Uc3, .slice U4 Un4 Uc4] TMs 6
    replace b6 := hx3f.cell b6
    have x7 := cell_new w3 #[.int .i64 q1, .int .i64 q2, .int .i64 q3, .int .i64 q4, .int .i64 q5, .int .i64 by_, .slice U1 Un1 Uc1, .slice U2 Un2 Uc2, .slice U3 Un3 Uc3, .slice U4 Un4 Uc4] TMs 7
    replace b7 := hx3f.cell b7
    have x8 := cell_new w3 #[.int .i64 q1, .int .i64 q2, .int .i64 q3, .int .i64 q4, .int .i64 q5, .int .i64 by_, .slice U1 Un1 Uc1, .slice U2 Un2 Uc2, .slice U3 Un3 Uc3, .slice U4 Un4 Uc4] TMs 8
    replace b8 := hx3f.cell b8
    have x9 := cell_new w3 #[.int .i64 q1, .int .i64 q2, .int .i64 q3, .int .i64 q4, .int .i64 q5, .int .i64 by_, .slice U1 Un1 Uc1, .slice U2 Un2 Uc2, .slice U3 Un3 Uc3, .slice U4 Un4 Uc4] TMs 9
    replace b9 := hx3f.cell b9
    rw [← hwf] at x0 x1 x2 x3 x4 x5 x6 x7 x8 x9
    rw [← hwf]
    clear hwf
    have GXW := Lib.hid (gx1.trans hx3f)
    replace l1 := l1.ext hx3f
    clear hx3f gx1
    obtain ⟨r, hr⟩ : ∃ q, rightM ⟨q1, q2, q3, q4, q5, by_, qa, qb, qc, qd⟩ = q := ⟨_, rfl⟩
    have HR2 := Lib.hid hr
    obtain ⟨M, hM⟩ : ∃ q, putMr ⟨q1, q2, q3, q4, q5, by_, qa, qb, qc, qd⟩ r = q := ⟨_, rfl⟩
    have HM2 := Lib.hid hM
    clear hr hM
    refine (msg_Put (m := ⟨q1, q2, q3, q4, q5, by_, qa, qb, qc, qd⟩) LW.out HF HSH HR2 HM2).mono ?_
    rintro e w7 ⟨A7, n7, c7, rfl, hb7, hx7⟩
    obtain ⟨er, her⟩ : ∃ q : Int, (if r = true then (0 : Int) else 1) = q := ⟨_, rfl⟩
    rw [her]
    have HER := Lib.hid her
    clear her
    replace x0 := hx7.cell x0
    replace b0 := hx7.cell b0
    replace x1 := hx7.cell x1
    replace b1 := hx7.cell b1
    replace x2 := hx7.cell x2
    replace b2 := hx7.cell b2
    replace x3 := hx7.cell x3
    replace b3 := hx7.cell b3
    replace x4 := hx7.cell x4
    replace b4 := hx7.cell b4
    replace x5 := hx7.cell x5
    replace b5 := hx7.cell b5
    replace x6 := hx7.cell x6
    replace b6 := hx7.cell b6
    replace x7 := hx7.cell x7
    replace b7 := hx7.cell b7
    replace x8 := hx7.cell x8
    replace b8 := hx7.cell b8
    replace x9 := hx7.cell x9
    replace b9 := hx7.cell b9
    have gx7 := GXW.out.trans hx7
    have lW := LW.out.ext hx7
    replace l1 := l1.ext hx7
    have n77 := hb7.sl.n63
    clear GXW hx7 LW
    go_wp2_with fail
    refine (ref_PutMsg (m := ⟨q1, q2, q3, q4, q5, by_, qa, qb, qc, qd⟩) lW HF HSH HR2 HM2).mono ?_
    rintro e w8 ⟨A8, n8, c8, rfl, hb8, hx8⟩
    rw [HER.out]
    replace x0 := hx8.cell x0
    replace b0 := hx8.cell b0
    replace x1 := hx8.cell x1
    replace b1 := hx8.cell b1
    replace x2 := hx8.cell x2
    replace b2 := hx8.cell b2
    replace x3 := hx8.cell x3
    replace b3 := hx8.cell b3
    replace x4 := hx8.cell x4
    replace b4 := hx8.cell b4
    replace x5 := hx8.cell x5
    replace b5 := hx8.cell b5
    replace x6 := hx8.cell x6
    replace b6 := hx8.cell b6
    replace x7 := hx8.cell x7
    replace b7 := hx8.cell b7
    replace x8 := hx8.cell x8
    replace b8 := hx8.cell b8
    replace x9 := hx8.cell x9
    replace b9 := hx8.cell b9
    replace gx7 := gx7.trans hx8
    replace lW := lW.ext hx8
    replace l1 := l1.ext hx8
    have tb7 := hb7.sl.ext hx8
    have tb8 := hb8.sl
    have n88 := hb8.sl.n63
    clear hx8 hb7 hb8 HER HM2
    go_wp2_with fail
    refine wp_region_typed Ext.steady rfl 127 rfl (by kernel_rfl) ?_
    apply Stage.step (Is _) [] (Is.keeps _) (by kernel_rfl)
    · intro w1 h1
      simp only [Given]
      go_wp2_with fail
      exact Post.isv (Ext.refl _) rfl rfl rfl
    apply Stage.step (Is (.string ⟨M.toArray⟩)) [true] (Is.keeps _) (by kernel_rfl)
    · intro w1 h1
      simp only [List.nil_append, Given]
      rintro _ rfl
      have tx := run_text_u8 (tb7.ext h1)
      go_wp2_with fail
      exact Post.isv (Ext.refl _) rfl rfl rfl
    apply Stage.step (Is _) [] (Is.keeps _) (by kernel_rfl)
    · intro w1 h1
      simp only [Given]
      go_wp2_with fail
      exact Post.isv (Ext.refl _) rfl rfl rfl
    apply Stage.step (Is (.string ⟨M.toArray⟩)) [false, false, true] (Is.keeps _) (by kernel_rfl)
    · intro w1 h1
      simp only [List.nil_append, List.cons_append, Given]
      rintro _ rfl
      have tx := run_text_u8 (tb8.ext h1)
      go_wp2_with fail
      exact Post.isv (Ext.refl _) rfl rfl rfl
    apply Stage.step (Is (.bool true)) [false, true, false, true] (Is.keeps _) (by kernel_rfl)
    · intro w1 h1
      simp only [List.nil_append, List.cons_append, Given]
      rintro _ rfl
      rintro _ rfl
      go_wp2_with fail
      exact Post.isv (Ext.refl _) rfl rfl rfl
    apply Stage.step (Is _) [false, false, false, false, true] (Is.keeps _) (by kernel_rfl)
    · intro w1 h1
      simp only [List.nil_append, List.cons_append, Given]
      rintro _ rfl
      go_wp2_with fail
      exact Post.isv (Ext.refl _) rfl rfl rfl
    apply Stage.step (Is _) [false, false, false, false, false, true] (Is.keeps _) (by kernel_rfl)
    · intro w1 h1
      simp only [List.nil_append, List.cons_append, Given]
      rintro _ rfl
      go_wp2_with fail
      exact Post.isv (Ext.refl _) rfl rfl rfl
    apply Stage.step (Is _) [false, false, false, false, false, true] (Is.keeps _) (by kernel_rfl)
    · intro w1 h1
      simp only [List.nil_append, List.cons_append, Given]
      rintro _ rfl
      go_wp2_with fail
      exact Post.isv (Ext.refl _) rfl rfl rfl
    apply Stage.step (Is (.bool true)) [false, false, false, false, false, true, true, true] (Is.keeps _) (by kernel_rfl)
    · intro w1 h1
      simp only [List.nil_append, List.cons_append, Given]
      rintro _ rfl
      rintro _ rfl
      rintro _ rfl
      go_wp2_with fail
      exact Post.isv (Ext.refl _) rfl rfl rfl
    apply Stage.step (Is (.bool true)) [false, false, false, false, false, true, false, false, true] (Is.keeps _) (by kernel_rfl)
    · intro w1 h1
      simp only [List.nil_append, List.cons_append, Given]
      rintro _ rfl
      rintro _ rfl
      go_wp2_with fail
      exact Post.isv (Ext.refl _) rfl rfl rfl
    apply Stage.step (Is _) [false, false, false, false, false, false, false, false, false, true] (Is.keeps _) (by kernel_rfl)
    · intro w1 h1
      simp only [List.nil_append, List.cons_append, Given]
      rintro _ rfl
      go_wp2_with fail
      exact Post.isv (Ext.refl _) rfl rfl rfl
    apply Stage.step (Is (msV ⟨q1, q2, q3, q4, q5, by_, qa, qb, qc, qd⟩ U1 Un1 Uc1 U2 Un2 Uc2 U3 Un3 Uc3 U4 Un4 Uc4)) [false, false, false, false, false, false, false, false, false, false, true] (Is.keeps _) (by kernel_rfl)
    · intro w1 h1
      simp only [List.nil_append, List.cons_append, Given]
      rintro _ rfl
      have uu0 := h1.cell x0
      have uu1 := h1.cell x1
      have uu2 := h1.cell x2
      have uu3 := h1.cell x3
      have uu4 := h1.cell x4
      have uu5 := h1.cell x5
      have uu6 := h1.cell x6
      have uu7 := h1.cell x7
      have uu8 := h1.cell x8
      have uu9 := h1.cell x9
      go_wp2_with fail
      exact Post.isv (Ext.refl _) rfl rfl rfl
    apply Stage.step (Is (.bool r)) [false, false, false, false, false, false, false, false, false, false, true, true] (Is.keeps _) (by kernel_rfl)
    · intro w1 h1
      simp only [List.nil_append, List.cons_append, Given]
      rintro _ rfl
      rintro _ rfl
      go_wp2_with fail
      refine (msg_Right (m := ⟨q1, q2, q3, q4, q5, by_, qa, qb, qc, qd⟩) (lW.ext h1) HF HSH HR2).mono ?_
      rintro e w2 ⟨rfl, hx2⟩
      go_wp2_with fail
      exact Post.isv hx2 rfl rfl rfl
    apply Stage.step (Is (msV ⟨q1, q2, q3, q4, q5, by_, qa, qb, qc, qd⟩ U1 Un1 Uc1 U2 Un2 Uc2 U3 Un3 Uc3 U4 Un4 Uc4)) [false, false, false, false, false, false, false, false, false, false, true] (Is.keeps _) (by kernel_rfl)
    · intro w1 h1
      simp only [List.nil_append, List.cons_append, Given]
      rintro _ rfl
      have uu0 := h1.cell x0
      have uu1 := h1.cell x1
      have uu2 := h1.cell x2
      have uu3 := h1.cell x3
      have uu4 := h1.cell x4
      have uu5 := h1.cell x5
      have uu6 := h1.cell x6
      have uu7 := h1.cell x7
      have uu8 := h1.cell x8
      have uu9 := h1.cell x9
      go_wp2_with fail
      exact Post.isv (Ext.refl _) rfl rfl rfl
    apply Stage.step (Is (.bool r)) [false, false, false, false, false, false, false, false, false, false, true, false, false, true] (Is.keeps _) (by kernel_rfl)
    · intro w1 h1
      simp only [List.nil_append, List.cons_append, Given]
      rintro _ rfl
      rintro _ rfl
      go_wp2_with fail
      refine (ref_RightMsg (m := ⟨q1, q2, q3, q4, q5, by_, qa, qb, qc, qd⟩) (lW.ext h1) HF HSH HR2).mono ?_
      rintro e w2 ⟨rfl, hx2⟩
      go_wp2_with fail
      exact Post.isv hx2 rfl rfl rfl
    apply Stage.step (Is (.bool true)) [false, false, false, false, false, false, false, false, false, false, true, false, true, false, true] (Is.keeps _) (by kernel_rfl)
    · intro w1 h1
      simp only [List.nil_append, List.cons_append, Given]
      rintro _ rfl
      rintro _ rfl
      rintro _ rfl
      go_wp2_with fail
      exact Post.isv (Ext.refl _) rfl rfl rfl
    apply Stage.step (Is (.bool true)) [false, false, false, false, false, false, false, false, false, false, true, false, false, false, false, true] (Is.keeps _) (by kernel_rfl)
    · intro w1 h1
      simp only [List.nil_append, List.cons_append, Given]
      rintro _ rfl
      rintro _ rfl
      go_wp2_with fail
      exact Post.isv (Ext.refl _) rfl rfl rfl
    apply Stage.step (Is _) [false, false, false, false, false, false, false, false, false, false, false, false, false, false, false, false, true] (Is.keeps _) (by kernel_rfl)
    · intro w1 h1
      simp only [List.nil_append, List.cons_append, Given]
      rintro _ rfl
      go_wp2_with fail
      exact Post.isv (Ext.refl _) rfl rfl rfl
    apply Stage.step (Is (msV ⟨q1, q2, q3, q4, q5, q6, qa, qb, qc, qd⟩ U1 Un1 Uc1 U2 Un2 Uc2 U3 Un3 Uc3 U4 Un4 Uc4)) [false, false, false, false, false, false, false, false, false, false, false, false, false, false, false, false, false, true] (Is.keeps _) (by kernel_rfl)
    · intro w1 h1
      simp only [List.nil_append, List.cons_append, Given]
      rintro _ rfl
      have uu0 := h1.cell b0
      have uu1 := h1.cell b1
      have uu2 := h1.cell b2
      have uu3 := h1.cell b3
      have uu4 := h1.cell b4
      have uu5 := h1.cell b5
      have uu6 := h1.cell b6
      have uu7 := h1.cell b7
      have uu8 := h1.cell b8
      have uu9 := h1.cell b9
      go_wp2_with fail
      exact Post.isv (Ext.refl _) rfl rfl rfl
    apply Stage.step (Is (.bool true)) [false, false, false, false, false, false, false, false, false, false, false, false, false, false, false, false, false, true, true] (Is.keeps _) (by kernel_rfl)
    · intro w1 h1
      simp only [List.nil_append, List.cons_append, Given]
      rintro _ rfl
      rintro _ rfl
      go_wp2_with fail
      refine (msg_Right (m := ⟨q1, q2, q3, q4, q5, q6, qa, qb, qc, qd⟩) (l1.ext h1) HF HSH HR).mono ?_
      rintro e w2 ⟨rfl, hx2⟩
      go_wp2_with fail
      exact Post.isv hx2 rfl rfl rfl
    apply Stage.step (Is (.bool true)) [false, false, false, false, false, false, false, false, false, false, false, false, false, false, false, false, false, true, false, true] (Is.keeps _) (by kernel_rfl)
    · intro w1 h1
      simp only [List.nil_append, List.cons_append, Given]
      rintro _ rfl
      rintro _ rfl
      go_wp2_with fail
      exact Post.isv (Ext.refl _) rfl rfl rfl
    apply Stage.step (Is _) [false, false, false, false, false, false, false, false, false, false, false, false, false, false, false, false, false, false, false, false, true] (Is.keeps _) (by kernel_rfl)
    · intro w1 h1
      simp only [List.nil_append, List.cons_append, Given]
      rintro _ rfl
      go_wp2_with fail
      exact Post.isv (Ext.refl _) rfl rfl rfl
    apply Stage.step (Is (.bool true)) [false, false, false, false, false, false, false, false, false, false, false, false, false, false, false, false, false, false, false, false, false, true] (Is.keeps _) (by kernel_rfl)
    · intro w1 h1
      simp only [List.nil_append, List.cons_append, Given]
      rintro _ rfl
      go_wp2_with fail
      refine (law9_known _).mono ?_
      rintro e w2 ⟨rfl, hx2⟩
      go_wp2_with fail
      exact Post.isv hx2 rfl rfl rfl
    apply Stage.step (Is (.bool true)) [false, false, false, false, false, false, false, false, false, false, false, false, false, false, false, false, false, false, false, false, false, true, true] (Is.keeps _) (by kernel_rfl)
    · intro w1 h1
      simp only [List.nil_append, List.cons_append, Given]
      rintro _ rfl
      rintro _ rfl
      go_wp2_with fail
      exact Post.isv (Ext.refl _) rfl rfl rfl
    apply Stage.step (Is _) [false, false, false, false, false, false, false, false, false, false, false, false, false, false, false, false, false, false, false, false, false, false, false, true] (Is.keeps _) (by kernel_rfl)
    · intro w1 h1
      simp only [List.nil_append, List.cons_append, Given]
      rintro _ rfl
      go_wp2_with fail
      exact Post.isv (Ext.refl _) rfl rfl rfl
    apply Stage.nil
    intro w1 h1
    simp only [List.nil_append, List.cons_append]
    refine Fin.is_ ?_
    refine Fin.is_ ?_
    refine Fin.is_ ?_
    refine Fin.is_ ?_
    refine Fin.is_ ?_
    refine Fin.is_ ?_
    refine Fin.is_ ?_
    refine Fin.is_ ?_
    refine Fin.is_ ?_
    refine Fin.is_ ?_
    refine Fin.is_ ?_
    refine Fin.is_ ?_
    refine Fin.is_ ?_
    refine Fin.is_ ?_
    refine Fin.is_ ?_
    refine Fin.is_ ?_
    refine Fin.is_ ?_
    refine Fin.is_ ?_
    refine Fin.is_ ?_
    refine Fin.is_ ?_
    refine Fin.is_ ?_
    refine Fin.is_ ?_
    refine Fin.is_ ?_
    refine Fin.is_ ?_
    refine Fin.is_ ?_
    refine Fin.nil_ ?_
    go_simp
    go_wp2_with fail
    go_ret
    exact ⟨rfl, gx7.trans h1⟩
  · skip
    go_wp2_with fail
    obtain ⟨wf, hwf⟩ : ∃ q, q = w3.alloc (.cells #[.int .i64 q1, .int .i64 q2, .int .i64 q3, .int .i64 q4, .int .i64 q5, .int .i64 q6, .slice none 0 0, .slice U2 Un2 Uc2, .slice U3 Un3 Uc3, .slice U4 Un4 Uc4] TMs) := ⟨_, rfl⟩
    have hx3f : Ext w3 wf := by rw [hwf]; exact Ext.alloc _ _
    have LW : Hid (MsR wf ⟨q1, q2, q3, q4, q5, q6, [], qb, qc, qd⟩ none 0 0 U2 Un2 Uc2 U3 Un3 Uc3 U4 Un4 Uc4) := ⟨Lst.nil _, (l1.ext hx3f).en, (l1.ext hx3f).ms, (l1.ext hx3f).da⟩
    have x0 := cell_new w3 #[.int .i64 q1, .int .i64 q2, .int .i64 q3, .int .i64 q4, .int .i64 q5, .int .i64 q6, .slice none 0 0, .slice U2 Un2 Uc2, .slice U3 Un3 Uc3, .slice U4 Un4 Uc4] TMs 0
    replace b0 := hx3f.cell b0
    have x1 := cell_new w3 #[.int .i64 q1, .int .i64 q2, .int .i64 q3, .int .i64 q4, .int .i64 q5, .int .i64 q6, .slice none 0 0, .slice U2 Un2 Uc2, .slice U3 Un3 Uc3, .slice U4 Un4 Uc4] TMs 1
    replace b1 := hx3f.cell b1
    have x2 := cell_new w3 #[.int .i64 q1, .int .i64 q2, .int .i64 q3, .int .i64 q4, .int .i64 q5, .int .i64 q6, .slice none 0 0, .slice U2 Un2 Uc2, .slice U3 Un3 Uc3, .slice U4 Un4 Uc4] TMs 2
    replace b2 := hx3f.cell b2
    have x3 := cell_new w3 #[.int .i64 q1, .int .i64 q2, .int .i64 q3, .int .i64 q4, .int .i64 q5, .int .i64 q6, .slice none 0 0, .slice U2 Un2 Uc2, .slice U3 Un3 Uc3, .slice U4 Un4 Uc4] TMs 3
    replace b3 := hx3f.cell b3
    have x4 := cell_new w3 #[.int .i64 q1, .int .i64 q2, .int .i64 q3, .int .i64 q4, .int .i64 q5, .int .i64 q6, .slice none 0 0, .slice U2 Un2 Uc2, .slice U3 Un3 Uc3, .slice U4 Un4 Uc4] TMs 4
    replace b4 := hx3f.cell b4
    have x5 := cell_new w3 #[.int .i64 q1, .int .i64 q2, .int .i64 q3, .int .i64 q4, .int .i64 q5, .int .i64 q6, .slice none 0 0, .slice U2 Un2 Uc2, .slice U3 Un3 Uc3, .slice U4 Un4 Uc4] TMs 5
    replace b5 := hx3f.cell b5
    have x6 := cell_new w3 #[.int .i64 q1, .int .i64 q2, .int .i64 q3, .int .i64 q4, .int .i64 q5, .int .i64 q6, .slice none 0 0, .slice U2 Un2 Uc2, .slice U3 Un3 Uc3, .slice U4 Un4 Uc4] TMs 6
    replace b6 := hx3f.cell b6
    have x7 := cell_new w3 #[.int .i64 q1, .int .i64 q2, .int .i64 q3, .int .i64 q4, .int .i64 q5, .int .i64 q6, .slice none 0 0, .slice U2 Un2 Uc2, .slice U3 Un3 Uc3, .slice U4 Un4 Uc4] TMs 7
    replace b7 := hx3f.cell b7
    have x8 := cell_new w3 #[.int .i64 q1, .int .i64 q2, .int .i64 q3, .int .i64 q4, .int .i64 q5, .int .i64 q6, .slice none 0 0, .slice U2 Un2 Uc2, .slice U3 Un3 Uc3, .slice U4 Un4 Uc4] TMs 8
    replace b8 := hx3f.cell b8
    have x9 := cell_new w3 #[.int .i64 q1, .int .i64 q2, .int .i64 q3, .int .i64 q4, .int .i64 q5, .int .i64 q6, .slice none 0 0, .slice U2 Un2 Uc2, .slice U3 Un3 Uc3, .slice U4 Un4 Uc4] TMs 9
    replace b9 := hx3f.cell b9
    rw [← hwf] at x0 x1 x2 x3 x4 x5 x6 x7 x8 x9
    rw [← hwf]
    clear hwf
    have GXW := Lib.hid (gx1.trans hx3f)
    replace l1 := l1.ext hx3f
    clear hx3f gx1
    obtain ⟨r, hr⟩ : ∃ q, rightM ⟨q1, q2, q3, q4, q5, q6, [], qb, qc, qd⟩ = q := ⟨_, rfl⟩
    have HR2 := Lib.hid hr
    obtain ⟨M, hM⟩ : ∃ q, putMr ⟨q1, q2, q3, q4, q5, q6, [], qb, qc, qd⟩ r = q := ⟨_, rfl⟩
    have HM2 := Lib.hid hM
    clear hr hM
    refine (msg_Put (m := ⟨q1, q2, q3, q4, q5, q6, [], qb, qc, qd⟩) LW.out HF HSH HR2 HM2).mono ?_
    rintro e w7 ⟨A7, n7, c7, rfl, hb7, hx7⟩
    obtain ⟨er, her⟩ : ∃ q : Int, (if r = true then (0 : Int) else 1) = q := ⟨_, rfl⟩
    rw [her]
    have HER := Lib.hid her
    clear her
    replace x0 := hx7.cell x0
    replace b0 := hx7.cell b0
    replace x1 := hx7.cell x1
    replace b1 := hx7.cell b1
    replace x2 := hx7.cell x2
    replace b2 := hx7.cell b2
    replace x3 := hx7.cell x3
    replace b3 := hx7.cell b3
    replace x4 := hx7.cell x4
    replace b4 := hx7.cell b4
    replace x5 := hx7.cell x5
    replace b5 := hx7.cell b5
    replace x6 := hx7.cell x6
    replace b6 := hx7.cell b6
    replace x7 := hx7.cell x7
    replace b7 := hx7.cell b7
    replace x8 := hx7.cell x8
    replace b8 := hx7.cell b8
    replace x9 := hx7.cell x9
    replace b9 := hx7.cell b9
    have gx7 := GXW.out.trans hx7
    have lW := LW.out.ext hx7
    replace l1 := l1.ext hx7
    have n77 := hb7.sl.n63
    clear GXW hx7 LW
    go_wp2_with fail
    refine (ref_PutMsg (m := ⟨q1, q2, q3, q4, q5, q6, [], qb, qc, qd⟩) lW HF HSH HR2 HM2).mono ?_
    rintro e w8 ⟨A8, n8, c8, rfl, hb8, hx8⟩
    rw [HER.out]
    replace x0 := hx8.cell x0
    replace b0 := hx8.cell b0
    replace x1 := hx8.cell x1
    replace b1 := hx8.cell b1
    replace x2 := hx8.cell x2
    replace b2 := hx8.cell b2
    replace x3 := hx8.cell x3
    replace b3 := hx8.cell b3
    replace x4 := hx8.cell x4
    replace b4 := hx8.cell b4
    replace x5 := hx8.cell x5
    replace b5 := hx8.cell b5
    replace x6 := hx8.cell x6
    replace b6 := hx8.cell b6
    replace x7 := hx8.cell x7
    replace b7 := hx8.cell b7
    replace x8 := hx8.cell x8
    replace b8 := hx8.cell b8
    replace x9 := hx8.cell x9
    replace b9 := hx8.cell b9
    replace gx7 := gx7.trans hx8
    replace lW := lW.ext hx8
    replace l1 := l1.ext hx8
    have tb7 := hb7.sl.ext hx8
    have tb8 := hb8.sl
    have n88 := hb8.sl.n63
    clear hx8 hb7 hb8 HER HM2
    go_wp2_with fail
    refine wp_region_typed Ext.steady rfl 127 rfl (by kernel_rfl) ?_
    apply Stage.step (Is _) [] (Is.keeps _) (by kernel_rfl)
    · intro w1 h1
      simp only [Given]
      go_wp2_with fail
      exact Post.isv (Ext.refl _) rfl rfl rfl
    apply Stage.step (Is (.string ⟨M.toArray⟩)) [true] (Is.keeps _) (by kernel_rfl)
    · intro w1 h1
      simp only [List.nil_append, Given]
      rintro _ rfl
      have tx := run_text_u8 (tb7.ext h1)
      go_wp2_with fail
      exact Post.isv (Ext.refl _) rfl rfl rfl
    apply Stage.step (Is _) [] (Is.keeps _) (by kernel_rfl)
    · intro w1 h1
      simp only [Given]
      go_wp2_with fail
      exact Post.isv (Ext.refl _) rfl rfl rfl
    apply Stage.step (Is (.string ⟨M.toArray⟩)) [false, false, true] (Is.keeps _) (by kernel_rfl)
    · intro w1 h1
      simp only [List.nil_append, List.cons_append, Given]
      rintro _ rfl
      have tx := run_text_u8 (tb8.ext h1)
      go_wp2_with fail
      exact Post.isv (Ext.refl _) rfl rfl rfl
    apply Stage.step (Is (.bool true)) [false, true, false, true] (Is.keeps _) (by kernel_rfl)
    · intro w1 h1
      simp only [List.nil_append, List.cons_append, Given]
      rintro _ rfl
      rintro _ rfl
      go_wp2_with fail
      exact Post.isv (Ext.refl _) rfl rfl rfl
    apply Stage.step (Is _) [false, false, false, false, true] (Is.keeps _) (by kernel_rfl)
    · intro w1 h1
      simp only [List.nil_append, List.cons_append, Given]
      rintro _ rfl
      go_wp2_with fail
      exact Post.isv (Ext.refl _) rfl rfl rfl
    apply Stage.step (Is _) [false, false, false, false, false, true] (Is.keeps _) (by kernel_rfl)
    · intro w1 h1
      simp only [List.nil_append, List.cons_append, Given]
      rintro _ rfl
      go_wp2_with fail
      exact Post.isv (Ext.refl _) rfl rfl rfl
    apply Stage.step (Is _) [false, false, false, false, false, true] (Is.keeps _) (by kernel_rfl)
    · intro w1 h1
      simp only [List.nil_append, List.cons_append, Given]
      rintro _ rfl
      go_wp2_with fail
      exact Post.isv (Ext.refl _) rfl rfl rfl
    apply Stage.step (Is (.bool true)) [false, false, false, false, false, true, true, true] (Is.keeps _) (by kernel_rfl)
    · intro w1 h1
      simp only [List.nil_append, List.cons_append, Given]
      rintro _ rfl
      rintro _ rfl
      rintro _ rfl
      go_wp2_with fail
      exact Post.isv (Ext.refl _) rfl rfl rfl
    apply Stage.step (Is (.bool true)) [false, false, false, false, false, true, false, false, true] (Is.keeps _) (by kernel_rfl)
    · intro w1 h1
      simp only [List.nil_append, List.cons_append, Given]
      rintro _ rfl
      rintro _ rfl
      go_wp2_with fail
      exact Post.isv (Ext.refl _) rfl rfl rfl
    apply Stage.step (Is _) [false, false, false, false, false, false, false, false, false, true] (Is.keeps _) (by kernel_rfl)
    · intro w1 h1
      simp only [List.nil_append, List.cons_append, Given]
      rintro _ rfl
      go_wp2_with fail
      exact Post.isv (Ext.refl _) rfl rfl rfl
    apply Stage.step (Is (msV ⟨q1, q2, q3, q4, q5, q6, [], qb, qc, qd⟩ none 0 0 U2 Un2 Uc2 U3 Un3 Uc3 U4 Un4 Uc4)) [false, false, false, false, false, false, false, false, false, false, true] (Is.keeps _) (by kernel_rfl)
    · intro w1 h1
      simp only [List.nil_append, List.cons_append, Given]
      rintro _ rfl
      have uu0 := h1.cell x0
      have uu1 := h1.cell x1
      have uu2 := h1.cell x2
      have uu3 := h1.cell x3
      have uu4 := h1.cell x4
      have uu5 := h1.cell x5
      have uu6 := h1.cell x6
      have uu7 := h1.cell x7
      have uu8 := h1.cell x8
      have uu9 := h1.cell x9
      go_wp2_with fail
      exact Post.isv (Ext.refl _) rfl rfl rfl
    apply Stage.step (Is (.bool r)) [false, false, false, false, false, false, false, false, false, false, true, true] (Is.keeps _) (by kernel_rfl)
    · intro w1 h1
      simp only [List.nil_append, List.cons_append, Given]
      rintro _ rfl
      rintro _ rfl
      go_wp2_with fail
      refine (msg_Right (m := ⟨q1, q2, q3, q4, q5, q6, [], qb, qc, qd⟩) (lW.ext h1) HF HSH HR2).mono ?_
      rintro e w2 ⟨rfl, hx2⟩
      go_wp2_with fail
      exact Post.isv hx2 rfl rfl rfl
    apply Stage.step (Is (msV ⟨q1, q2, q3, q4, q5, q6, [], qb, qc, qd⟩ none 0 0 U2 Un2 Uc2 U3 Un3 Uc3 U4 Un4 Uc4)) [false, false, false, false, false, false, false, false, false, false, true] (Is.keeps _) (by kernel_rfl)
    · intro w1 h1
      simp only [List.nil_append, List.cons_append, Given]
      rintro _ rfl
      have uu0 := h1.cell x0
      have uu1 := h1.cell x1
      have uu2 := h1.cell x2
      have uu3 := h1.cell x3
      have uu4 := h1.cell x4
      have uu5 := h1.cell x5
      have uu6 := h1.cell x6
      have uu7 := h1.cell x7
      have uu8 := h1.cell x8
      have uu9 := h1.cell x9
      go_wp2_with fail
      exact Post.isv (Ext.refl _) rfl rfl rfl
    apply Stage.step (Is (.bool r)) [false, false, false, false, false, false, false, false, false, false, true, false, false, true] (Is.keeps _) (by kernel_rfl)
    · intro w1 h1
      simp only [List.nil_append, List.cons_append, Given]
      rintro _ rfl
      rintro _ rfl
      go_wp2_with fail
      refine (ref_RightMsg (m := ⟨q1, q2, q3, q4, q5, q6, [], qb, qc, qd⟩) (lW.ext h1) HF HSH HR2).mono ?_
      rintro e w2 ⟨rfl, hx2⟩
      go_wp2_with fail
      exact Post.isv hx2 rfl rfl rfl
    apply Stage.step (Is (.bool true)) [false, false, false, false, false, false, false, false, false, false, true, false, true, false, true] (Is.keeps _) (by kernel_rfl)
    · intro w1 h1
      simp only [List.nil_append, List.cons_append, Given]
      rintro _ rfl
      rintro _ rfl
      rintro _ rfl
      go_wp2_with fail
      exact Post.isv (Ext.refl _) rfl rfl rfl
    apply Stage.step (Is (.bool true)) [false, false, false, false, false, false, false, false, false, false, true, false, false, false, false, true] (Is.keeps _) (by kernel_rfl)
    · intro w1 h1
      simp only [List.nil_append, List.cons_append, Given]
      rintro _ rfl
      rintro _ rfl
      go_wp2_with fail
      exact Post.isv (Ext.refl _) rfl rfl rfl
    apply Stage.step (Is _) [false, false, false, false, false, false, false, false, false, false, false, false, false, false, false, false, true] (Is.keeps _) (by kernel_rfl)
    · intro w1 h1
      simp only [List.nil_append, List.cons_append, Given]
      rintro _ rfl
      go_wp2_with fail
      exact Post.isv (Ext.refl _) rfl rfl rfl
    apply Stage.step (Is (msV ⟨q1, q2, q3, q4, q5, q6, qa, qb, qc, qd⟩ U1 Un1 Uc1 U2 Un2 Uc2 U3 Un3 Uc3 U4 Un4 Uc4)) [false, false, false, false, false, false, false, false, false, false, false, false, false, false, false, false, false, true] (Is.keeps _) (by kernel_rfl)
    · intro w1 h1
      simp only [List.nil_append, List.cons_append, Given]
      rintro _ rfl
      have uu0 := h1.cell b0
      have uu1 := h1.cell b1
      have uu2 := h1.cell b2
      have uu3 := h1.cell b3
      have uu4 := h1.cell b4
      have uu5 := h1.cell b5
      have uu6 := h1.cell b6
      have uu7 := h1.cell b7
      have uu8 := h1.cell b8
      have uu9 := h1.cell b9
      go_wp2_with fail
      exact Post.isv (Ext.refl _) rfl rfl rfl
    apply Stage.step (Is (.bool true)) [false, false, false, false, false, false, false, false, false, false, false, false, false, false, false, false, false, true, true] (Is.keeps _) (by kernel_rfl)
    · intro w1 h1
      simp only [List.nil_append, List.cons_append, Given]
      rintro _ rfl
      rintro _ rfl
      go_wp2_with fail
      refine (msg_Right (m := ⟨q1, q2, q3, q4, q5, q6, qa, qb, qc, qd⟩) (l1.ext h1) HF HSH HR).mono ?_
      rintro e w2 ⟨rfl, hx2⟩
      go_wp2_with fail
      exact Post.isv hx2 rfl rfl rfl
    apply Stage.step (Is (.bool true)) [false, false, false, false, false, false, false, false, false, false, false, false, false, false, false, false, false, true, false, true] (Is.keeps _) (by kernel_rfl)
    · intro w1 h1
      simp only [List.nil_append, List.cons_append, Given]
      rintro _ rfl
      rintro _ rfl
      go_wp2_with fail
      exact Post.isv (Ext.refl _) rfl rfl rfl
    apply Stage.step (Is _) [false, false, false, false, false, false, false, false, false, false, false, false, false, false, false, false, false, false, false, false, true] (Is.keeps _) (by kernel_rfl)
    · intro w1 h1
      simp only [List.nil_append, List.cons_append, Given]
      rintro _ rfl
      go_wp2_with fail
      exact Post.isv (Ext.refl _) rfl rfl rfl
    apply Stage.step (Is (.bool true)) [false, false, false, false, false, false, false, false, false, false, false, false, false, false, false, false, false, false, false, false, false, true] (Is.keeps _) (by kernel_rfl)
    · intro w1 h1
      simp only [List.nil_append, List.cons_append, Given]
      rintro _ rfl
      go_wp2_with fail
      refine (law9_known _).mono ?_
      rintro e w2 ⟨rfl, hx2⟩
      go_wp2_with fail
      exact Post.isv hx2 rfl rfl rfl
    apply Stage.step (Is (.bool true)) [false, false, false, false, false, false, false, false, false, false, false, false, false, false, false, false, false, false, false, false, false, true, true] (Is.keeps _) (by kernel_rfl)
    · intro w1 h1
      simp only [List.nil_append, List.cons_append, Given]
      rintro _ rfl
      rintro _ rfl
      go_wp2_with fail
      exact Post.isv (Ext.refl _) rfl rfl rfl
    apply Stage.step (Is _) [false, false, false, false, false, false, false, false, false, false, false, false, false, false, false, false, false, false, false, false, false, false, false, true] (Is.keeps _) (by kernel_rfl)
    · intro w1 h1
      simp only [List.nil_append, List.cons_append, Given]
      rintro _ rfl
      go_wp2_with fail
      exact Post.isv (Ext.refl _) rfl rfl rfl
    apply Stage.nil
    intro w1 h1
    simp only [List.nil_append, List.cons_append]
    refine Fin.is_ ?_
    refine Fin.is_ ?_
    refine Fin.is_ ?_
    refine Fin.is_ ?_
    refine Fin.is_ ?_
    refine Fin.is_ ?_
    refine Fin.is_ ?_
    refine Fin.is_ ?_
    refine Fin.is_ ?_
    refine Fin.is_ ?_
    refine Fin.is_ ?_
    refine Fin.is_ ?_
    refine Fin.is_ ?_
    refine Fin.is_ ?_
    refine Fin.is_ ?_
    refine Fin.is_ ?_
    refine Fin.is_ ?_
    refine Fin.is_ ?_
    refine Fin.is_ ?_
    refine Fin.is_ ?_
    refine Fin.is_ ?_
    refine Fin.is_ ?_
    refine Fin.is_ ?_
    refine Fin.is_ ?_
    refine Fin.is_ ?_
    refine Fin.nil_ ?_
    go_simp
    go_wp2_with fail
    go_ret
    exact ⟨rfl, gx7.trans h1⟩
  · skip
    obtain ⟨w4, hw4⟩ : ∃ q, q = w3.alloc (.cells #[.int .i64 q1, .int .i64 q2, .int .i64 q3, .int .i64 q4, .int .i64 q5, .int .i64 q6, .slice U1 Un1 Uc1, .slice U2 Un2 Uc2, .slice U3 Un3 Uc3, .slice U4 Un4 Uc4] TMs) := ⟨_, rfl⟩
    have gx4 : Ext w3 w4 := by rw [hw4]; exact Ext.alloc _ _
    have hsz4 : w4.heap.size = w3.heap.size + 1 := by rw [hw4]; simp
    have B4 : Hid (w4.heap[w3.heap.size]? = some (.cells (msC ⟨q1, q2, q3, q4, q5, q6, qa, qb, qc, qd⟩ U1 Un1 Uc1 U2 Un2 Uc2 U3 Un3 Uc3 U4 Un4 Uc4) TMs (0, 0))) := by unfold Hid; rw [hw4]; exact heap_alloc_new _ _
    go_upto_region 25 with (first | (at_builtin; rw [← hw4]; refine wpList_append_mine (o := ⟨some 62, _, _, _, _, _⟩) _ rfl _ _ _ _ rfl w4.heap.size U8 i0 _ 1 1 under_bytes hi0 hz0 hz1 hz2 rfl _ 0 0 _ rfl (Own.nil _ _ _ _ _) _ rfl n2 (p.map bv) (((hpw.ext gx4).ext (Ext.alloc _ _)).src under_bytes) (by simp only [maxLen]; omega) (by omega) (by simp) ?_; intro A5 c5 w5 hown hg _; simp only [Nat.zero_add, List.nil_append] at hown; have hx5 := (Ext.alloc w4 _).trans (grown_nil hg); clear hg) | (at_builtin; refine wpList_append_mine (o := ⟨some 64, _, _, _, _, _⟩) _ rfl _ _ _ _ rfl w4.heap.size U8 i0 _ 1 1 under_bytes hi0 hz0 hz1 hz2 rfl A5 n2 c5 _ rfl (hown.alloc _) _ rfl 1 _ (src_one under_bytes _ rfl) (by simp only [maxLen]; omega) (by omega) (hx5.trans (Ext.alloc _ _)).size ?_; intro A6 c6 w6 hown6 hg6 _; have h6 := Byt.more (l2 := [1]) hpw.len rfl hown6 rfl; have hx6 : Ext w4 w6 := below_grown (hx5.trans (Ext.alloc _ _)) (hown.alloc _) hg6 (hx5.trans (Ext.alloc _ _)).size; have B6 := Lib.hid (blk_ext B4.out hx6); have z9 := blk_cell B6.out 9; have z9f := blk_frozen B6.out 9; clear hown hown6 hg6 hx5))
    obtain ⟨wf, hwf⟩ : ∃ q, q = w6.setCell ⟨w3.heap.size, 9, none⟩ (.slice A6 (n2 + 1) c6) := ⟨_, rfl⟩
    have hx3f : Ext w3 wf := by rw [hwf]; exact (gx4.trans hx6).sets (p := ⟨w3.heap.size, 9, none⟩) (Nat.le_refl _) _
    have BW : wf.heap[w3.heap.size]? = some (.cells (msC ⟨q1, q2, q3, q4, q5, q6, qa, qb, qc, p ++ [1]⟩ U1 Un1 Uc1 U2 Un2 Uc2 U3 Un3 Uc3 A6 (n2 + 1) c6) TMs (0, 0)) := by
      rw [hwf]
      have := blk_set B6.out 9 (.slice A6 (n2 + 1) c6)
      simpa using this
    have hfr := h6.fsl.fr
    have hsl : Sl wf A6 (n2 + 1) c6 (p ++ [1]) := by
      rw [hwf]
      exact h6.sl.keepBlk (fun ad e h => Below.heap_setCell _ _ _ _ (by have := hfr ad e h; simp only; omega))
    have LW : Hid (MsR wf ⟨q1, q2, q3, q4, q5, q6, qa, qb, qc, p ++ [1]⟩ U1 Un1 Uc1 U2 Un2 Uc2 U3 Un3 Uc3 A6 (n2 + 1) c6) := ⟨(l1.ext hx3f).ch, (l1.ext hx3f).en, (l1.ext hx3f).ms, hsl⟩
    have n99 := hsl.n63
    have x0 : wf.cell? ⟨w3.heap.size, 0, none⟩ = some (.int .i64 q1) := blk_cell BW 0
    replace b0 := hx3f.cell b0
    have x1 : wf.cell? ⟨w3.heap.size, 1, none⟩ = some (.int .i64 q2) := blk_cell BW 1
    replace b1 := hx3f.cell b1
    have x2 : wf.cell? ⟨w3.heap.size, 2, none⟩ = some (.int .i64 q3) := blk_cell BW 2
    replace b2 := hx3f.cell b2
    have x3 : wf.cell? ⟨w3.heap.size, 3, none⟩ = some (.int .i64 q4) := blk_cell BW 3
    replace b3 := hx3f.cell b3
    have x4 : wf.cell? ⟨w3.heap.size, 4, none⟩ = some (.int .i64 q5) := blk_cell BW 4
    replace b4 := hx3f.cell b4
    have x5 : wf.cell? ⟨w3.heap.size, 5, none⟩ = some (.int .i64 q6) := blk_cell BW 5
    replace b5 := hx3f.cell b5
    have x6 : wf.cell? ⟨w3.heap.size, 6, none⟩ = some (.slice U1 Un1 Uc1) := blk_cell BW 6
    replace b6 := hx3f.cell b6
    have x7 : wf.cell? ⟨w3.heap.size, 7, none⟩ = some (.slice U2 Un2 Uc2) := blk_cell BW 7
    replace b7 := hx3f.cell b7
    have x8 : wf.cell? ⟨w3.heap.size, 8, none⟩ = some (.slice U3 Un3 Uc3) := blk_cell BW 8
    replace b8 := hx3f.cell b8
    have x9 : wf.cell? ⟨w3.heap.size, 9, none⟩ = some (.slice A6 (n2 + 1) c6) := blk_cell BW 9
    replace b9 := hx3f.cell b9
    rw [← hwf]
    clear hwf
    have GXW := Lib.hid (gx1.trans hx3f)
    replace l1 := l1.ext hx3f
    clear hx3f gx1 hsl hfr BW B6 B4 z9 z9f h6 hx6 gx4 hw4 hsz4 hpw
    go_wp2_with fail
    obtain ⟨r, hr⟩ : ∃ q, rightM ⟨q1, q2, q3, q4, q5, q6, qa, qb, qc, p ++ [1]⟩ = q := ⟨_, rfl⟩
    have HR2 := Lib.hid hr
    obtain ⟨M, hM⟩ : ∃ q, putMr ⟨q1, q2, q3, q4, q5, q6, qa, qb, qc, p ++ [1]⟩ r = q := ⟨_, rfl⟩
    have HM2 := Lib.hid hM
    clear hr hM
    refine (msg_Put (m := ⟨q1, q2, q3, q4, q5, q6, qa, qb, qc, p ++ [1]⟩) LW.out HF HSH HR2 HM2).mono ?_
    rintro e w7 ⟨A7, n7, c7, rfl, hb7, hx7⟩
    obtain ⟨er, her⟩ : ∃ q : Int, (if r = true then (0 : Int) else 1) = q := ⟨_, rfl⟩
    rw [her]
    have HER := Lib.hid her
    clear her
    replace x0 := hx7.cell x0
    replace b0 := hx7.cell b0
    replace x1 := hx7.cell x1
    replace b1 := hx7.cell b1
    replace x2 := hx7.cell x2
    replace b2 := hx7.cell b2
    replace x3 := hx7.cell x3
    replace b3 := hx7.cell b3
    replace x4 := hx7.cell x4
    replace b4 := hx7.cell b4
    replace x5 := hx7.cell x5
    replace b5 := hx7.cell b5
    replace x6 := hx7.cell x6
    replace b6 := hx7.cell b6
    replace x7 := hx7.cell x7
    replace b7 := hx7.cell b7
    replace x8 := hx7.cell x8
    replace b8 := hx7.cell b8
    replace x9 := hx7.cell x9
    replace b9 := hx7.cell b9
    have gx7 := GXW.out.trans hx7
    have lW := LW.out.ext hx7
    replace l1 := l1.ext hx7
    have n77 := hb7.sl.n63
    clear GXW hx7 LW
    go_wp2_with fail
    refine (ref_PutMsg (m := ⟨q1, q2, q3, q4, q5, q6, qa, qb, qc, p ++ [1]⟩) lW HF HSH HR2 HM2).mono ?_
    rintro e w8 ⟨A8, n8, c8, rfl, hb8, hx8⟩
    rw [HER.out]
    replace x0 := hx8.cell x0
    replace b0 := hx8.cell b0
    replace x1 := hx8.cell x1
    replace b1 := hx8.cell b1
    replace x2 := hx8.cell x2
    replace b2 := hx8.cell b2
    replace x3 := hx8.cell x3
    replace b3 := hx8.cell b3
    replace x4 := hx8.cell x4
    replace b4 := hx8.cell b4
    replace x5 := hx8.cell x5
    replace b5 := hx8.cell b5
    replace x6 := hx8.cell x6
    replace b6 := hx8.cell b6
    replace x7 := hx8.cell x7
    replace b7 := hx8.cell b7
    replace x8 := hx8.cell x8
    replace b8 := hx8.cell b8
    replace x9 := hx8.cell x9
    replace b9 := hx8.cell b9
    replace gx7 := gx7.trans hx8
    replace lW := lW.ext hx8
    replace l1 := l1.ext hx8
    have tb7 := hb7.sl.ext hx8
    have tb8 := hb8.sl
    have n88 := hb8.sl.n63
    clear hx8 hb7 hb8 HER HM2
    go_wp2_with fail
    refine wp_region_typed Ext.steady rfl 127 rfl (by kernel_rfl) ?_
    apply Stage.step (Is _) [] (Is.keeps _) (by kernel_rfl)
    · intro w1 h1
      simp only [Given]
      go_wp2_with fail
      exact Post.isv (Ext.refl _) rfl rfl rfl
    apply Stage.step (Is (.string ⟨M.toArray⟩)) [true] (Is.keeps _) (by kernel_rfl)
    · intro w1 h1
      simp only [List.nil_append, Given]
      rintro _ rfl
      have tx := run_text_u8 (tb7.ext h1)
      go_wp2_with fail
      exact Post.isv (Ext.refl _) rfl rfl rfl
    apply Stage.step (Is _) [] (Is.keeps _) (by kernel_rfl)
    · intro w1 h1
      simp only [Given]
      go_wp2_with fail
      exact Post.isv (Ext.refl _) rfl rfl rfl
    apply Stage.step (Is (.string ⟨M.toArray⟩)) [false, false, true] (Is.keeps _) (by kernel_rfl)
    · intro w1 h1
      simp only [List.nil_append, List.cons_append, Given]
      rintro _ rfl
      have tx := run_text_u8 (tb8.ext h1)
      go_wp2_with fail
      exact Post.isv (Ext.refl _) rfl rfl rfl
    apply Stage.step (Is (.bool true)) [false, true, false, true] (Is.keeps _) (by kernel_rfl)
    · intro w1 h1
      simp only [List.nil_append, List.cons_append, Given]
      rintro _ rfl
      rintro _ rfl
      go_wp2_with fail
      exact Post.isv (Ext.refl _) rfl rfl rfl
    apply Stage.step (Is _) [false, false, false, false, true] (Is.keeps _) (by kernel_rfl)
    · intro w1 h1
      simp only [List.nil_append, List.cons_append, Given]
      rintro _ rfl
      go_wp2_with fail
      exact Post.isv (Ext.refl _) rfl rfl rfl
    apply Stage.step (Is _) [false, false, false, false, false, true] (Is.keeps _) (by kernel_rfl)
    · intro w1 h1
      simp only [List.nil_append, List.cons_append, Given]
      rintro _ rfl
      go_wp2_with fail
      exact Post.isv (Ext.refl _) rfl rfl rfl
    apply Stage.step (Is _) [false, false, false, false, false, true] (Is.keeps _) (by kernel_rfl)
    · intro w1 h1
      simp only [List.nil_append, List.cons_append, Given]
      rintro _ rfl
      go_wp2_with fail
      exact Post.isv (Ext.refl _) rfl rfl rfl
    apply Stage.step (Is (.bool true)) [false, false, false, false, false, true, true, true] (Is.keeps _) (by kernel_rfl)
    · intro w1 h1
      simp only [List.nil_append, List.cons_append, Given]
      rintro _ rfl
      rintro _ rfl
      rintro _ rfl
      go_wp2_with fail
      exact Post.isv (Ext.refl _) rfl rfl rfl
    apply Stage.step (Is (.bool true)) [false, false, false, false, false, true, false, false, true] (Is.keeps _) (by kernel_rfl)
    · intro w1 h1
      simp only [List.nil_append, List.cons_append, Given]
      rintro _ rfl
      rintro _ rfl
      go_wp2_with fail
      exact Post.isv (Ext.refl _) rfl rfl rfl
    apply Stage.step (Is _) [false, false, false, false, false, false, false, false, false, true] (Is.keeps _) (by kernel_rfl)
    · intro w1 h1
      simp only [List.nil_append, List.cons_append, Given]
      rintro _ rfl
      go_wp2_with fail
      exact Post.isv (Ext.refl _) rfl rfl rfl
    apply Stage.step (Is (msV ⟨q1, q2, q3, q4, q5, q6, qa, qb, qc, p ++ [1]⟩ U1 Un1 Uc1 U2 Un2 Uc2 U3 Un3 Uc3 A6 (n2 + 1) c6)) [false, false, false, false, false, false, false, false, false, false, true] (Is.keeps _) (by kernel_rfl)
    · intro w1 h1
      simp only [List.nil_append, List.cons_append, Given]
      rintro _ rfl
      have uu0 := h1.cell x0
      have uu1 := h1.cell x1
      have uu2 := h1.cell x2
      have uu3 := h1.cell x3
      have uu4 := h1.cell x4
      have uu5 := h1.cell x5
      have uu6 := h1.cell x6
      have uu7 := h1.cell x7
      have uu8 := h1.cell x8
      have uu9 := h1.cell x9
      go_wp2_with fail
      exact Post.isv (Ext.refl _) rfl rfl rfl
    apply Stage.step (Is (.bool r)) [false, false, false, false, false, false, false, false, false, false, true, true] (Is.keeps _) (by kernel_rfl)
    · intro w1 h1
      simp only [List.nil_append, List.cons_append, Given]
      rintro _ rfl
      rintro _ rfl
      go_wp2_with fail
      refine (msg_Right (m := ⟨q1, q2, q3, q4, q5, q6, qa, qb, qc, p ++ [1]⟩) (lW.ext h1) HF HSH HR2).mono ?_
      rintro e w2 ⟨rfl, hx2⟩
      go_wp2_with fail
      exact Post.isv hx2 rfl rfl rfl
    apply Stage.step (Is (msV ⟨q1, q2, q3, q4, q5, q6, qa, qb, qc, p ++ [1]⟩ U1 Un1 Uc1 U2 Un2 Uc2 U3 Un3 Uc3 A6 (n2 + 1) c6)) [false, false, false, false, false, false, false, false, false, false, true] (Is.keeps _) (by kernel_rfl)
    · intro w1 h1
      simp only [List.nil_append, List.cons_append, Given]
      rintro _ rfl
      have uu0 := h1.cell x0
      have uu1 := h1.cell x1
      have uu2 := h1.cell x2
      have uu3 := h1.cell x3
      have uu4 := h1.cell x4
      have uu5 := h1.cell x5
      have uu6 := h1.cell x6
      have uu7 := h1.cell x7
      have uu8 := h1.cell x8
      have uu9 := h1.cell x9
      go_wp2_with fail
      exact Post.isv (Ext.refl _) rfl rfl rfl
    apply Stage.step (Is (.bool r)) [false, false, false, false, false, false, false, false, false, false, true, false, false, true] (Is.keeps _) (by kernel_rfl)
    · intro w1 h1
      simp only [List.nil_append, List.cons_append, Given]
      rintro _ rfl
      rintro _ rfl
      go_wp2_with fail
      refine (ref_RightMsg (m := ⟨q1, q2, q3, q4, q5, q6, qa, qb, qc, p ++ [1]⟩) (lW.ext h1) HF HSH HR2).mono ?_
      rintro e w2 ⟨rfl, hx2⟩
      go_wp2_with fail
      exact Post.isv hx2 rfl rfl rfl
    apply Stage.step (Is (.bool true)) [false, false, false, false, false, false, false, false, false, false, true, false, true, false, true] (Is.keeps _) (by kernel_rfl)
    · intro w1 h1
      simp only [List.nil_append, List.cons_append, Given]
      rintro _ rfl
      rintro _ rfl
      rintro _ rfl
      go_wp2_with fail
      exact Post.isv (Ext.refl _) rfl rfl rfl
    apply Stage.step (Is (.bool true)) [false, false, false, false, false, false, false, false, false, false, true, false, false, false, false, true] (Is.keeps _) (by kernel_rfl)
    · intro w1 h1
      simp only [List.nil_append, List.cons_append, Given]
      rintro _ rfl
      rintro _ rfl
      go_wp2_with fail
      exact Post.isv (Ext.refl _) rfl rfl rfl
    apply Stage.step (Is _) [false, false, false, false, false, false, false, false, false, false, false, false, false, false, false, false, true] (Is.keeps _) (by kernel_rfl)
    · intro w1 h1
      simp only [List.nil_append, List.cons_append, Given]
      rintro _ rfl
      go_wp2_with fail
      exact Post.isv (Ext.refl _) rfl rfl rfl
    apply Stage.step (Is (msV ⟨q1, q2, q3, q4, q5, q6, qa, qb, qc, qd⟩ U1 Un1 Uc1 U2 Un2 Uc2 U3 Un3 Uc3 U4 Un4 Uc4)) [false, false, false, false, false, false, false, false, false, false, false, false, false, false, false, false, false, true] (Is.keeps _) (by kernel_rfl)
    · intro w1 h1
      simp only [List.nil_append, List.cons_append, Given]
      rintro _ rfl
      have uu0 := h1.cell b0
      have uu1 := h1.cell b1
      have uu2 := h1.cell b2
      have uu3 := h1.cell b3
      have uu4 := h1.cell b4
      have uu5 := h1.cell b5
      have uu6 := h1.cell b6
      have uu7 := h1.cell b7
      have uu8 := h1.cell b8
      have uu9 := h1.cell b9
      go_wp2_with fail
      exact Post.isv (Ext.refl _) rfl rfl rfl
    apply Stage.step (Is (.bool true)) [false, false, false, false, false, false, false, false, false, false, false, false, false, false, false, false, false, true, true] (Is.keeps _) (by kernel_rfl)
    · intro w1 h1
      simp only [List.nil_append, List.cons_append, Given]
      rintro _ rfl
      rintro _ rfl
      go_wp2_with fail
      refine (msg_Right (m := ⟨q1, q2, q3, q4, q5, q6, qa, qb, qc, qd⟩) (l1.ext h1) HF HSH HR).mono ?_
      rintro e w2 ⟨rfl, hx2⟩
      go_wp2_with fail
      exact Post.isv hx2 rfl rfl rfl
    apply Stage.step (Is (.bool true)) [false, false, false, false, false, false, false, false, false, false, false, false, false, false, false, false, false, true, false, true] (Is.keeps _) (by kernel_rfl)
    · intro w1 h1
      simp only [List.nil_append, List.cons_append, Given]
      rintro _ rfl
      rintro _ rfl
      go_wp2_with fail
      exact Post.isv (Ext.refl _) rfl rfl rfl
    apply Stage.step (Is _) [false, false, false, false, false, false, false, false, false, false, false, false, false, false, false, false, false, false, false, false, true] (Is.keeps _) (by kernel_rfl)
    · intro w1 h1
      simp only [List.nil_append, List.cons_append, Given]
      rintro _ rfl
      go_wp2_with fail
      exact Post.isv (Ext.refl _) rfl rfl rfl
    apply Stage.step (Is (.bool true)) [false, false, false, false, false, false, false, false, false, false, false, false, false, false, false, false, false, false, false, false, false, true] (Is.keeps _) (by kernel_rfl)
    · intro w1 h1
      simp only [List.nil_append, List.cons_append, Given]
      rintro _ rfl
      go_wp2_with fail
      refine (law9_known _).mono ?_
      rintro e w2 ⟨rfl, hx2⟩
      go_wp2_with fail
      exact Post.isv hx2 rfl rfl rfl
    apply Stage.step (Is (.bool true)) [false, false, false, false, false, false, false, false, false, false, false, false, false, false, false, false, false, false, false, false, false, true, true] (Is.keeps _) (by kernel_rfl)
    · intro w1 h1
      simp only [List.nil_append, List.cons_append, Given]
      rintro _ rfl
      rintro _ rfl
      go_wp2_with fail
      exact Post.isv (Ext.refl _) rfl rfl rfl
    apply Stage.step (Is _) [false, false, false, false, false, false, false, false, false, false, false, false, false, false, false, false, false, false, false, false, false, false, false, true] (Is.keeps _) (by kernel_rfl)
    · intro w1 h1
      simp only [List.nil_append, List.cons_append, Given]
      rintro _ rfl
      go_wp2_with fail
      exact Post.isv (Ext.refl _) rfl rfl rfl
    apply Stage.nil
    intro w1 h1
    simp only [List.nil_append, List.cons_append]
    refine Fin.is_ ?_
    refine Fin.is_ ?_
    refine Fin.is_ ?_
    refine Fin.is_ ?_
    refine Fin.is_ ?_
    refine Fin.is_ ?_
    refine Fin.is_ ?_
    refine Fin.is_ ?_
    refine Fin.is_ ?_
    refine Fin.is_ ?_
    refine Fin.is_ ?_
    refine Fin.is_ ?_
    refine Fin.is_ ?_
    refine Fin.is_ ?_
    refine Fin.is_ ?_
    refine Fin.is_ ?_
    refine Fin.is_ ?_
    refine Fin.is_ ?_
    refine Fin.is_ ?_
    refine Fin.is_ ?_
    refine Fin.is_ ?_
    refine Fin.is_ ?_
    refine Fin.is_ ?_
    refine Fin.is_ ?_
    refine Fin.is_ ?_
    refine Fin.nil_ ?_
    go_simp
    go_wp2_with fail
    go_ret
    exact ⟨rfl, gx7.trans h1⟩
end Go.Proofs.Ytoeknbogaclfdaa
