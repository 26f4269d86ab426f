/-
  The walk of one statement of chapter 15: there and back.
-/
import Derived.Test.YtcklkjklepmabaaZWay
import Derived.Test.YtcklkjklepmabaaZDiffKnown
import Derived.Test.YtcklkjklepmabaaZStNew
import Derived.Test.YtcklkjklepmabaaZOpenEvs
import Derived.Test.YtcklkjklepmabaaZBoxTy
namespace Go.Proofs.Ytcklkjklepmabaa
open Go.RowKit
set_option linter.unusedVariables false
set_option linter.unusedSimpArgs false
set_option linter.unnecessarySimpa false
set_option maxRecDepth 100000

def EvsT (l : List Ev) : Ty := fun v w => ∃ A n c, v = .slice A n c ∧ Lst 5 evR w A n c l
theorem EvsT.keeps (l : List Ev) : Keeps Ext (EvsT l) := fun _ _ _ hx ⟨A, n, c, e, h⟩ => ⟨A, n, c, e, h.ext ev_rep hx⟩
set_option maxHeartbeats 8000000 in
theorem law_DiffTurns (z : Int) (A : Option Addr) (n c : Nat) (one : List Ev) (A' : Option Addr) (n' c' : Nat) (two : List Ev) (A'' : Option Addr) (n'' c'' : Nat) (three : List Ev) (w : World) (hz1 : -9223372036854775808 ≤ z) (hz2 : z ≤ 9223372036854775807) (h : Lst 5 evR w A n c one) (h' : Lst 5 evR w A' n' c' two) (h'' : Lst 5 evR w A'' n'' c'' three) :
    Calls Try.prog 19 #[.int .i64 z, .slice A n c, .slice A' n' c', .slice A'' n'' c''] w fun e w' => e = .returned (.bool true) ∧ Ext w w' := by
  have h63 := h.n63
  have h63' := h'.n63
  have h63'' := h''.n63
  obtain ⟨f, hf⟩ : ∃ q, smallB one 30 = q := ⟨_, rfl⟩
  obtain ⟨f2, hf2⟩ : ∃ q, smallB two 30 = q := ⟨_, rfl⟩
  obtain ⟨f3, hf3⟩ : ∃ q, smallB three 30 = q := ⟨_, rfl⟩
  have HF := Lib.hid hf
  have HF2 := Lib.hid hf2
  have HF3 := Lib.hid hf3
  clear hf hf2 hf3
  cases f with
  | false =>
    go_enter Try.func19, Try.ntmps19
    go_wp2_with fail
    refine (keep_Small h (m := 30) (by decide) HF).mono ?_
    rintro e w1 ⟨rfl, gq⟩
    go_wp2_with fail
    refine (law15_known _).mono ?_
    rintro e w9 ⟨rfl, hx1⟩
    go_wp2_with fail
    go_ret
    exact ⟨rfl, gq.trans hx1⟩
  | true =>
    cases f2 with
    | false =>
      go_enter Try.func19, Try.ntmps19
      go_wp2_with fail
      refine (keep_Small h (m := 30) (by decide) HF).mono ?_
      rintro e w1 ⟨rfl, gq⟩
      have gx := gq
      go_wp2_with fail
      refine (keep_Small (h'.ext ev_rep gx) (m := 30) (by decide) HF2).mono ?_
      rintro e w1 ⟨rfl, gq⟩
      replace gx := gx.trans gq
      go_wp2_with fail
      refine (law15_known _).mono ?_
      rintro e w9 ⟨rfl, hx1⟩
      go_wp2_with fail
      go_ret
      exact ⟨rfl, gx.trans hx1⟩
    | true =>
      cases f3 with
      | false =>
        go_enter Try.func19, Try.ntmps19
        go_wp2_with fail
        refine (keep_Small h (m := 30) (by decide) HF).mono ?_
        rintro e w1 ⟨rfl, gq⟩
        have gx := gq
        go_wp2_with fail
        refine (keep_Small (h'.ext ev_rep gx) (m := 30) (by decide) HF2).mono ?_
        rintro e w1 ⟨rfl, gq⟩
        replace gx := gx.trans gq
        go_wp2_with fail
        refine (keep_Small (h''.ext ev_rep gx) (m := 30) (by decide) HF3).mono ?_
        rintro e w1 ⟨rfl, gq⟩
        replace gx := gx.trans gq
        go_wp2_with fail
        refine (law15_known _).mono ?_
        rintro e w9 ⟨rfl, hx1⟩
        go_wp2_with fail
        go_ret
        exact ⟨rfl, gx.trans hx1⟩
      | true =>
        have rt0 := right_new z
        obtain ⟨S0, hS0⟩ : ∃ S, newS z = S := ⟨_, rfl⟩
        rw [hS0] at rt0
        have rt1 := right_fold rt0 one
        obtain ⟨S1, hS1⟩ : ∃ S, foldS S0 one = S := ⟨_, rfl⟩
        rw [hS1] at rt1
        have rt2 := right_fold rt0 two
        obtain ⟨S2, hS2⟩ : ∃ S, foldS S0 two = S := ⟨_, rfl⟩
        rw [hS2] at rt2
        have rt3 := right_fold rt2 three
        obtain ⟨S3, hS3⟩ : ∃ S, foldS S2 three = S := ⟨_, rfl⟩
        rw [hS3] at rt3
        have ok0 := okS_right rt0
        have ok1 := okS_right rt1
        have ok2 := okS_right rt2
        have ok3 := okS_right rt3
        have l12 := Lib.hid (led_fold (way_leads rt1 rt2))
        have l21 := Lib.hid (led_fold (way_leads rt2 rt1))
        have l13 := Lib.hid (led_fold (way_leads rt1 rt3))
        have l32 := Lib.hid (led_fold (way_leads rt3 rt2))
        have HS0 := Lib.hid hS0
        have HS1 := Lib.hid hS1
        have HS2 := Lib.hid hS2
        have HS3 := Lib.hid hS3
        have HW1 := Lib.hid (way_self S1)
        have HW3 := Lib.hid (way_self S3)
        clear hS0 hS1 hS2 hS3 rt0 rt1 rt2 rt3
        go_enter Try.func19, Try.ntmps19
        go_wp2_with fail
        refine (keep_Small h (m := 30) (by decide) HF).mono ?_
        rintro e w1 ⟨rfl, gq⟩
        have gx := gq
        go_wp2_with fail
        refine (keep_Small (h'.ext ev_rep gx) (m := 30) (by decide) HF2).mono ?_
        rintro e w1 ⟨rfl, gq⟩
        replace gx := gx.trans gq
        go_wp2_with fail
        refine (keep_Small (h''.ext ev_rep gx) (m := 30) (by decide) HF3).mono ?_
        rintro e w1 ⟨rfl, gq⟩
        replace gx := gx.trans gq
        clear gq
        go_wp2_with fail
        refine (model_New z _).mono ?_
        rintro e w2 ⟨A2, n2, c2, rfl, k1, gq⟩
        have b2 := k1.1.n63
        rw [HS0.out] at k1
        replace gx := gx.trans gq
        clear gq
        go_wp2_with fail
        refine (model_Fold k1 ok0 (h.ext ev_rep gx)).mono ?_
        rintro e w3 ⟨A3, n3, c3, B3, m3, d3, rfl, ua, gq⟩
        rw [HS1.out] at ua
        have b3 := ua.st.1.n63
        have bb3 := ua.st.2.n63
        replace gx := gx.trans gq
        clear gq
        obtain ⟨w3b, hW⟩ : ∃ q, w3.alloc (.cells #[.slice A3 n3 c3, .slice B3 m3 d3] TSt) = q := ⟨_, rfl⟩
        obtain ⟨blkp, hgp⟩ : ∃ q, w3.heap.size = q := ⟨_, rfl⟩
        have gq : Ext w3 w3b := by rw [← hW]; exact Ext.alloc _ _
        have p0 : w3b.cell? ⟨blkp, 0, none⟩ = some (.slice A3 n3 c3) := by rw [← hW, ← hgp]; exact cell_new w3 _ _ 0
        have p1 : w3b.cell? ⟨blkp, 1, none⟩ = some (.slice B3 m3 d3) := by rw [← hW, ← hgp]; exact cell_new w3 _ _ 1
        replace ua := ua.ext gq
        replace gx := gx.trans gq
        clear gq
        go_wp2_with fail
        clear hW hgp
        refine (model_New z _).mono ?_
        rintro e w4 ⟨A4, n4, c4, rfl, k1, gq⟩
        have b4 := k1.1.n63
        rw [HS0.out] at k1
        replace p0 := gq.cell p0
        replace p1 := gq.cell p1
        replace ua := ua.ext gq
        replace gx := gx.trans gq
        clear gq
        go_wp2_with fail
        refine (model_Fold k1 ok0 (h'.ext ev_rep gx)).mono ?_
        rintro e w5 ⟨A5, n5, c5, B5, m5, d5, rfl, ub, gq⟩
        rw [HS2.out] at ub
        have b5 := ub.st.1.n63
        have bb5 := ub.st.2.n63
        replace p0 := gq.cell p0
        replace p1 := gq.cell p1
        replace ua := ua.ext gq
        replace gx := gx.trans gq
        clear gq
        obtain ⟨w5b, hW⟩ : ∃ q, w5.alloc (.cells #[.slice A5 n5 c5, .slice B5 m5 d5] TSt) = q := ⟨_, rfl⟩
        obtain ⟨blkq, hgq⟩ : ∃ q, w5.heap.size = q := ⟨_, rfl⟩
        have gq : Ext w5 w5b := by rw [← hW]; exact Ext.alloc _ _
        have q0 : w5b.cell? ⟨blkq, 0, none⟩ = some (.slice A5 n5 c5) := by rw [← hW, ← hgq]; exact cell_new w5 _ _ 0
        have q1 : w5b.cell? ⟨blkq, 1, none⟩ = some (.slice B5 m5 d5) := by rw [← hW, ← hgq]; exact cell_new w5 _ _ 1
        replace p0 := gq.cell p0
        replace p1 := gq.cell p1
        replace ua := ua.ext gq
        replace ub := ub.ext gq
        replace gx := gx.trans gq
        clear gq
        go_wp2_with fail
        clear hW hgq
        refine (model_Fold ub.st ok2 (h''.ext ev_rep gx)).mono ?_
        rintro e w6 ⟨A6, n6, c6, B6, m6, d6, rfl, uc, gq⟩
        rw [HS3.out] at uc
        have b6 := uc.st.1.n63
        have bb6 := uc.st.2.n63
        replace p0 := gq.cell p0
        replace p1 := gq.cell p1
        replace q0 := gq.cell q0
        replace q1 := gq.cell q1
        replace ua := ua.ext gq
        replace ub := ub.ext gq
        replace gx := gx.trans gq
        clear gq
        obtain ⟨w6b, hW⟩ : ∃ q, w6.alloc (.cells #[.slice A6 n6 c6, .slice B6 m6 d6] TSt) = q := ⟨_, rfl⟩
        obtain ⟨blkr, hgr⟩ : ∃ q, w6.heap.size = q := ⟨_, rfl⟩
        have gq : Ext w6 w6b := by rw [← hW]; exact Ext.alloc _ _
        have r0 : w6b.cell? ⟨blkr, 0, none⟩ = some (.slice A6 n6 c6) := by rw [← hW, ← hgr]; exact cell_new w6 _ _ 0
        have r1 : w6b.cell? ⟨blkr, 1, none⟩ = some (.slice B6 m6 d6) := by rw [← hW, ← hgr]; exact cell_new w6 _ _ 1
        replace p0 := gq.cell p0
        replace p1 := gq.cell p1
        replace q0 := gq.cell q0
        replace q1 := gq.cell q1
        replace ua := ua.ext gq
        replace ub := ub.ext gq
        replace uc := uc.ext gq
        replace gx := gx.trans gq
        clear gq
        go_wp2_with fail
        clear hW hgr
        clear k1
        refine wp_region_typed3 (R := Bux w6b.heap.size (fun _ => False)) Ext.steady (Bux.steady _ _) (fun _ _ => Bux.of_ext) rfl 82 rfl [0, 0, 0, 6, 15, 0, 0, 127, 255, 0, 1023] 1024 9 (by kernel_rfl) ?_
        -- 0: Op.load 35 t9
        apply Stage3.step (Is _) true [] true false (Is.keeps _) (fun _ => Is.keeps _) (by kernel_rfl)
        · intro γ w1 h1
          have h1 : Ext _ w1 := h1
          simp only [List.nil_append, List.cons_append, List.map_cons, List.map_nil, Given]
          have hq := h1.cell p0
          have hq2 := h1.cell p1
          go_wp2_with fail
          exact Post.isv (Ext.refl _) rfl rfl rfl
        -- 1: Op.load 35 t9
        apply Stage3.step (Is _) true [] true false (Is.keeps _) (fun _ => Is.keeps _) (by kernel_rfl)
        · intro γ w1 h1
          have h1 : Ext _ w1 := h1
          simp only [List.nil_append, List.cons_append, List.map_cons, List.map_nil, Given]
          have hq := h1.cell p0
          have hq2 := h1.cell p1
          go_wp2_with fail
          exact Post.isv (Ext.refl _) rfl rfl rfl
        -- 2: Op.load 35 t10
        apply Stage3.step (Is _) true [] true false (Is.keeps _) (fun _ => Is.keeps _) (by kernel_rfl)
        · intro γ w1 h1
          have h1 : Ext _ w1 := h1
          simp only [List.nil_append, List.cons_append, List.map_cons, List.map_nil, Given]
          have hq := h1.cell q0
          have hq2 := h1.cell q1
          go_wp2_with fail
          exact Post.isv (Ext.refl _) rfl rfl rfl
        -- 3: Op.call { value (Operand.func 28), args := #[t40, t41], argTypes := #[35, 35] }
        apply Stage3.step (EvsT (wayS S1 S2)) false [false, true, true] true false (EvsT.keeps _) (no_keeps) (by kernel_rfl)
        · intro γ w1 h1
          have h1 : Ext _ w1 := h1
          simp only [List.nil_append, List.cons_append, List.map_cons, List.map_nil, Sp3.at, Sp.pr, Given]
          rintro _ rfl
          rintro _ rfl
          go_wp2_with fail
          refine (diff_Way (ua.st.ext h1) (ub.st.ext h1) (Lib.hid rfl)).mono ?_
          rintro e w30 ⟨Al, nl, cl, rfl, hl, gq⟩
          go_wp2_with fail
          exact ⟨rfl, rfl, gq, _, _, _, rfl, hl⟩
        -- 4: Op.call { value (Operand.func 48), args := #[t39, t42], argTypes := #[35, 23] }
        apply Stage3.step (StT 0 S2) false [true, false, false, true] true false (StT.keeps _ _) (no_keeps) (by kernel_rfl)
        · intro γ w1 h1
          have h1 : Ext _ w1 := h1
          simp only [List.nil_append, List.cons_append, List.map_cons, List.map_nil, Sp3.at, Sp.pr, Given]
          rintro _ rfl
          rintro _ ⟨Al, nl, cl, rfl, hl⟩
          have bl := hl.n63
          go_wp2_with fail
          refine (model_Fold (ua.st.ext h1) ok1 hl).mono ?_
          rintro e w30 ⟨A8, n8, c8, B8, m8, d8, rfl, h8, gq⟩
          rw [l12.out] at h8
          go_wp2_with fail
          exact ⟨rfl, rfl, gq, _, _, _, _, _, _, rfl, h8.low (Nat.zero_le _)⟩
        -- 5: Op.load 35 t10
        apply Stage3.step (Is _) true [] true false (Is.keeps _) (fun _ => Is.keeps _) (by kernel_rfl)
        · intro γ w1 h1
          have h1 : Ext _ w1 := h1
          simp only [List.nil_append, List.cons_append, List.map_cons, List.map_nil, Given]
          have hq := h1.cell q0
          have hq2 := h1.cell q1
          go_wp2_with fail
          exact Post.isv (Ext.refl _) rfl rfl rfl
        -- 6: Op.load 35 t9
        apply Stage3.step (Is _) true [] true false (Is.keeps _) (fun _ => Is.keeps _) (by kernel_rfl)
        · intro γ w1 h1
          have h1 : Ext _ w1 := h1
          simp only [List.nil_append, List.cons_append, List.map_cons, List.map_nil, Given]
          have hq := h1.cell p0
          have hq2 := h1.cell p1
          go_wp2_with fail
          exact Post.isv (Ext.refl _) rfl rfl rfl
        -- 7: Op.call { value (Operand.func 28), args := #[t44, t45], argTypes := #[35, 35] }
        apply Stage3.step (EvsT (wayS S2 S1)) false [false, false, false, false, false, true, true] true false (EvsT.keeps _) (no_keeps) (by kernel_rfl)
        · intro γ w1 h1
          have h1 : Ext _ w1 := h1
          simp only [List.nil_append, List.cons_append, List.map_cons, List.map_nil, Sp3.at, Sp.pr, Given]
          rintro _ rfl
          rintro _ rfl
          go_wp2_with fail
          refine (diff_Way (ub.st.ext h1) (ua.st.ext h1) (Lib.hid rfl)).mono ?_
          rintro e w30 ⟨Al, nl, cl, rfl, hl, gq⟩
          go_wp2_with fail
          exact ⟨rfl, rfl, gq, _, _, _, rfl, hl⟩
        -- 8: Op.call { value (Operand.func 48), args := #[t43, t46], argTypes := #[35, 23] }
        apply Stage3.step (StT 0 S1) true [false, false, false, false, true, false, false, true] true false (StT.keeps _ _) (fun _ => StT.keeps2 _ _) (by kernel_rfl)
        · intro γ w1 h1
          have h1 : Ext _ w1 := h1
          simp only [List.nil_append, List.cons_append, List.map_cons, List.map_nil, Sp3.at, Sp.pr, Given]
          rintro _ ⟨A8, n8, c8, B8, m8, d8, rfl, h8⟩
          rintro _ ⟨Al, nl, cl, rfl, hl⟩
          have bl := hl.n63
          have b8 := h8.st.1.n63
          have bb8 := h8.st.2.n63
          go_wp2_with fail
          refine (model_Fold h8.st ok2 hl).mono ?_
          rintro e w30 ⟨A9, n9, c9, B9, m9, d9, rfl, h9, gq⟩
          rw [l21.out] at h9
          go_wp2_with fail
          exact ⟨rfl, rfl, gq, _, _, _, _, _, _, rfl, h9.low (Nat.zero_le _)⟩
        -- 9: Op.alloc 35
        apply Stage3.stepA (BoxP w6b.heap.size) true [] true false (BoxP.keeps _) (fun _ => BoxP.keeps2 _) (by kernel_rfl)
        · intro γ w1 h1
          have h1 : Ext _ w1 := h1
          simp only [List.nil_append, List.cons_append, List.map_cons, List.map_nil, Given]
          go_wp2_with fail
          exact ⟨rfl, rfl, Ext.alloc _ _, BoxP.made h1.size⟩
        -- 10: Op.store 35 t12 t47
        apply Stage3.stepD (fun γ => BoxS 0 S1 γ) false [false, false, false, false, false, false, false, false, true, true] true true (fun γ => BoxS.keeps _ _ _) (fun h => by cases h) (by kernel_rfl)
        · intro γ w1 h1
          have h1 : Ext _ w1 := h1
          simp only [List.nil_append, List.cons_append, List.map_cons, List.map_nil, Sp3.at, Sp.pr, Given]
          rintro _ ⟨A9, n9, c9, B9, m9, d9, rfl, h9⟩
          rintro _ ⟨rfl, gv, rfl, hgv, hbv⟩
          have hbx := hbv
          obtain ⟨hx1, ⟨e1, e2, e3, e4, e5, e6, z0, z1⟩, zf⟩ := hbv
          have zf0 := zf 0
          have zf1 := zf 1
          go_wp2_with fail
          refine ⟨rfl, rfl, bux_set2 (.inr hgv) hbx _ _ _ _ _ _, fun g e => ?_⟩
          obtain rfl : gv = g := by injection e with e; injection e with e; injection e with e
          exact stb_box hbx h9 _
        apply Stage3.nil [true, true, true, false, false, true, true, false, true, true, true] (by kernel_rfl)
        intro γ w1 h1
        have h1 : (Bux w6b.heap.size (fun _ => False)) _ w1 := h1
        simp only [List.nil_append, List.cons_append, List.map_cons, List.map_nil, Sp3.at, Sp.pr]
        refine Fin2.is_ ?_
        refine Fin2.is_ ?_
        refine Fin2.is_ ?_
        refine Fin2.dead_ ?_
        intro dead3
        refine Fin2.dead_ ?_
        intro dead4
        refine Fin2.is_ ?_
        refine Fin2.is_ ?_
        refine Fin2.dead_ ?_
        intro dead7
        refine Fin2.step_ ?_
        rintro _ ⟨A9, n9, c9, B9, m9, d9, rfl, h9⟩
        refine Fin2.step_ ?_
        rintro _ ⟨rfl, gv, rfl, hgv, hbv⟩
        refine Fin2.step_ ?_
        rintro _ hstv
        refine Fin2.nil_ ?_
        go_simp
        obtain ⟨Ax, nx, cx, Bx, mx, dx, x0, x1, vf, ux, hgv2⟩ := hstv gv rfl
        have bnx := ux.st.1.n63
        have bmx := ux.st.2.n63
        have gq : Ext w6b w1 := (Ext.refl w6b).but h1.but (Nat.le_refl _) (fun _ h => h.elim)
        clear h1 hstv hbv vf h9
        replace p0 := gq.cell p0
        replace p1 := gq.cell p1
        replace q0 := gq.cell q0
        replace q1 := gq.cell q1
        replace r0 := gq.cell r0
        replace r1 := gq.cell r1
        replace ua := ua.ext gq
        replace ub := ub.ext gq
        replace uc := uc.ext gq
        replace gx := gx.trans gq
        clear gq
        obtain ⟨blkx, rfl⟩ : ∃ q, q = gv := ⟨_, rfl⟩
        obtain ⟨wx, rfl⟩ : ∃ q, q = w1 := ⟨_, rfl⟩
        go_wp2_with fail
        refine wp_region_typed3 (R := Bux wx.heap.size (fun _ => False)) Ext.steady (Bux.steady _ _) (fun _ _ => Bux.of_ext) rfl 82 rfl [0, 0, 0, 6, 15, 0, 0, 127, 255, 0, 1023] 1024 9 (by kernel_rfl) ?_
        -- 0: Op.load 35 t9
        apply Stage3.step (Is _) true [] true false (Is.keeps _) (fun _ => Is.keeps _) (by kernel_rfl)
        · intro γ w1 h1
          have h1 : Ext _ w1 := h1
          simp only [List.nil_append, List.cons_append, List.map_cons, List.map_nil, Given]
          have hq := h1.cell p0
          have hq2 := h1.cell p1
          go_wp2_with fail
          exact Post.isv (Ext.refl _) rfl rfl rfl
        -- 1: Op.load 35 t9
        apply Stage3.step (Is _) true [] true false (Is.keeps _) (fun _ => Is.keeps _) (by kernel_rfl)
        · intro γ w1 h1
          have h1 : Ext _ w1 := h1
          simp only [List.nil_append, List.cons_append, List.map_cons, List.map_nil, Given]
          have hq := h1.cell p0
          have hq2 := h1.cell p1
          go_wp2_with fail
          exact Post.isv (Ext.refl _) rfl rfl rfl
        -- 2: Op.load 35 t11
        apply Stage3.step (Is _) true [] true false (Is.keeps _) (fun _ => Is.keeps _) (by kernel_rfl)
        · intro γ w1 h1
          have h1 : Ext _ w1 := h1
          simp only [List.nil_append, List.cons_append, List.map_cons, List.map_nil, Given]
          have hq := h1.cell r0
          have hq2 := h1.cell r1
          go_wp2_with fail
          exact Post.isv (Ext.refl _) rfl rfl rfl
        -- 3: Op.call { value (Operand.func 28), args := #[t49, t50], argTypes := #[35, 35] }
        apply Stage3.step (EvsT (wayS S1 S3)) false [false, true, true] true false (EvsT.keeps _) (no_keeps) (by kernel_rfl)
        · intro γ w1 h1
          have h1 : Ext _ w1 := h1
          simp only [List.nil_append, List.cons_append, List.map_cons, List.map_nil, Sp3.at, Sp.pr, Given]
          rintro _ rfl
          rintro _ rfl
          go_wp2_with fail
          refine (diff_Way (ua.st.ext h1) (uc.st.ext h1) (Lib.hid rfl)).mono ?_
          rintro e w30 ⟨Al, nl, cl, rfl, hl, gq⟩
          go_wp2_with fail
          exact ⟨rfl, rfl, gq, _, _, _, rfl, hl⟩
        -- 4: Op.call { value (Operand.func 48), args := #[t48, t51], argTypes := #[35, 23] }
        apply Stage3.step (StT 0 S3) false [true, false, false, true] true false (StT.keeps _ _) (no_keeps) (by kernel_rfl)
        · intro γ w1 h1
          have h1 : Ext _ w1 := h1
          simp only [List.nil_append, List.cons_append, List.map_cons, List.map_nil, Sp3.at, Sp.pr, Given]
          rintro _ rfl
          rintro _ ⟨Al, nl, cl, rfl, hl⟩
          have bl := hl.n63
          go_wp2_with fail
          refine (model_Fold (ua.st.ext h1) ok1 hl).mono ?_
          rintro e w30 ⟨A8, n8, c8, B8, m8, d8, rfl, h8, gq⟩
          rw [l13.out] at h8
          go_wp2_with fail
          exact ⟨rfl, rfl, gq, _, _, _, _, _, _, rfl, h8.low (Nat.zero_le _)⟩
        -- 5: Op.load 35 t11
        apply Stage3.step (Is _) true [] true false (Is.keeps _) (fun _ => Is.keeps _) (by kernel_rfl)
        · intro γ w1 h1
          have h1 : Ext _ w1 := h1
          simp only [List.nil_append, List.cons_append, List.map_cons, List.map_nil, Given]
          have hq := h1.cell r0
          have hq2 := h1.cell r1
          go_wp2_with fail
          exact Post.isv (Ext.refl _) rfl rfl rfl
        -- 6: Op.load 35 t10
        apply Stage3.step (Is _) true [] true false (Is.keeps _) (fun _ => Is.keeps _) (by kernel_rfl)
        · intro γ w1 h1
          have h1 : Ext _ w1 := h1
          simp only [List.nil_append, List.cons_append, List.map_cons, List.map_nil, Given]
          have hq := h1.cell q0
          have hq2 := h1.cell q1
          go_wp2_with fail
          exact Post.isv (Ext.refl _) rfl rfl rfl
        -- 7: Op.call { value (Operand.func 28), args := #[t53, t54], argTypes := #[35, 35] }
        apply Stage3.step (EvsT (wayS S3 S2)) false [false, false, false, false, false, true, true] true false (EvsT.keeps _) (no_keeps) (by kernel_rfl)
        · intro γ w1 h1
          have h1 : Ext _ w1 := h1
          simp only [List.nil_append, List.cons_append, List.map_cons, List.map_nil, Sp3.at, Sp.pr, Given]
          rintro _ rfl
          rintro _ rfl
          go_wp2_with fail
          refine (diff_Way (uc.st.ext h1) (ub.st.ext h1) (Lib.hid rfl)).mono ?_
          rintro e w30 ⟨Al, nl, cl, rfl, hl, gq⟩
          go_wp2_with fail
          exact ⟨rfl, rfl, gq, _, _, _, rfl, hl⟩
        -- 8: Op.call { value (Operand.func 48), args := #[t52, t55], argTypes := #[35, 23] }
        apply Stage3.step (StT 0 S2) true [false, false, false, false, true, false, false, true] true false (StT.keeps _ _) (fun _ => StT.keeps2 _ _) (by kernel_rfl)
        · intro γ w1 h1
          have h1 : Ext _ w1 := h1
          simp only [List.nil_append, List.cons_append, List.map_cons, List.map_nil, Sp3.at, Sp.pr, Given]
          rintro _ ⟨A8, n8, c8, B8, m8, d8, rfl, h8⟩
          rintro _ ⟨Al, nl, cl, rfl, hl⟩
          have bl := hl.n63
          have b8 := h8.st.1.n63
          have bb8 := h8.st.2.n63
          go_wp2_with fail
          refine (model_Fold h8.st ok3 hl).mono ?_
          rintro e w30 ⟨A9, n9, c9, B9, m9, d9, rfl, h9, gq⟩
          rw [l32.out] at h9
          go_wp2_with fail
          exact ⟨rfl, rfl, gq, _, _, _, _, _, _, rfl, h9.low (Nat.zero_le _)⟩
        -- 9: Op.alloc 35
        apply Stage3.stepA (BoxP wx.heap.size) true [] true false (BoxP.keeps _) (fun _ => BoxP.keeps2 _) (by kernel_rfl)
        · intro γ w1 h1
          have h1 : Ext _ w1 := h1
          simp only [List.nil_append, List.cons_append, List.map_cons, List.map_nil, Given]
          go_wp2_with fail
          exact ⟨rfl, rfl, Ext.alloc _ _, BoxP.made h1.size⟩
        -- 10: Op.store 35 t13 t56
        apply Stage3.stepD (fun γ => BoxS 0 S2 γ) false [false, false, false, false, false, false, false, false, true, true] true true (fun γ => BoxS.keeps _ _ _) (fun h => by cases h) (by kernel_rfl)
        · intro γ w1 h1
          have h1 : Ext _ w1 := h1
          simp only [List.nil_append, List.cons_append, List.map_cons, List.map_nil, Sp3.at, Sp.pr, Given]
          rintro _ ⟨A9, n9, c9, B9, m9, d9, rfl, h9⟩
          rintro _ ⟨rfl, gv, rfl, hgv, hbv⟩
          have hbx := hbv
          obtain ⟨hx1, ⟨e1, e2, e3, e4, e5, e6, z0, z1⟩, zf⟩ := hbv
          have zf0 := zf 0
          have zf1 := zf 1
          go_wp2_with fail
          refine ⟨rfl, rfl, bux_set2 (.inr hgv) hbx _ _ _ _ _ _, fun g e => ?_⟩
          obtain rfl : gv = g := by injection e with e; injection e with e; injection e with e
          exact stb_box hbx h9 _
        apply Stage3.nil [true, true, true, false, false, true, true, false, true, true, true] (by kernel_rfl)
        intro γ w1 h1
        have h1 : (Bux wx.heap.size (fun _ => False)) _ w1 := h1
        simp only [List.nil_append, List.cons_append, List.map_cons, List.map_nil, Sp3.at, Sp.pr]
        refine Fin2.is_ ?_
        refine Fin2.is_ ?_
        refine Fin2.is_ ?_
        refine Fin2.dead_ ?_
        intro dead3
        refine Fin2.dead_ ?_
        intro dead4
        refine Fin2.is_ ?_
        refine Fin2.is_ ?_
        refine Fin2.dead_ ?_
        intro dead7
        refine Fin2.step_ ?_
        rintro _ ⟨A9, n9, c9, B9, m9, d9, rfl, h9⟩
        refine Fin2.step_ ?_
        rintro _ ⟨rfl, gv, rfl, hgv, hbv⟩
        refine Fin2.step_ ?_
        rintro _ hstv
        refine Fin2.nil_ ?_
        go_simp
        obtain ⟨Ay, ny, cy, By, my, dy, y0, y1, vf, uy, hgv2⟩ := hstv gv rfl
        have bny := uy.st.1.n63
        have bmy := uy.st.2.n63
        have gq : Ext wx w1 := (Ext.refl wx).but h1.but (Nat.le_refl _) (fun _ h => h.elim)
        clear h1 hstv hbv vf h9
        replace p0 := gq.cell p0
        replace p1 := gq.cell p1
        replace q0 := gq.cell q0
        replace q1 := gq.cell q1
        replace r0 := gq.cell r0
        replace r1 := gq.cell r1
        replace x0 := gq.cell x0
        replace x1 := gq.cell x1
        replace ua := ua.ext gq
        replace ub := ub.ext gq
        replace uc := uc.ext gq
        replace ux := ux.ext gq
        replace gx := gx.trans gq
        clear gq
        obtain ⟨blky, rfl⟩ : ∃ q, q = gv := ⟨_, rfl⟩
        obtain ⟨wy, rfl⟩ : ∃ q, q = w1 := ⟨_, rfl⟩
        go_wp2_with fail
        refine (model_SameSt ux.st ua.st (Lib.hid (decide_eq_true rfl))).mono ?_
        rintro e w7 ⟨rfl, gq⟩
        replace p0 := gq.cell p0
        replace p1 := gq.cell p1
        replace q0 := gq.cell q0
        replace q1 := gq.cell q1
        replace r0 := gq.cell r0
        replace r1 := gq.cell r1
        replace x0 := gq.cell x0
        replace x1 := gq.cell x1
        replace y0 := gq.cell y0
        replace y1 := gq.cell y1
        replace ua := ua.ext gq
        replace ub := ub.ext gq
        replace uc := uc.ext gq
        replace ux := ux.ext gq
        replace uy := uy.ext gq
        replace gx := gx.trans gq
        clear gq
        go_wp2_with fail
        refine (model_SameSt uy.st ub.st (Lib.hid (decide_eq_true rfl))).mono ?_
        rintro e w8 ⟨rfl, gq⟩
        replace p0 := gq.cell p0
        replace p1 := gq.cell p1
        replace q0 := gq.cell q0
        replace q1 := gq.cell q1
        replace r0 := gq.cell r0
        replace r1 := gq.cell r1
        replace x0 := gq.cell x0
        replace x1 := gq.cell x1
        replace y0 := gq.cell y0
        replace y1 := gq.cell y1
        replace ua := ua.ext gq
        replace ub := ub.ext gq
        replace uc := uc.ext gq
        replace ux := ux.ext gq
        replace uy := uy.ext gq
        replace gx := gx.trans gq
        clear gq
        go_wp2_with fail
        refine (diff_Way ua.st ua.st HW1).mono ?_
        rintro e w9 ⟨Al, nl, cl, rfl, hl, gq⟩
        obtain rfl : 0 = nl := hl.len
        clear hl
        replace p0 := gq.cell p0
        replace p1 := gq.cell p1
        replace q0 := gq.cell q0
        replace q1 := gq.cell q1
        replace r0 := gq.cell r0
        replace r1 := gq.cell r1
        replace x0 := gq.cell x0
        replace x1 := gq.cell x1
        replace y0 := gq.cell y0
        replace y1 := gq.cell y1
        replace ua := ua.ext gq
        replace ub := ub.ext gq
        replace uc := uc.ext gq
        replace ux := ux.ext gq
        replace uy := uy.ext gq
        replace gx := gx.trans gq
        clear gq
        go_wp2_with fail
        refine (diff_Way uc.st uc.st HW3).mono ?_
        rintro e w10 ⟨Al, nl, cl, rfl, hl, gq⟩
        obtain rfl : 0 = nl := hl.len
        clear hl
        replace p0 := gq.cell p0
        replace p1 := gq.cell p1
        replace q0 := gq.cell q0
        replace q1 := gq.cell q1
        replace r0 := gq.cell r0
        replace r1 := gq.cell r1
        replace x0 := gq.cell x0
        replace x1 := gq.cell x1
        replace y0 := gq.cell y0
        replace y1 := gq.cell y1
        replace ua := ua.ext gq
        replace ub := ub.ext gq
        replace uc := uc.ext gq
        replace ux := ux.ext gq
        replace uy := uy.ext gq
        replace gx := gx.trans gq
        clear gq
        go_wp2_with fail
        refine (law15_known _).mono ?_
        rintro e w9 ⟨rfl, hx1⟩
        go_wp2_with fail
        go_ret
        exact ⟨rfl, gx.trans hx1⟩
end Go.Proofs.Ytcklkjklepmabaa
