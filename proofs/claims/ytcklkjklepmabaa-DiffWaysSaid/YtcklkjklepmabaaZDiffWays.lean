/-
  The walk of one statement of chapter 15: the way between any two images that events made.
-/
import Derived.Test.YtcklkjklepmabaaZWayRef
import Derived.Test.YtcklkjklepmabaaZDiffKnown
import Derived.Test.YtcklkjklepmabaaZEvsSame
import Derived.Test.YtcklkjklepmabaaZAfter
import Derived.Test.YtcklkjklepmabaaZOpenEvs
namespace Go.Proofs.Ytcklkjklepmabaa
open Go.RowKit
set_option linter.unusedVariables false
set_option linter.unusedSimpArgs false
set_option linter.unnecessarySimpa false
set_option maxRecDepth 100000

def EvsT (l : List Ev) : Ty := fun v w => ∃ A n c, v = .slice A n c ∧ Lst 5 evR w A n c l
theorem EvsT.keeps (l : List Ev) : Keeps Ext (EvsT l) := fun _ _ _ hx ⟨A, n, c, e, h⟩ => ⟨A, n, c, e, h.ext ev_rep hx⟩
theorem small_len {xs : List Ev} {m : Nat} (h : smallB xs m = true) : xs.length ≤ m := (of_decide_eq_true h).2
set_option maxHeartbeats 8000000 in
theorem law_DiffWays (z z' : Int) (A : Option Addr) (n c : Nat) (both : List Ev) (A' : Option Addr) (n' c' : Nat) (one : List Ev) (A'' : Option Addr) (n'' c'' : Nat) (two : List Ev) (w : World) (hz1 : -9223372036854775808 ≤ z) (hz2 : z ≤ 9223372036854775807) (hz1' : -9223372036854775808 ≤ z') (hz2' : z' ≤ 9223372036854775807) (h : Lst 5 evR w A n c both) (h' : Lst 5 evR w A' n' c' one) (h'' : Lst 5 evR w A'' n'' c'' two) :
    Calls Try.prog 4 #[.int .i64 z, .int .i64 z', .slice A n c, .slice A' n' c', .slice A'' n'' c''] w fun e w' => e = .returned (.bool true) ∧ Ext w w' := by
  have h63 := h.n63
  have h63' := h'.n63
  have h63'' := h''.n63
  obtain ⟨f, hf⟩ : ∃ q, smallB both 30 = q := ⟨_, rfl⟩
  obtain ⟨f2, hf2⟩ : ∃ q, smallB one 30 = q := ⟨_, rfl⟩
  obtain ⟨f3, hf3⟩ : ∃ q, smallB two 30 = q := ⟨_, rfl⟩
  have HF := Lib.hid hf
  have HF2 := Lib.hid hf2
  have HF3 := Lib.hid hf3
  cases f with
  | false =>
    clear hf hf2 hf3
    go_enter Try.func4, Try.ntmps4
    go_wp2_with fail
    refine (keep_Small h (m := 30) (by decide) HF).mono ?_
    rintro e w1 ⟨rfl, gq⟩
    go_wp2_with fail
    refine (law15_known _).mono ?_
    rintro e w9 ⟨rfl, hx1⟩
    go_wp2_with fail
    go_ret
    exact ⟨rfl, gq.trans hx1⟩
  | true =>
    cases f2 with
    | false =>
      clear hf hf2 hf3
      go_enter Try.func4, Try.ntmps4
      go_wp2_with fail
      refine (keep_Small h (m := 30) (by decide) HF).mono ?_
      rintro e w1 ⟨rfl, gq⟩
      have gx := gq
      go_wp2_with fail
      refine (keep_Small (h'.ext ev_rep gx) (m := 30) (by decide) HF2).mono ?_
      rintro e w1 ⟨rfl, gq⟩
      replace gx := gx.trans gq
      go_wp2_with fail
      refine (law15_known _).mono ?_
      rintro e w9 ⟨rfl, hx1⟩
      go_wp2_with fail
      go_ret
      exact ⟨rfl, gx.trans hx1⟩
    | true =>
      cases f3 with
      | false =>
        clear hf hf2 hf3
        go_enter Try.func4, Try.ntmps4
        go_wp2_with fail
        refine (keep_Small h (m := 30) (by decide) HF).mono ?_
        rintro e w1 ⟨rfl, gq⟩
        have gx := gq
        go_wp2_with fail
        refine (keep_Small (h'.ext ev_rep gx) (m := 30) (by decide) HF2).mono ?_
        rintro e w1 ⟨rfl, gq⟩
        replace gx := gx.trans gq
        go_wp2_with fail
        refine (keep_Small (h''.ext ev_rep gx) (m := 30) (by decide) HF3).mono ?_
        rintro e w1 ⟨rfl, gq⟩
        replace gx := gx.trans gq
        go_wp2_with fail
        refine (law15_known _).mono ?_
        rintro e w9 ⟨rfl, hx1⟩
        go_wp2_with fail
        go_ret
        exact ⟨rfl, gx.trans hx1⟩
      | true =>
        have rt0 := right_new z
        have rt1 := right_fold rt0 both
        obtain ⟨M, hM⟩ : ∃ q, foldS (newS z) both = q := ⟨_, rfl⟩
        rw [hM] at rt1
        have ok1 := okS_right rt1
        have HM := Lib.hid hM
        obtain ⟨Sa, hSa⟩ : ∃ q, foldS M one = q := ⟨_, rfl⟩
        obtain ⟨Sb, hSb⟩ : ∃ q, foldS M two = q := ⟨_, rfl⟩
        obtain ⟨Sc, hSc⟩ : ∃ q, foldS (newS z') two = q := ⟨_, rfl⟩
        have HSa := Lib.hid hSa
        have HSb := Lib.hid hSb
        have HSc := Lib.hid hSc
        clear hM hSa hSb hSc rt0 rt1 hf hf2 hf3
        go_enter Try.func4, Try.ntmps4
        go_wp2_with fail
        refine (keep_Small h (m := 30) (by decide) HF).mono ?_
        rintro e w1 ⟨rfl, gq⟩
        have gx := gq
        go_wp2_with fail
        refine (keep_Small (h'.ext ev_rep gx) (m := 30) (by decide) HF2).mono ?_
        rintro e w1 ⟨rfl, gq⟩
        replace gx := gx.trans gq
        go_wp2_with fail
        refine (keep_Small (h''.ext ev_rep gx) (m := 30) (by decide) HF3).mono ?_
        rintro e w1 ⟨rfl, gq⟩
        replace gx := gx.trans gq
        clear gq
        go_wp2_with fail
        refine (keep_After (h.ext ev_rep gx)).mono ?_
        rintro e w2 ⟨A2, n2, c2, B2, m2, d2, rfl, hP, gq⟩
        rw [HM.out] at hP
        have b2 := hP.1.n63
        have bb2 := hP.2.n63
        replace gx := gx.trans gq
        clear gq
        obtain ⟨w3, hw3⟩ : ∃ q, w2.alloc (.cells #[.slice A2 n2 c2, .slice B2 m2 d2] TSt) = q := ⟨_, rfl⟩
        obtain ⟨gp, hgp⟩ : ∃ q, w2.heap.size = q := ⟨_, rfl⟩
        have gq : Ext w2 w3 := by rw [← hw3]; exact Ext.alloc _ _
        have p0 : w3.cell? ⟨gp, 0, none⟩ = some (.slice A2 n2 c2) := by rw [← hw3, ← hgp]; exact cell_new w2 _ _ 0
        have p1 : w3.cell? ⟨gp, 1, none⟩ = some (.slice B2 m2 d2) := by rw [← hw3, ← hgp]; exact cell_new w2 _ _ 1
        replace hP := hP.ext gq
        replace gx := gx.trans gq
        clear gq
        go_wp2_with fail
        clear hw3 hgp
        refine wp_region_typed4' (R := Bet (fun _ => False)) 8 Ext.steady (Bet.steady _) (fun _ _ => Bet.of_ext) rfl 69 rfl [0, 0, 3, 0, 0, 31, 0, 0, 255, 511] 0 (by kernel_rfl) ?_
        simp only [List.take_succ_cons, List.take_zero, List.drop_succ_cons, List.drop_zero]
        -- 0: Op.load 35 t11
        apply Stage2.step (Is _) true [] true false (Is.keeps _) (fun _ => Is.keeps _) (by kernel_rfl)
        · intro w1 h1
          have h1 : Ext _ w1 := h1
          simp only [List.nil_append, List.cons_append, List.map_cons, List.map_nil, Given]
          have hq := h1.cell p0
          have hq2 := h1.cell p1
          go_wp2_with fail
          exact Post.isv (Ext.refl _) rfl rfl rfl
        -- 1: Op.move t3
        apply Stage2.step (Is _) true [] true false (Is.keeps _) (fun _ => Is.keeps _) (by kernel_rfl)
        · intro w1 h1
          have h1 : Ext _ w1 := h1
          simp only [List.nil_append, List.cons_append, List.map_cons, List.map_nil, Given]
          go_wp2_with fail
          exact Post.isv (Ext.refl _) rfl rfl rfl
        -- 2: Op.call { value (Operand.func 26), args := #[t32, t33], argTypes := #[35, 23] }
        apply Stage2.step (StT 0 Sa) false [true, true] true false (StT.keeps _ _) (no_keeps) (by kernel_rfl)
        · intro w1 h1
          have h1 : Ext _ w1 := h1
          simp only [List.nil_append, List.cons_append, List.map_cons, List.map_nil, Sp.pr, Given]
          rintro _ rfl
          rintro _ rfl
          go_wp2_with fail
          refine (ref14_Fold (hP.ext h1) ok1 (h'.ext ev_rep (gx.trans h1))).mono ?_
          rintro e w30 ⟨A8, n8, c8, B8, m8, d8, rfl, h8, gq⟩
          rw [HSa.out] at h8
          go_wp2_with fail
          exact ⟨rfl, rfl, gq, _, _, _, _, _, _, rfl, h8.f0⟩
        -- 3: Op.load 35 t11
        apply Stage2.step (Is _) true [] true false (Is.keeps _) (fun _ => Is.keeps _) (by kernel_rfl)
        · intro w1 h1
          have h1 : Ext _ w1 := h1
          simp only [List.nil_append, List.cons_append, List.map_cons, List.map_nil, Given]
          have hq := h1.cell p0
          have hq2 := h1.cell p1
          go_wp2_with fail
          exact Post.isv (Ext.refl _) rfl rfl rfl
        -- 4: Op.move t4
        apply Stage2.step (Is _) true [] true false (Is.keeps _) (fun _ => Is.keeps _) (by kernel_rfl)
        · intro w1 h1
          have h1 : Ext _ w1 := h1
          simp only [List.nil_append, List.cons_append, List.map_cons, List.map_nil, Given]
          go_wp2_with fail
          exact Post.isv (Ext.refl _) rfl rfl rfl
        -- 5: Op.call { value (Operand.func 26), args := #[t35, t36], argTypes := #[35, 23] }
        apply Stage2.step (StT 0 Sb) false [false, false, false, true, true] true false (StT.keeps _ _) (no_keeps) (by kernel_rfl)
        · intro w1 h1
          have h1 : Ext _ w1 := h1
          simp only [List.nil_append, List.cons_append, List.map_cons, List.map_nil, Sp.pr, Given]
          rintro _ rfl
          rintro _ rfl
          go_wp2_with fail
          refine (ref14_Fold (hP.ext h1) ok1 (h''.ext ev_rep (gx.trans h1))).mono ?_
          rintro e w30 ⟨A8, n8, c8, B8, m8, d8, rfl, h8, gq⟩
          rw [HSb.out] at h8
          go_wp2_with fail
          exact ⟨rfl, rfl, gq, _, _, _, _, _, _, rfl, h8.f0⟩
        -- 6: Op.alloc 35
        apply Stage2.step (BoxP w3.heap.size) false [] true false (BoxP.keeps _) (no_keeps) (by kernel_rfl)
        · intro w1 h1
          have h1 : Ext _ w1 := h1
          simp only [List.nil_append, List.cons_append, List.map_cons, List.map_nil, Given]
          go_wp2_with fail
          exact ⟨rfl, rfl, Ext.alloc _ _, BoxP.made h1.size⟩
        -- 7: Op.alloc 35
        apply Stage2.step (BoxP w3.heap.size) false [] true false (BoxP.keeps _) (no_keeps) (by kernel_rfl)
        · intro w1 h1
          have h1 : Ext _ w1 := h1
          simp only [List.nil_append, List.cons_append, List.map_cons, List.map_nil, Given]
          go_wp2_with fail
          exact ⟨rfl, rfl, Ext.alloc _ _, BoxP.made h1.size⟩
        apply Stage2.nil [true, true, true, true, true, true, true, true] (by kernel_rfl)
        intro w1 h1
        have h1 : (Ext) _ w1 := h1
        simp only [List.nil_append, List.cons_append, List.map_cons, List.map_nil, Sp.pr]
        refine Fin2.is_ ?_
        refine Fin2.is_ ?_
        refine Fin2.step_ ?_
        rintro _ ⟨A4, n4, c4, B4, m4, d4, rfl, u4⟩
        refine Fin2.is_ ?_
        refine Fin2.is_ ?_
        refine Fin2.step_ ?_
        rintro _ ⟨A5, n5, c5, B5, m5, d5, rfl, u5⟩
        refine Fin2.step_ ?_
        rintro _ ⟨g4, rfl, hg4, hb4⟩
        refine Fin2.step_ ?_
        rintro _ ⟨g5, rfl, hg5, hb5⟩
        refine Fin2.nil_ ?_
        go_simp
        obtain ⟨wm, rfl⟩ : ∃ q, q = w1 := ⟨_, rfl⟩
        have gz := gx.trans h1
        have hwsz := h1.size
        have b4 := u4.st.1.n63
        have bb4 := u4.st.2.n63
        have b5 := u5.st.1.n63
        have bb5 := u5.st.2.n63
        obtain ⟨w5, hw5⟩ : ∃ q, (wm.setCell ⟨g4, 0, none⟩ (.slice A4 n4 c4)).setCell ⟨g4, 1, none⟩ (.slice B4 m4 d4) = q := ⟨_, rfl⟩
        have hb4' : IsBox g4 w5 := by rw [← hw5]; exact hb4.set (g' := g4) _ _ _ _ _ _
        have hb5' : IsBox g5 w5 := by rw [← hw5]; exact hb5.set (g' := g4) _ _ _ _ _ _
        have v4 : StF w5 0 A4 n4 c4 B4 m4 d4 Sa := by rw [← hw5]; exact u4.box hb4 _ _
        have v5 : StF w5 0 A5 n5 c5 B5 m5 d5 Sb := by rw [← hw5]; exact u5.box hb4 _ _
        have c40 : w5.cell? ⟨g4, 0, none⟩ = some (.slice A4 n4 c4) := by
          obtain ⟨_, ⟨_, _, _, _, _, _, q0, q1⟩, _⟩ := hb4
          rw [← hw5, World.cell?_setCell_other _ _ _ _ (fun e => by injection e with e1 e2; omega)]
          exact World.cell?_setCell_same _ _ _ q0
        have c41 : w5.cell? ⟨g4, 1, none⟩ = some (.slice B4 m4 d4) := by
          obtain ⟨_, ⟨_, _, _, _, _, _, q0, q1⟩, _⟩ := hb4
          rw [← hw5]
          exact World.cell?_setCell_same _ _ _ (by rw [World.cell?_setCell_other _ _ _ _ (fun e => by injection e with e1 e2; omega)]; exact q1)
        obtain ⟨w6, hw6⟩ : ∃ q, (w5.setCell ⟨g5, 0, none⟩ (.slice A5 n5 c5)).setCell ⟨g5, 1, none⟩ (.slice B5 m5 d5) = q := ⟨_, rfl⟩
        have s4 : StF w6 0 A4 n4 c4 B4 m4 d4 Sa := by rw [← hw6]; exact v4.box hb5' _ _
        have s5 : StF w6 0 A5 n5 c5 B5 m5 d5 Sb := by rw [← hw6]; exact v5.box hb5' _ _
        have c50 : w6.cell? ⟨g5, 0, none⟩ = some (.slice A5 n5 c5) := by
          obtain ⟨_, ⟨_, _, _, _, _, _, q0, q1⟩, _⟩ := hb5'
          rw [← hw6, World.cell?_setCell_other _ _ _ _ (fun e => by injection e with e1 e2; omega)]
          exact World.cell?_setCell_same _ _ _ q0
        have c51 : w6.cell? ⟨g5, 1, none⟩ = some (.slice B5 m5 d5) := by
          obtain ⟨_, ⟨_, _, _, _, _, _, q0, q1⟩, _⟩ := hb5'
          rw [← hw6]
          exact World.cell?_setCell_same _ _ _ (by rw [World.cell?_setCell_other _ _ _ _ (fun e => by injection e with e1 e2; omega)]; exact q1)
        have hX : ∃ A n c B m d X, w6.cell? ⟨g4, 0, none⟩ = some (.slice A n c) ∧ w6.cell? ⟨g4, 1, none⟩ = some (.slice B m d) ∧ StR w6 A n c B m d X := by
          by_cases e : g4 = g5
          · subst e
            exact ⟨_, _, _, _, _, _, _, c50, c51, s5.st⟩
          · refine ⟨_, _, _, _, _, _, _, ?_, ?_, s4.st⟩
            · rw [← hw6, World.cell?_setCell_other _ _ _ _ (fun e' => by injection e' with e1 e2; exact e e1.symm), World.cell?_setCell_other _ _ _ _ (fun e' => by injection e' with e1 e2; exact e e1.symm)]
              exact c40
            · rw [← hw6, World.cell?_setCell_other _ _ _ _ (fun e' => by injection e' with e1 e2; exact e e1.symm), World.cell?_setCell_other _ _ _ _ (fun e' => by injection e' with e1 e2; exact e e1.symm)]
              exact c41
        have gz6 : Ext w w6 := by
          have e1 : Ext w w5 := by
            rw [← hw5]
            exact gz.but (but_set2 (H := wm.heap.size) (g := g4) _ _) gz.size (fun g e => by have := gx.size; omega)
          rw [← hw6]
          exact e1.but (but_set2 (H := w5.heap.size) (g := g5) _ _) e1.size (fun g e => by have := gx.size; omega)
        obtain ⟨l4, ⟨a1, a2, a3, a4, a5, a6, d40, d41⟩, f4⟩ := hb4
        obtain ⟨l5, ⟨e1, e2, e3, e4, e5, e6, d50, d51⟩, f5⟩ := hb5'
        have f40 := f4 0
        have f41 := f4 1
        have f50 := f5 0
        have f51 := f5 1
        clear u4 u5 v4 v5 s4 hb4' hb5 h1 hP p0 p1 f4 f5 c40 c41 gz
        go_wp2_with fail
        clear hw5 hw6
        obtain ⟨A7, n7, c7, B7, m7, d7, X, x0, x1, hX⟩ := hX
        have b7 := hX.1.n63
        have bb7 := hX.2.n63
        refine (keep_After (h''.ext ev_rep gz6)).mono ?_
        rintro e w7 ⟨A8, n8, c8, B8, m8, d8, rfl, hZ, gq⟩
        rw [HSc.out] at hZ
        have b8 := hZ.1.n63
        have bb8 := hZ.2.n63
        have hY := s5.st.ext gq
        replace x0 := gq.cell x0
        replace x1 := gq.cell x1
        replace c50 := gq.cell c50
        replace c51 := gq.cell c51
        replace hX := hX.ext gq
        replace gz6 := gz6.trans gq
        clear gq s5 d40 d41 d50 d51 f40 f41 f50 f51
        obtain ⟨w8, hw8⟩ : ∃ q, w7.alloc (.cells #[.slice A8 n8 c8, .slice B8 m8 d8] TSt) = q := ⟨_, rfl⟩
        obtain ⟨gr, hgr⟩ : ∃ q, w7.heap.size = q := ⟨_, rfl⟩
        have gq : Ext w7 w8 := by rw [← hw8]; exact Ext.alloc _ _
        have z0 : w8.cell? ⟨gr, 0, none⟩ = some (.slice A8 n8 c8) := by rw [← hw8, ← hgr]; exact cell_new w7 _ _ 0
        have z1 : w8.cell? ⟨gr, 1, none⟩ = some (.slice B8 m8 d8) := by rw [← hw8, ← hgr]; exact cell_new w7 _ _ 1
        replace hZ := hZ.ext gq
        replace hY := hY.ext gq
        replace x0 := gq.cell x0
        replace x1 := gq.cell x1
        have y0 := gq.cell c50
        have y1 := gq.cell c51
        replace hX := hX.ext gq
        replace gz6 := gz6.trans gq
        clear gq c50 c51
        go_wp2_with fail
        clear hw8 hgr
        refine wp_region_typed Ext.steady rfl 69 rfl (by kernel_rfl) ?_
        -- 0: Op.load 35 t12
        apply Stage.step (Is _) [] (Is.keeps _) (by kernel_rfl)
        · intro w1 h1
          simp only [Given]
          have hq := h1.cell x0
          have hq2 := h1.cell x1
          go_wp2_with fail
          exact Post.isv (Ext.refl _) rfl rfl rfl
        -- 1: Op.load 35 t13
        apply Stage.step (Is _) [] (Is.keeps _) (by kernel_rfl)
        · intro w1 h1
          simp only [Given]
          have hq := h1.cell y0
          have hq2 := h1.cell y1
          go_wp2_with fail
          exact Post.isv (Ext.refl _) rfl rfl rfl
        -- 2: Op.call { value (Operand.func 28), args := #[t41, t42], argTypes := #[35, 35] }
        apply Stage.step (EvsT (wayS X Sb)) [true, true] (EvsT.keeps _) (by kernel_rfl)
        · intro w1 h1
          simp only [List.nil_append, List.cons_append, Given]
          rintro _ rfl
          rintro _ rfl
          go_wp2_with fail
          refine (diff_Way (hX.ext h1) (hY.ext h1) (Lib.hid rfl)).mono ?_
          rintro e w30 ⟨Al, nl, cl, rfl, hl, gq⟩
          go_wp2_with fail
          exact ⟨rfl, rfl, gq, _, _, _, rfl, hl⟩
        -- 3: Op.load 35 t12
        apply Stage.step (Is _) [] (Is.keeps _) (by kernel_rfl)
        · intro w1 h1
          simp only [Given]
          have hq := h1.cell x0
          have hq2 := h1.cell x1
          go_wp2_with fail
          exact Post.isv (Ext.refl _) rfl rfl rfl
        -- 4: Op.load 35 t13
        apply Stage.step (Is _) [] (Is.keeps _) (by kernel_rfl)
        · intro w1 h1
          simp only [Given]
          have hq := h1.cell y0
          have hq2 := h1.cell y1
          go_wp2_with fail
          exact Post.isv (Ext.refl _) rfl rfl rfl
        -- 5: Op.call { value (Operand.func 29), args := #[t44, t45], argTypes := #[35, 35] }
        apply Stage.step (EvsT (wayS X Sb)) [false, false, false, true, true] (EvsT.keeps _) (by kernel_rfl)
        · intro w1 h1
          simp only [List.nil_append, List.cons_append, Given]
          rintro _ rfl
          rintro _ rfl
          go_wp2_with fail
          refine (ref_Way (hX.ext h1) (hY.ext h1) (Lib.hid rfl)).mono ?_
          rintro e w30 ⟨Al, nl, cl, rfl, hl, gq⟩
          go_wp2_with fail
          exact ⟨rfl, rfl, gq, _, _, _, rfl, hl⟩
        -- 6: Op.call { value (Operand.func 27), args := #[t43, t46], argTypes := #[23, 23] }
        apply Stage.step (Is (.bool true)) [false, false, true, false, false, true] (Is.keeps _) (by kernel_rfl)
        · intro w1 h1
          simp only [List.nil_append, List.cons_append, Given]
          rintro _ ⟨Al2, nl2, cl2, rfl, hl2⟩
          rintro _ ⟨Al5, nl5, cl5, rfl, hl5⟩
          have bl2 := hl2.n63
          have bl5 := hl5.n63
          go_wp2_with fail
          refine (ref_SameEvents hl2 hl5).mono ?_
          rintro e w30 ⟨rfl, gq⟩
          rw [show sameEv (wayS X Sb) (wayS X Sb) = true by simp [sameEv]]
          go_wp2_with fail
          exact Post.isv gq rfl rfl rfl
        -- 7: Op.move t47
        apply Stage.step (Is _) [false, false, false, false, false, false, true] (Is.keeps _) (by kernel_rfl)
        · intro w1 h1
          simp only [List.nil_append, List.cons_append, Given]
          rintro _ rfl
          go_wp2_with fail
          exact Post.isv (Ext.refl _) rfl rfl rfl
        -- 8: Op.load 35 t12   [guarded: some (7, true)]
        apply Stage.step (Is _) [false, false, false, false, false, false, false, true] (Is.keeps _) (by kernel_rfl)
        · intro w1 h1
          simp only [List.nil_append, List.cons_append, Given]
          rintro _ rfl
          have hq := h1.cell x0
          have hq2 := h1.cell x1
          go_wp2_with fail
          exact Post.isv (Ext.refl _) rfl rfl rfl
        -- 9: Op.load 35 t14   [guarded: some (7, true)]
        apply Stage.step (Is _) [false, false, false, false, false, false, false, true] (Is.keeps _) (by kernel_rfl)
        · intro w1 h1
          simp only [List.nil_append, List.cons_append, Given]
          rintro _ rfl
          have hq := h1.cell z0
          have hq2 := h1.cell z1
          go_wp2_with fail
          exact Post.isv (Ext.refl _) rfl rfl rfl
        -- 10: Op.call { value (Operand.func 28), args := #[t49, t50], argTypes := #[35, 35] }   [guarded: some (7,
        apply Stage.step (EvsT (wayS X Sc)) [false, false, false, false, false, false, false, true, true, true] (EvsT.keeps _) (by kernel_rfl)
        · intro w1 h1
          simp only [List.nil_append, List.cons_append, Given]
          rintro _ rfl
          rintro _ rfl
          rintro _ rfl
          go_wp2_with fail
          refine (diff_Way (hX.ext h1) (hZ.ext h1) (Lib.hid rfl)).mono ?_
          rintro e w30 ⟨Al, nl, cl, rfl, hl, gq⟩
          go_wp2_with fail
          exact ⟨rfl, rfl, gq, _, _, _, rfl, hl⟩
        -- 11: Op.load 35 t12   [guarded: some (7, true)]
        apply Stage.step (Is _) [false, false, false, false, false, false, false, true] (Is.keeps _) (by kernel_rfl)
        · intro w1 h1
          simp only [List.nil_append, List.cons_append, Given]
          rintro _ rfl
          have hq := h1.cell x0
          have hq2 := h1.cell x1
          go_wp2_with fail
          exact Post.isv (Ext.refl _) rfl rfl rfl
        -- 12: Op.load 35 t14   [guarded: some (7, true)]
        apply Stage.step (Is _) [false, false, false, false, false, false, false, true] (Is.keeps _) (by kernel_rfl)
        · intro w1 h1
          simp only [List.nil_append, List.cons_append, Given]
          rintro _ rfl
          have hq := h1.cell z0
          have hq2 := h1.cell z1
          go_wp2_with fail
          exact Post.isv (Ext.refl _) rfl rfl rfl
        -- 13: Op.call { value (Operand.func 29), args := #[t52, t53], argTypes := #[35, 35] }   [guarded: some (7,
        apply Stage.step (EvsT (wayS X Sc)) [false, false, false, false, false, false, false, true, false, false, false, true, true] (EvsT.keeps _) (by kernel_rfl)
        · intro w1 h1
          simp only [List.nil_append, List.cons_append, Given]
          rintro _ rfl
          rintro _ rfl
          rintro _ rfl
          go_wp2_with fail
          refine (ref_Way (hX.ext h1) (hZ.ext h1) (Lib.hid rfl)).mono ?_
          rintro e w30 ⟨Al, nl, cl, rfl, hl, gq⟩
          go_wp2_with fail
          exact ⟨rfl, rfl, gq, _, _, _, rfl, hl⟩
        -- 14: Op.call { value (Operand.func 27), args := #[t51, t54], argTypes := #[23, 23] }   [guarded: some (7,
        apply Stage.step (Is (.bool true)) [false, false, false, false, false, false, false, true, false, false, true, false, false, true] (Is.keeps _) (by kernel_rfl)
        · intro w1 h1
          simp only [List.nil_append, List.cons_append, Given]
          rintro _ rfl
          rintro _ ⟨Al10, nl10, cl10, rfl, hl10⟩
          rintro _ ⟨Al13, nl13, cl13, rfl, hl13⟩
          have bl2 := hl10.n63
          have bl5 := hl13.n63
          go_wp2_with fail
          refine (ref_SameEvents hl10 hl13).mono ?_
          rintro e w30 ⟨rfl, gq⟩
          rw [show sameEv (wayS X Sc) (wayS X Sc) = true by simp [sameEv]]
          go_wp2_with fail
          exact Post.isv gq rfl rfl rfl
        -- 15: Op.pick t48 t55 (const (Value.bool false))
        apply Stage.step (Is _) [false, false, false, false, false, false, false, true, false, false, false, false, false, false, true] (Is.keeps _) (by kernel_rfl)
        · intro w1 h1
          simp only [List.nil_append, List.cons_append, Given]
          rintro _ rfl
          rintro _ rfl
          go_wp2_with fail
          exact Post.isv (Ext.refl _) rfl rfl rfl
        -- 16: Op.move t56
        apply Stage.step (Is _) [false, false, false, false, false, false, false, false, false, false, false, false, false, false, false, true] (Is.keeps _) (by kernel_rfl)
        · intro w1 h1
          simp only [List.nil_append, List.cons_append, Given]
          rintro _ rfl
          go_wp2_with fail
          exact Post.isv (Ext.refl _) rfl rfl rfl
        -- 17: Op.load 35 t14   [guarded: some (16, true)]
        apply Stage.step (Is _) [false, false, false, false, false, false, false, false, false, false, false, false, false, false, false, false, true] (Is.keeps _) (by kernel_rfl)
        · intro w1 h1
          simp only [List.nil_append, List.cons_append, Given]
          rintro _ rfl
          have hq := h1.cell z0
          have hq2 := h1.cell z1
          go_wp2_with fail
          exact Post.isv (Ext.refl _) rfl rfl rfl
        -- 18: Op.load 35 t13   [guarded: some (16, true)]
        apply Stage.step (Is _) [false, false, false, false, false, false, false, false, false, false, false, false, false, false, false, false, true] (Is.keeps _) (by kernel_rfl)
        · intro w1 h1
          simp only [List.nil_append, List.cons_append, Given]
          rintro _ rfl
          have hq := h1.cell y0
          have hq2 := h1.cell y1
          go_wp2_with fail
          exact Post.isv (Ext.refl _) rfl rfl rfl
        -- 19: Op.call { value (Operand.func 28), args := #[t58, t59], argTypes := #[35, 35] }   [guarded: some (16
        apply Stage.step (EvsT (wayS Sc Sb)) [false, false, false, false, false, false, false, false, false, false, false, false, false, false, false, false, true, true, true] (EvsT.keeps _) (by kernel_rfl)
        · intro w1 h1
          simp only [List.nil_append, List.cons_append, Given]
          rintro _ rfl
          rintro _ rfl
          rintro _ rfl
          go_wp2_with fail
          refine (diff_Way (hZ.ext h1) (hY.ext h1) (Lib.hid rfl)).mono ?_
          rintro e w30 ⟨Al, nl, cl, rfl, hl, gq⟩
          go_wp2_with fail
          exact ⟨rfl, rfl, gq, _, _, _, rfl, hl⟩
        -- 20: Op.load 35 t14   [guarded: some (16, true)]
        apply Stage.step (Is _) [false, false, false, false, false, false, false, false, false, false, false, false, false, false, false, false, true] (Is.keeps _) (by kernel_rfl)
        · intro w1 h1
          simp only [List.nil_append, List.cons_append, Given]
          rintro _ rfl
          have hq := h1.cell z0
          have hq2 := h1.cell z1
          go_wp2_with fail
          exact Post.isv (Ext.refl _) rfl rfl rfl
        -- 21: Op.load 35 t13   [guarded: some (16, true)]
        apply Stage.step (Is _) [false, false, false, false, false, false, false, false, false, false, false, false, false, false, false, false, true] (Is.keeps _) (by kernel_rfl)
        · intro w1 h1
          simp only [List.nil_append, List.cons_append, Given]
          rintro _ rfl
          have hq := h1.cell y0
          have hq2 := h1.cell y1
          go_wp2_with fail
          exact Post.isv (Ext.refl _) rfl rfl rfl
        -- 22: Op.call { value (Operand.func 29), args := #[t61, t62], argTypes := #[35, 35] }   [guarded: some (16
        apply Stage.step (EvsT (wayS Sc Sb)) [false, false, false, false, false, false, false, false, false, false, false, false, false, false, false, false, true, false, false, false, true, true] (EvsT.keeps _) (by kernel_rfl)
        · intro w1 h1
          simp only [List.nil_append, List.cons_append, Given]
          rintro _ rfl
          rintro _ rfl
          rintro _ rfl
          go_wp2_with fail
          refine (ref_Way (hZ.ext h1) (hY.ext h1) (Lib.hid rfl)).mono ?_
          rintro e w30 ⟨Al, nl, cl, rfl, hl, gq⟩
          go_wp2_with fail
          exact ⟨rfl, rfl, gq, _, _, _, rfl, hl⟩
        -- 23: Op.call { value (Operand.func 27), args := #[t60, t63], argTypes := #[23, 23] }   [guarded: some (16
        apply Stage.step (Is (.bool true)) [false, false, false, false, false, false, false, false, false, false, false, false, false, false, false, false, true, false, false, true, false, false, true] (Is.keeps _) (by kernel_rfl)
        · intro w1 h1
          simp only [List.nil_append, List.cons_append, Given]
          rintro _ rfl
          rintro _ ⟨Al19, nl19, cl19, rfl, hl19⟩
          rintro _ ⟨Al22, nl22, cl22, rfl, hl22⟩
          have bl2 := hl19.n63
          have bl5 := hl22.n63
          go_wp2_with fail
          refine (ref_SameEvents hl19 hl22).mono ?_
          rintro e w30 ⟨rfl, gq⟩
          rw [show sameEv (wayS Sc Sb) (wayS Sc Sb) = true by simp [sameEv]]
          go_wp2_with fail
          exact Post.isv gq rfl rfl rfl
        -- 24: Op.pick t57 t64 (const (Value.bool false))
        apply Stage.step (Is _) [false, false, false, false, false, false, false, false, false, false, false, false, false, false, false, false, true, false, false, false, false, false, false, true] (Is.keeps _) (by kernel_rfl)
        · intro w1 h1
          simp only [List.nil_append, List.cons_append, Given]
          rintro _ rfl
          rintro _ rfl
          go_wp2_with fail
          exact Post.isv (Ext.refl _) rfl rfl rfl
        -- 25: Op.move t65
        apply Stage.step (Is _) [false, false, false, false, false, false, false, false, false, false, false, false, false, false, false, false, false, false, false, false, false, false, false, false, true] (Is.keeps _) (by kernel_rfl)
        · intro w1 h1
          simp only [List.nil_append, List.cons_append, Given]
          rintro _ rfl
          go_wp2_with fail
          exact Post.isv (Ext.refl _) rfl rfl rfl
        -- 26: Op.call { value (Operand.func 21), args := #[], argTypes := #[] }   [guarded: some (25, true)]
        apply Stage.step (Is (.bool true)) [false, false, false, false, false, false, false, false, false, false, false, false, false, false, false, false, false, false, false, false, false, false, false, false, false, true] (Is.keeps _) (by kernel_rfl)
        · intro w1 h1
          simp only [List.nil_append, List.cons_append, Given]
          rintro _ rfl
          go_wp2_with fail
          refine (law15_known _).mono ?_
          rintro e w30 ⟨rfl, gq⟩
          go_wp2_with fail
          exact Post.isv gq rfl rfl rfl
        -- 27: Op.pick t66 t67 (const (Value.bool false))
        apply Stage.step (Is _) [false, false, false, false, false, false, false, false, false, false, false, false, false, false, false, false, false, false, false, false, false, false, false, false, false, true, true] (Is.keeps _) (by kernel_rfl)
        · intro w1 h1
          simp only [List.nil_append, List.cons_append, Given]
          rintro _ rfl
          rintro _ rfl
          go_wp2_with fail
          exact Post.isv (Ext.refl _) rfl rfl rfl
        -- 28: Op.assign t68
        apply Stage.step (Is _) [false, false, false, false, false, false, false, false, false, false, false, false, false, false, false, false, false, false, false, false, false, false, false, false, false, false, false, true] (Is.keeps _) (by kernel_rfl)
        · intro w1 h1
          simp only [List.nil_append, List.cons_append, Given]
          rintro _ rfl
          go_wp2_with fail
          exact Post.isv (Ext.refl _) rfl rfl rfl
        apply Stage.nil
        intro w1 h1
        simp only [List.nil_append, List.cons_append]
        refine Fin.is_ ?_
        refine Fin.is_ ?_
        refine Fin.step_ ?_
        rintro _ ⟨Al2, nl2, cl2, rfl, hl2⟩
        refine Fin.is_ ?_
        refine Fin.is_ ?_
        refine Fin.step_ ?_
        rintro _ ⟨Al5, nl5, cl5, rfl, hl5⟩
        refine Fin.is_ ?_
        refine Fin.is_ ?_
        refine Fin.is_ ?_
        refine Fin.is_ ?_
        refine Fin.step_ ?_
        rintro _ ⟨Al10, nl10, cl10, rfl, hl10⟩
        refine Fin.is_ ?_
        refine Fin.is_ ?_
        refine Fin.step_ ?_
        rintro _ ⟨Al13, nl13, cl13, rfl, hl13⟩
        refine Fin.is_ ?_
        refine Fin.is_ ?_
        refine Fin.is_ ?_
        refine Fin.is_ ?_
        refine Fin.is_ ?_
        refine Fin.step_ ?_
        rintro _ ⟨Al19, nl19, cl19, rfl, hl19⟩
        refine Fin.is_ ?_
        refine Fin.is_ ?_
        refine Fin.step_ ?_
        rintro _ ⟨Al22, nl22, cl22, rfl, hl22⟩
        refine Fin.is_ ?_
        refine Fin.is_ ?_
        refine Fin.is_ ?_
        refine Fin.is_ ?_
        refine Fin.is_ ?_
        refine Fin.is_ ?_
        refine Fin.nil_ ?_
        go_simp
        go_wp2_with fail
        go_ret
        exact ⟨rfl, gz6.trans h1⟩
end Go.Proofs.Ytcklkjklepmabaa
