/-
  The walk of one statement of chapter 14: any state, right or not.
-/
import Derived.Test.YtcklkjklepmabaaZKnown14
import Derived.Test.YtcklkjklepmabaaZFoldLaws
import Derived.Test.YtcklkjklepmabaaZRefApply
import Derived.Test.YtcklkjklepmabaaZRead2
import Derived.Test.YtcklkjklepmabaaZMay
import Derived.Test.YtcklkjklepmabaaZOpenSt
namespace Go.Proofs.Ytcklkjklepmabaa
open Go.RowKit
set_option linter.unusedVariables false
set_option linter.unusedSimpArgs false
set_option linter.unnecessarySimpa false
set_option maxRecDepth 100000

set_option maxHeartbeats 8000000 in
theorem law_ModelStates (A : Option Addr) (n c : Nat) (A2 : Option Addr) (n2 c2 : Nat) (s : St) (B : Option Addr) (m d : Nat) (B2 : Option Addr) (m2 d2 : Nat) (t : St) (k o q : Int) (Ae : Option Addr) (ne ce : Nat) (l : List UInt8) (es : ByteArray) (nm : ByteArray) (off nn : Int) (w : World) (h1 : StR w A n c A2 n2 c2 s) (h2 : StR w B m d B2 m2 d2 t) (hsl : Sl w Ae ne ce l) (hs : es.size ≤ maxLen) (hk : -9223372036854775808 ≤ k ∧ k ≤ 9223372036854775807) (ho : -9223372036854775808 ≤ o ∧ o ≤ 9223372036854775807) (hq : -9223372036854775808 ≤ q ∧ q ≤ 9223372036854775807) (hnm : nm.size ≤ maxLen) (hf1 : -9223372036854775808 ≤ off) (hf2 : off ≤ 9223372036854775807) (hn1 : -9223372036854775808 ≤ nn) (hn2 : nn ≤ 9223372036854775807) :
    Calls Try.prog 16 #[stV A n c A2 n2 c2, stV B m d B2 m2 d2, evV k o q Ae ne ce es, .string nm, .int .i64 off, .int .i64 nn] w fun e w' => e = .returned (.bool true) ∧ Ext w w' := by
  have h63 := h1.1.n63
  have h63a := h1.2.n63
  have h63b := h2.1.n63
  have h63c := h2.2.n63
  have h63d := hsl.n63
  have hnm' : nm.size ≤ 9223372036854775807 := by simp only [maxLen] at hnm; omega
  obtain ⟨few, hfew⟩ : ∃ q, fewE ne es = q := ⟨_, rfl⟩
  obtain ⟨rb, hrb⟩ : ∃ q, rightS s = q := ⟨_, rfl⟩
  obtain ⟨eq, heq⟩ : ∃ q, decide (s = t) = q := ⟨_, rfl⟩
  have HF := Lib.hid hfew
  have HRB := Lib.hid hrb
  have HEQ := Lib.hid heq
  obtain ⟨W, hW⟩ : ∃ W, ((w.alloc (.cells #[.slice A n c, .slice A2 n2 c2] TSt)).alloc (.cells #[.slice B m d, .slice B2 m2 d2] TSt)).alloc (.cells #[.int .i64 k, .int .i64 o, .int .i64 q, .slice Ae ne ce, .string es] TEv) = W := ⟨_, rfl⟩
  have gW : Ext w W := by rw [← hW]; exact ((Ext.alloc _ _).trans (Ext.alloc _ _)).trans (Ext.alloc _ _)
  have s0 : W.cell? ⟨w.heap.size, 0, none⟩ = some (.slice A n c) := by rw [← hW]; exact ((Ext.alloc _ _).trans (Ext.alloc _ _)).cell (cell_new w _ _ 0)
  have s1 : W.cell? ⟨w.heap.size, 1, none⟩ = some (.slice A2 n2 c2) := by rw [← hW]; exact ((Ext.alloc _ _).trans (Ext.alloc _ _)).cell (cell_new w _ _ 1)
  have t0 : W.cell? ⟨w.heap.size + 1, 0, none⟩ = some (.slice B m d) := by rw [← hW]; exact (Ext.alloc _ _).cell (by have := cell_new (w.alloc (.cells #[.slice A n c, .slice A2 n2 c2] TSt)) #[.slice B m d, .slice B2 m2 d2] TSt 0; simpa using this)
  have t1 : W.cell? ⟨w.heap.size + 1, 1, none⟩ = some (.slice B2 m2 d2) := by rw [← hW]; exact (Ext.alloc _ _).cell (by have := cell_new (w.alloc (.cells #[.slice A n c, .slice A2 n2 c2] TSt)) #[.slice B m d, .slice B2 m2 d2] TSt 1; simpa using this)
  have v0 : W.cell? ⟨w.heap.size + 2, 0, none⟩ = some (.int .i64 k) := by rw [← hW]; have := cell_new ((w.alloc (.cells #[.slice A n c, .slice A2 n2 c2] TSt)).alloc (.cells #[.slice B m d, .slice B2 m2 d2] TSt)) #[.int .i64 k, .int .i64 o, .int .i64 q, .slice Ae ne ce, .string es] TEv 0; simpa using this
  have v1 : W.cell? ⟨w.heap.size + 2, 1, none⟩ = some (.int .i64 o) := by rw [← hW]; have := cell_new ((w.alloc (.cells #[.slice A n c, .slice A2 n2 c2] TSt)).alloc (.cells #[.slice B m d, .slice B2 m2 d2] TSt)) #[.int .i64 k, .int .i64 o, .int .i64 q, .slice Ae ne ce, .string es] TEv 1; simpa using this
  have v2 : W.cell? ⟨w.heap.size + 2, 2, none⟩ = some (.int .i64 q) := by rw [← hW]; have := cell_new ((w.alloc (.cells #[.slice A n c, .slice A2 n2 c2] TSt)).alloc (.cells #[.slice B m d, .slice B2 m2 d2] TSt)) #[.int .i64 k, .int .i64 o, .int .i64 q, .slice Ae ne ce, .string es] TEv 2; simpa using this
  have v3 : W.cell? ⟨w.heap.size + 2, 3, none⟩ = some (.slice Ae ne ce) := by rw [← hW]; have := cell_new ((w.alloc (.cells #[.slice A n c, .slice A2 n2 c2] TSt)).alloc (.cells #[.slice B m d, .slice B2 m2 d2] TSt)) #[.int .i64 k, .int .i64 o, .int .i64 q, .slice Ae ne ce, .string es] TEv 3; simpa using this
  have v4 : W.cell? ⟨w.heap.size + 2, 4, none⟩ = some (.string es) := by rw [← hW]; have := cell_new ((w.alloc (.cells #[.slice A n c, .slice A2 n2 c2] TSt)).alloc (.cells #[.slice B m d, .slice B2 m2 d2] TSt)) #[.int .i64 k, .int .i64 o, .int .i64 q, .slice Ae ne ce, .string es] TEv 4; simpa using this
  clear hfew heq
  go_enter Try.func16, Try.ntmps16
  go_wp2_with fail
  clear hW
  refine (law14_may (h1.ext gW)).mono ?_
  rintro e wa ⟨b1, rfl, gq⟩
  replace s0 := gq.cell s0
  replace s1 := gq.cell s1
  replace t0 := gq.cell t0
  replace t1 := gq.cell t1
  replace v0 := gq.cell v0
  replace v1 := gq.cell v1
  replace v2 := gq.cell v2
  replace v3 := gq.cell v3
  replace v4 := gq.cell v4
  replace gW := gW.trans gq
  clear gq
  cases b1 with
  | false =>
    clear hrb
    go_wp2_with fail
    refine (law14_known _).mono ?_
    rintro e w9 ⟨rfl, hx1⟩
    go_wp2_with fail
    go_ret
    exact ⟨rfl, gW.trans hx1⟩
  | true =>
    go_wp2_with fail
    refine (law14_may (h2.ext gW)).mono ?_
    rintro e wb ⟨b2, rfl, gq⟩
    replace s0 := gq.cell s0
    replace s1 := gq.cell s1
    replace t0 := gq.cell t0
    replace t1 := gq.cell t1
    replace v0 := gq.cell v0
    replace v1 := gq.cell v1
    replace v2 := gq.cell v2
    replace v3 := gq.cell v3
    replace v4 := gq.cell v4
    replace gW := gW.trans gq
    clear gq
    cases b2 with
    | false =>
      clear hrb
      go_wp2_with fail
      refine (law14_known _).mono ?_
      rintro e w9 ⟨rfl, hx1⟩
      go_wp2_with fail
      go_ret
      exact ⟨rfl, gW.trans hx1⟩
    | true =>
      go_wp2_with fail
      refine (keep_Few (hsl.ext gW) hs HF).mono ?_
      rintro e wc ⟨rfl, gq⟩
      replace s0 := gq.cell s0
      replace s1 := gq.cell s1
      replace t0 := gq.cell t0
      replace t1 := gq.cell t1
      replace v0 := gq.cell v0
      replace v1 := gq.cell v1
      replace v2 := gq.cell v2
      replace v3 := gq.cell v3
      replace v4 := gq.cell v4
      replace gW := gW.trans gq
      clear gq
      cases few with
      | false =>
        clear hrb
        go_wp2_with fail
        refine (law14_known _).mono ?_
        rintro e w9 ⟨rfl, hx1⟩
        go_wp2_with fail
        go_ret
        exact ⟨rfl, gW.trans hx1⟩
      | true =>
        by_cases h40 : 40 < nm.size
        · have q1 : decide ((nm.size : Int) > 40) = true := by simp; omega
          have q1' : decide (40 < (nm.size : Int)) = true := by simp; omega
          clear hrb
          go_wp2_with fail
          refine (law14_known _).mono ?_
          rintro e w9 ⟨rfl, hx1⟩
          go_wp2_with fail
          go_ret
          exact ⟨rfl, gW.trans hx1⟩
        · have q1 : decide ((nm.size : Int) > 40) = false := by simp; omega
          have q1' : decide (40 < (nm.size : Int)) = false := by simp; omega
          have hqq : (eq != eq) = false := by simp
          have hqr : (rb != rb) = false := by simp
          clear h40
          go_wp2_with fail
          refine (ref_Right14 (h1.ext gW) HRB).mono ?_
          rintro e wd ⟨rfl, gq⟩
          replace s0 := gq.cell s0
          replace s1 := gq.cell s1
          replace t0 := gq.cell t0
          replace t1 := gq.cell t1
          replace v0 := gq.cell v0
          replace v1 := gq.cell v1
          replace v2 := gq.cell v2
          replace v3 := gq.cell v3
          replace v4 := gq.cell v4
          replace gW := gW.trans gq
          clear gq
          have hs1 := h1
          have hs2 := h2
          clear h1 h2
          go_wp2_with fail
          refine wp_region_typed Ext.steady rfl 123 rfl (by kernel_rfl) ?_
          -- 0: Op.load 35 t6
          apply Stage.step (Is _) [] (Is.keeps _) (by kernel_rfl)
          · intro w1 h1
            simp only [Given]
            have hq := h1.cell s0
            have hq2 := h1.cell s1
            go_wp2_with fail
            exact Post.isv (Ext.refl _) rfl rfl rfl
          -- 1: Op.call { value (Operand.func 58), args := #[t43], argTypes := #[35] }
          apply Stage.step (Is (.bool rb)) [true] (Is.keeps _) (by kernel_rfl)
          · intro w1 h1
            simp only [List.nil_append, Given]
            rintro _ rfl
            go_wp2_with fail
            refine (model_Right (hs1.ext (gW.trans h1)) HRB).mono ?_
            rintro e w30 ⟨rfl, gq⟩
            go_wp2_with fail
            exact Post.isv gq rfl rfl rfl
          -- 2: Op.move t13
          apply Stage.step (Is _) [] (Is.keeps _) (by kernel_rfl)
          · intro w1 h1
            simp only [Given]
            go_wp2_with fail
            exact Post.isv (Ext.refl _) rfl rfl rfl
          -- 3: Op.binOp BinOp.neq 4 t44 t45 4
          apply Stage.step (Is _) [false, true, true] (Is.keeps _) (by kernel_rfl)
          · intro w1 h1
            simp only [List.nil_append, List.cons_append, Given]
            rintro _ rfl
            rintro _ rfl
            go_wp2_with fail
            exact Post.isv (Ext.refl _) rfl rfl rfl
          -- 4: Op.move t46
          apply Stage.step (Is _) [false, false, false, true] (Is.keeps _) (by kernel_rfl)
          · intro w1 h1
            simp only [List.nil_append, List.cons_append, Given]
            rintro _ rfl
            go_wp2_with fail
            exact Post.isv (Ext.refl _) rfl rfl rfl
          -- 5: Op.load 35 t6   [guarded: some (4, false)]
          apply Stage.step (Is _) [false, false, false, false, true] (Is.keeps _) (by kernel_rfl)
          · intro w1 h1
            simp only [List.nil_append, List.cons_append, Given]
            rintro _ rfl
            have hq := h1.cell s0
            have hq2 := h1.cell s1
            go_wp2_with fail
            exact Post.isv (Ext.refl _) rfl rfl rfl
          -- 6: Op.load 35 t7   [guarded: some (4, false)]
          apply Stage.step (Is _) [false, false, false, false, true] (Is.keeps _) (by kernel_rfl)
          · intro w1 h1
            simp only [List.nil_append, List.cons_append, Given]
            rintro _ rfl
            have hq := h1.cell t0
            have hq2 := h1.cell t1
            go_wp2_with fail
            exact Post.isv (Ext.refl _) rfl rfl rfl
          -- 7: Op.call { value (Operand.func 59), args := #[t48, t49], argTypes := #[35, 35] }   [guarded: some (4,
          apply Stage.step (Is (.bool eq)) [false, false, false, false, true, true, true] (Is.keeps _) (by kernel_rfl)
          · intro w1 h1
            simp only [List.nil_append, List.cons_append, Given]
            rintro _ rfl
            rintro _ rfl
            rintro _ rfl
            go_wp2_with fail
            refine (model_SameSt (hs1.ext (gW.trans h1)) (hs2.ext (gW.trans h1)) HEQ).mono ?_
            rintro e w30 ⟨rfl, gq⟩
            go_wp2_with fail
            exact Post.isv gq rfl rfl rfl
          -- 8: Op.load 35 t6   [guarded: some (4, false)]
          apply Stage.step (Is _) [false, false, false, false, true] (Is.keeps _) (by kernel_rfl)
          · intro w1 h1
            simp only [List.nil_append, List.cons_append, Given]
            rintro _ rfl
            have hq := h1.cell s0
            have hq2 := h1.cell s1
            go_wp2_with fail
            exact Post.isv (Ext.refl _) rfl rfl rfl
          -- 9: Op.load 35 t7   [guarded: some (4, false)]
          apply Stage.step (Is _) [false, false, false, false, true] (Is.keeps _) (by kernel_rfl)
          · intro w1 h1
            simp only [List.nil_append, List.cons_append, Given]
            rintro _ rfl
            have hq := h1.cell t0
            have hq2 := h1.cell t1
            go_wp2_with fail
            exact Post.isv (Ext.refl _) rfl rfl rfl
          -- 10: Op.call { value (Operand.func 56), args := #[t51, t52], argTypes := #[35, 35] }   [guarded: some (4,
          apply Stage.step (Is (.bool eq)) [false, false, false, false, true, false, false, false, true, true] (Is.keeps _) (by kernel_rfl)
          · intro w1 h1
            simp only [List.nil_append, List.cons_append, Given]
            rintro _ rfl
            rintro _ rfl
            rintro _ rfl
            go_wp2_with fail
            refine (ref_SameSt (hs1.ext (gW.trans h1)) (hs2.ext (gW.trans h1)) HEQ).mono ?_
            rintro e w30 ⟨rfl, gq⟩
            go_wp2_with fail
            exact Post.isv gq rfl rfl rfl
          -- 11: Op.binOp BinOp.neq 4 t50 t53 4   [guarded: some (4, false)]
          apply Stage.step (Is _) [false, false, false, false, true, false, false, true, false, false, true] (Is.keeps _) (by kernel_rfl)
          · intro w1 h1
            simp only [List.nil_append, List.cons_append, Given]
            rintro _ rfl
            rintro _ rfl
            rintro _ rfl
            go_wp2_with fail
            exact Post.isv (Ext.refl _) rfl rfl rfl
          -- 12: Op.pick t47 (const (Value.bool true)) t54
          apply Stage.step (Is _) [false, false, false, false, true, false, false, false, false, false, false, true] (Is.keeps _) (by kernel_rfl)
          · intro w1 h1
            simp only [List.nil_append, List.cons_append, Given]
            rintro _ rfl
            rintro _ rfl
            go_wp2_with fail
            exact Post.isv (Ext.refl _) rfl rfl rfl
          -- 13: Op.move t55
          apply Stage.step (Is _) [false, false, false, false, false, false, false, false, false, false, false, false, true] (Is.keeps _) (by kernel_rfl)
          · intro w1 h1
            simp only [List.nil_append, List.cons_append, Given]
            rintro _ rfl
            go_wp2_with fail
            exact Post.isv (Ext.refl _) rfl rfl rfl
          -- 14: Op.load 35 t6   [guarded: some (13, false)]
          apply Stage.step (Is _) [false, false, false, false, false, false, false, false, false, false, false, false, false, true] (Is.keeps _) (by kernel_rfl)
          · intro w1 h1
            simp only [List.nil_append, List.cons_append, Given]
            rintro _ rfl
            have hq := h1.cell s0
            have hq2 := h1.cell s1
            go_wp2_with fail
            exact Post.isv (Ext.refl _) rfl rfl rfl
          -- 15: Op.load 35 t6   [guarded: some (13, false)]
          apply Stage.step (Is _) [false, false, false, false, false, false, false, false, false, false, false, false, false, true] (Is.keeps _) (by kernel_rfl)
          · intro w1 h1
            simp only [List.nil_append, List.cons_append, Given]
            rintro _ rfl
            have hq := h1.cell s0
            have hq2 := h1.cell s1
            go_wp2_with fail
            exact Post.isv (Ext.refl _) rfl rfl rfl
          -- 16: Op.call { value (Operand.func 59), args := #[t57, t58], argTypes := #[35, 35] }   [guarded: some (13
          apply Stage.step (Is (.bool true)) [false, false, false, false, false, false, false, false, false, false, false, false, false, true, true, true] (Is.keeps _) (by kernel_rfl)
          · intro w1 h1
            simp only [List.nil_append, List.cons_append, Given]
            rintro _ rfl
            rintro _ rfl
            rintro _ rfl
            go_wp2_with fail
            refine (model_SameSt (hs1.ext (gW.trans h1)) (hs1.ext (gW.trans h1)) (Lib.hid (decide_eq_true rfl))).mono ?_
            rintro e w30 ⟨rfl, gq⟩
            go_wp2_with fail
            exact Post.isv gq rfl rfl rfl
          -- 17: Op.unOp UnOp.not 4 t59   [guarded: some (13, false)]
          apply Stage.step (Is _) [false, false, false, false, false, false, false, false, false, false, false, false, false, true, false, false, true] (Is.keeps _) (by kernel_rfl)
          · intro w1 h1
            simp only [List.nil_append, List.cons_append, Given]
            rintro _ rfl
            rintro _ rfl
            go_wp2_with fail
            exact Post.isv (Ext.refl _) rfl rfl rfl
          -- 18: Op.pick t56 (const (Value.bool true)) t60
          apply Stage.step (Is _) [false, false, false, false, false, false, false, false, false, false, false, false, false, true, false, false, false, true] (Is.keeps _) (by kernel_rfl)
          · intro w1 h1
            simp only [List.nil_append, List.cons_append, Given]
            rintro _ rfl
            rintro _ rfl
            go_wp2_with fail
            exact Post.isv (Ext.refl _) rfl rfl rfl
          apply Stage.nil
          intro w1 h1
          simp only [List.nil_append, List.cons_append]
          refine Fin.is_ ?_
          refine Fin.is_ ?_
          refine Fin.is_ ?_
          refine Fin.is_ ?_
          refine Fin.is_ ?_
          refine Fin.is_ ?_
          refine Fin.is_ ?_
          refine Fin.is_ ?_
          refine Fin.is_ ?_
          refine Fin.is_ ?_
          refine Fin.is_ ?_
          refine Fin.is_ ?_
          refine Fin.is_ ?_
          refine Fin.is_ ?_
          refine Fin.is_ ?_
          refine Fin.is_ ?_
          refine Fin.is_ ?_
          refine Fin.is_ ?_
          refine Fin.is_ ?_
          refine Fin.nil_ ?_
          go_simp
          replace s0 := h1.cell s0
          replace s1 := h1.cell s1
          replace t0 := h1.cell t0
          replace t1 := h1.cell t1
          replace v0 := h1.cell v0
          replace v1 := h1.cell v1
          replace v2 := h1.cell v2
          replace v3 := h1.cell v3
          replace v4 := h1.cell v4
          replace gW := gW.trans h1
          clear h1
          cases rb with
          | false =>
            clear hrb
            go_wp2_with fail
            refine (law14_known _).mono ?_
            rintro e w9 ⟨rfl, hx1⟩
            go_wp2_with fail
            go_ret
            exact ⟨rfl, gW.trans hx1⟩
          | true =>
            obtain ⟨o1, o2, o3⟩ := okS_right hrb
            have hnl := hs1.1.len
            have hn2l := hs1.2.len
            have hn : n ≤ 1000 := by omega
            have hn2' : n2 ≤ 1000 := by omega
            obtain ⟨r, hr⟩ : ∃ q', checkN s k o q ne es = q' := ⟨_, rfl⟩
            obtain ⟨T, hT⟩ : ∃ q', appliedS r s k o q l es = q' := ⟨_, rfl⟩
            obtain ⟨rn, hrn⟩ : ∃ q', readN s nm off nn = q' := ⟨_, rfl⟩
            obtain ⟨rl, hrl⟩ : ∃ q', readL s nm off nn = q' := ⟨_, rfl⟩
            have HR := Lib.hid hr
            have HT := Lib.hid hT
            have HN := Lib.hid hrn
            have HL := Lib.hid hrl
            have hrr : ((r : Int) == (r : Int)) = true := by simp
            have hnr : ((rn : Int) == (rn : Int)) = true := by simp
            clear hrb hr hT hrn hrl
            go_wp2_with fail
            refine (model_Apply (hs1.ext gW) hn hn2' o3 (hsl.ext gW) hs HR HT).mono ?_
            rintro e w1 ⟨A5, n5, c5, B5, m5, d5, rfl, u5, gq⟩
            have b5 := u5.st.1.n63
            have bb5 := u5.st.2.n63
            replace s0 := gq.cell s0
            replace s1 := gq.cell s1
            replace t0 := gq.cell t0
            replace t1 := gq.cell t1
            replace v0 := gq.cell v0
            replace v1 := gq.cell v1
            replace v2 := gq.cell v2
            replace v3 := gq.cell v3
            replace v4 := gq.cell v4
            replace gW := gW.trans gq
            clear gq
            obtain ⟨wm, hwm⟩ : ∃ q, w1.alloc (.cells #[.slice A5 n5 c5, .slice B5 m5 d5] TSt) = q := ⟨_, rfl⟩
            obtain ⟨ga, hga⟩ : ∃ q, w1.heap.size = q := ⟨_, rfl⟩
            have gq : Ext w1 wm := by rw [← hwm]; exact Ext.alloc _ _
            have x0 : wm.cell? ⟨ga, 0, none⟩ = some (.slice A5 n5 c5) := by rw [← hwm, ← hga]; exact cell_new w1 _ _ 0
            have x1 : wm.cell? ⟨ga, 1, none⟩ = some (.slice B5 m5 d5) := by rw [← hwm, ← hga]; exact cell_new w1 _ _ 1
            have u5r := u5.st.ext gq
            replace s0 := gq.cell s0
            replace s1 := gq.cell s1
            replace t0 := gq.cell t0
            replace t1 := gq.cell t1
            replace v0 := gq.cell v0
            replace v1 := gq.cell v1
            replace v2 := gq.cell v2
            replace v3 := gq.cell v3
            replace v4 := gq.cell v4
            replace gW := gW.trans gq
            clear gq u5
            go_wp2_with fail
            clear hwm hga
            refine (ref14_Apply (hs1.ext gW) hn hn2' o3 (hsl.ext gW) hs HR HT).mono ?_
            rintro e w2 ⟨A6, n6, c6, B6, m6, d6, rfl, u6, gq⟩
            have b6 := u6.1.n63
            have bb6 := u6.2.n63
            replace s0 := gq.cell s0
            replace s1 := gq.cell s1
            replace t0 := gq.cell t0
            replace t1 := gq.cell t1
            replace v0 := gq.cell v0
            replace v1 := gq.cell v1
            replace v2 := gq.cell v2
            replace v3 := gq.cell v3
            replace v4 := gq.cell v4
            replace gW := gW.trans gq
            replace x0 := gq.cell x0
            replace x1 := gq.cell x1
            replace u5r := u5r.ext gq
            clear gq
            obtain ⟨wn, hwn⟩ : ∃ q, w2.alloc (.cells #[.slice A6 n6 c6, .slice B6 m6 d6] TSt) = q := ⟨_, rfl⟩
            obtain ⟨gb, hgb⟩ : ∃ q, w2.heap.size = q := ⟨_, rfl⟩
            have gq : Ext w2 wn := by rw [← hwn]; exact Ext.alloc _ _
            have y0 : wn.cell? ⟨gb, 0, none⟩ = some (.slice A6 n6 c6) := by rw [← hwn, ← hgb]; exact cell_new w2 _ _ 0
            have y1 : wn.cell? ⟨gb, 1, none⟩ = some (.slice B6 m6 d6) := by rw [← hwn, ← hgb]; exact cell_new w2 _ _ 1
            replace s0 := gq.cell s0
            replace s1 := gq.cell s1
            replace t0 := gq.cell t0
            replace t1 := gq.cell t1
            replace v0 := gq.cell v0
            replace v1 := gq.cell v1
            replace v2 := gq.cell v2
            replace v3 := gq.cell v3
            replace v4 := gq.cell v4
            replace gW := gW.trans gq
            replace x0 := gq.cell x0
            replace x1 := gq.cell x1
            replace u5r := u5r.ext gq
            replace u6 := u6.ext gq
            clear gq
            go_wp2_with fail
            clear hwn hgb
            refine (model_Read (hs1.ext gW) hn o3 HN HL).mono ?_
            rintro e w3 ⟨A7, n7, c7, rfl, f7, gq⟩
            have b7 := f7.sl.n63
            replace s0 := gq.cell s0
            replace s1 := gq.cell s1
            replace t0 := gq.cell t0
            replace t1 := gq.cell t1
            replace v0 := gq.cell v0
            replace v1 := gq.cell v1
            replace v2 := gq.cell v2
            replace v3 := gq.cell v3
            replace v4 := gq.cell v4
            replace gW := gW.trans gq
            replace x0 := gq.cell x0
            replace x1 := gq.cell x1
            replace y0 := gq.cell y0
            replace y1 := gq.cell y1
            replace u5r := u5r.ext gq
            replace u6 := u6.ext gq
            clear gq
            go_wp2_with fail
            refine (ref_Read14 (hs1.ext gW) hn o3 HN HL).mono ?_
            rintro e w4 ⟨A8, n8, c8, rfl, f8, gq⟩
            have b8 := f8.sl.n63
            replace s0 := gq.cell s0
            replace s1 := gq.cell s1
            replace t0 := gq.cell t0
            replace t1 := gq.cell t1
            replace v0 := gq.cell v0
            replace v1 := gq.cell v1
            replace v2 := gq.cell v2
            replace v3 := gq.cell v3
            replace v4 := gq.cell v4
            replace gW := gW.trans gq
            replace x0 := gq.cell x0
            replace x1 := gq.cell x1
            replace y0 := gq.cell y0
            replace y1 := gq.cell y1
            replace u5r := u5r.ext gq
            replace u6 := u6.ext gq
            replace f7 := f7.ext gq
            clear gq
            go_wp2_with fail
            refine (ref_SameSt u5r u6 (Lib.hid (decide_eq_true rfl))).mono ?_
            rintro e w5 ⟨rfl, gq⟩
            replace s0 := gq.cell s0
            replace s1 := gq.cell s1
            replace t0 := gq.cell t0
            replace t1 := gq.cell t1
            replace v0 := gq.cell v0
            replace v1 := gq.cell v1
            replace v2 := gq.cell v2
            replace v3 := gq.cell v3
            replace v4 := gq.cell v4
            replace gW := gW.trans gq
            replace x0 := gq.cell x0
            replace x1 := gq.cell x1
            replace y0 := gq.cell y0
            replace y1 := gq.cell y1
            replace u5r := u5r.ext gq
            replace u6 := u6.ext gq
            replace f7 := f7.ext gq
            replace f8 := f8.ext gq
            clear gq
            go_wp2_with fail
            refine (model_Check (hs1.ext gW) (hsl.ext gW) hs HR).mono ?_
            rintro e w6 ⟨rfl, gq⟩
            replace s0 := gq.cell s0
            replace s1 := gq.cell s1
            replace t0 := gq.cell t0
            replace t1 := gq.cell t1
            replace v0 := gq.cell v0
            replace v1 := gq.cell v1
            replace v2 := gq.cell v2
            replace v3 := gq.cell v3
            replace v4 := gq.cell v4
            replace gW := gW.trans gq
            replace x0 := gq.cell x0
            replace x1 := gq.cell x1
            replace y0 := gq.cell y0
            replace y1 := gq.cell y1
            replace u5r := u5r.ext gq
            replace u6 := u6.ext gq
            replace f7 := f7.ext gq
            replace f8 := f8.ext gq
            clear gq
            have ht7 := run_text_u8 f7.sl
            have ht8 := run_text_u8 f8.sl
            go_wp2_with fail
            refine (law14_known _).mono ?_
            rintro e w9 ⟨rfl, hx1⟩
            go_wp2_with fail
            go_ret
            exact ⟨rfl, gW.trans hx1⟩
end Go.Proofs.Ytcklkjklepmabaa
