/-
  Events: contracts of the reference's Plain, Span, SameEvent.
-/
import Derived.Test.YtcklkjklepmabaaZCore
import Derived.Test.YtcklkjklepmabaaZEvRight
namespace Go.Proofs.Ytcklkjklepmabaa
open Go.RowKit
set_option linter.unusedVariables false
set_option linter.unusedSimpArgs false
set_option linter.unnecessarySimpa false
set_option maxRecDepth 100000

def plainE (k o m : Int) (n : Nat) (s : ByteArray) : Bool := rightE k o m n s && decide (k = 1 ∨ k = 2 ∨ k = 3)
def spanO (k o m : Int) (n : Nat) (s : ByteArray) : Int := if plainE k o m n s then o else 0
def spanN (k o m : Int) (n : Nat) (s : ByteArray) : Int := if plainE k o m n s then (if k = 1 then (n : Int) else m) else 0
theorem ref_Plain (k o m : Int) (A : Option Addr) (n c : Nat) (s : ByteArray) (w : World) (hn : n ≤ 9223372036854775807) (hs : s.size ≤ maxLen) :
    Calls Try.prog 40 #[evV k o m A n c s] w fun e w' => e = .returned (.bool (plainE k o m n s)) ∧ Ext w w' := by
  obtain ⟨r, hr⟩ : ∃ r, rightE k o m n s = r := ⟨_, rfl⟩
  have HR := Lib.hid hr
  go_enter Try.func40, Try.ntmps40
  go_wp2_with fail
  refine (ref_RightEvent k o m A n c s _ hn hs).mono ?_
  rintro e w1 ⟨rfl, hx1⟩
  rw [HR.out]
  have hc : w1.cell? ⟨w.heap.size, 0, none⟩ = some (.int .i64 k) := hx1.cell (cell_new _ _ _ _)
  have hx2 : Ext w w1 := (Ext.alloc w _).trans hx1
  clear hx1
  cases r with
  | false =>
    go_wp2
    go_ret
    exact ⟨ret_bool (by unfold plainE; rw [HR.out]; rfl), hx2⟩
  | true =>
    by_cases k1 : k = 1
    · subst k1
      go_wp2
      go_ret
      exact ⟨ret_bool (by unfold plainE; rw [HR.out]; rfl), hx2⟩
    by_cases k2 : k = 2
    · subst k2
      go_wp2
      go_ret
      exact ⟨ret_bool (by unfold plainE; rw [HR.out]; rfl), hx2⟩
    by_cases k3 : k = 3
    · subst k3
      go_wp2
      go_ret
      exact ⟨ret_bool (by unfold plainE; rw [HR.out]; rfl), hx2⟩
    have q1 : (k == 1) = false := by simp; omega
    have q2 : (k == 2) = false := by simp; omega
    have q3 : (k == 3) = false := by simp; omega
    go_wp2
    go_ret
    exact ⟨ret_bool (by unfold plainE; rw [HR.out]; simp; omega), hx2⟩

theorem ref_Span (k o m : Int) (A : Option Addr) (n c : Nat) (s : ByteArray) (w : World) (hn : n ≤ 9223372036854775807) (hs : s.size ≤ maxLen) :
    Calls Try.prog 23 #[evV k o m A n c s] w fun e w' => e = .returned (.tuple #[.int .i64 (spanO k o m n s), .int .i64 (spanN k o m n s)]) ∧ Ext w w' := by
  obtain ⟨r, hr⟩ : ∃ r, plainE k o m n s = r := ⟨_, rfl⟩
  obtain ⟨a, ha⟩ : ∃ a, spanO k o m n s = a := ⟨_, rfl⟩
  obtain ⟨b, hb⟩ : ∃ a, spanN k o m n s = a := ⟨_, rfl⟩
  rw [ha, hb]
  unfold spanO at ha
  unfold spanN at hb
  rw [hr] at ha hb
  have HR := Lib.hid hr
  go_enter Try.func23, Try.ntmps23
  go_wp2_with fail
  refine (ref_Plain k o m A n c s _ hn hs).mono ?_
  rintro e w1 ⟨rfl, hx1⟩
  rw [HR.out]
  have hc0 : w1.cell? ⟨w.heap.size, 0, none⟩ = some (.int .i64 k) := hx1.cell (cell_new _ _ _ _)
  have hc1 : w1.cell? ⟨w.heap.size, 1, none⟩ = some (.int .i64 o) := hx1.cell (cell_new _ _ _ _)
  have hc2 : w1.cell? ⟨w.heap.size, 2, none⟩ = some (.int .i64 m) := hx1.cell (cell_new _ _ _ _)
  have hc3 : w1.cell? ⟨w.heap.size, 3, none⟩ = some (.slice A n c) := hx1.cell (cell_new _ _ _ _)
  have hx2 : Ext w w1 := (Ext.alloc w _).trans hx1
  clear hx1
  cases r with
  | false =>
    subst ha hb
    go_wp2
    go_ret2
    exact ⟨rfl, hx2⟩
  | true =>
    subst ha
    by_cases k1 : k = 1
    · subst k1 hb
      go_wp2
      refine wp_region_typed Ext.steady rfl 19 rfl (by kernel_rfl) ?_
      -- 0: Op.fieldAddr 28 t1 1
      apply Stage.step (Is _) [] (Is.keeps _) (by kernel_rfl)
      · intro w1 h1
        simp only [Given]
        go_wp2_with fail
        exact Post.isv (Ext.refl _) rfl rfl rfl
      -- 1: Op.load 3 t10
      apply Stage.step (Is (.int .i64 o)) [true] (Is.keeps _) (by kernel_rfl)
      · intro w1 h1
        simp only [List.nil_append, Given]
        rintro _ rfl
        have hq := h1.cell hc1
        go_wp2_with fail
        exact Post.isv (Ext.refl _) rfl rfl rfl
      -- 2: Op.fieldAddr 28 t1 3
      apply Stage.step (Is _) [] (Is.keeps _) (by kernel_rfl)
      · intro w1 h1
        simp only [Given]
        go_wp2_with fail
        exact Post.isv (Ext.refl _) rfl rfl rfl
      -- 3: Op.load 22 t12
      apply Stage.step (Is (.slice A n c)) [false, false, true] (Is.keeps _) (by kernel_rfl)
      · intro w1 h1
        simp only [List.nil_append, List.cons_append, Given]
        rintro _ rfl
        have hq := h1.cell hc3
        go_wp2_with fail
        exact Post.isv (Ext.refl _) rfl rfl rfl
      -- 4: Op.call { builtin len, args := #[t13], argTypes := #[22] }
      apply Stage.step (Is _) [false, false, false, true] (Is.keeps _) (by kernel_rfl)
      · intro w1 h1
        simp only [List.nil_append, List.cons_append, Given]
        rintro _ rfl
        go_wp2_with fail
        exact Post.isv (Ext.refl _) rfl rfl rfl
      -- 5: Op.assign t11
      apply Stage.step (Is _) [false, true] (Is.keeps _) (by kernel_rfl)
      · intro w1 h1
        simp only [List.nil_append, List.cons_append, Given]
        rintro _ rfl
        go_wp2_with fail
        exact Post.isv (Ext.refl _) rfl rfl rfl
      -- 6: Op.assign t14
      apply Stage.step (Is _) [false, false, false, false, true] (Is.keeps _) (by kernel_rfl)
      · intro w1 h1
        simp only [List.nil_append, List.cons_append, Given]
        rintro _ rfl
        go_wp2_with fail
        exact Post.isv (Ext.refl _) rfl rfl rfl
      apply Stage.nil
      intro w1 h1
      simp only [List.nil_append, List.cons_append]
      refine Fin.is_ ?_
      refine Fin.is_ ?_
      refine Fin.is_ ?_
      refine Fin.is_ ?_
      refine Fin.is_ ?_
      refine Fin.is_ ?_
      refine Fin.is_ ?_
      refine Fin.nil_ ?_
      go_simp
      go_wp2
      go_ret2
      exact ⟨rfl, hx2.trans h1⟩
    · have q1 : (k == 1) = false := by simp; omega
      simp only [if_true, if_neg k1] at hb
      subst hb
      go_wp2
      refine wp_region_typed Ext.steady rfl 19 rfl (by kernel_rfl) ?_
      -- 0: Op.fieldAddr 28 t1 1
      apply Stage.step (Is _) [] (Is.keeps _) (by kernel_rfl)
      · intro w1 h1
        simp only [Given]
        go_wp2_with fail
        exact Post.isv (Ext.refl _) rfl rfl rfl
      -- 1: Op.load 3 t15
      apply Stage.step (Is (.int .i64 o)) [true] (Is.keeps _) (by kernel_rfl)
      · intro w1 h1
        simp only [List.nil_append, Given]
        rintro _ rfl
        have hq := h1.cell hc1
        go_wp2_with fail
        exact Post.isv (Ext.refl _) rfl rfl rfl
      -- 2: Op.fieldAddr 28 t1 2
      apply Stage.step (Is _) [] (Is.keeps _) (by kernel_rfl)
      · intro w1 h1
        simp only [Given]
        go_wp2_with fail
        exact Post.isv (Ext.refl _) rfl rfl rfl
      -- 3: Op.load 3 t17
      apply Stage.step (Is (.int .i64 m)) [false, false, true] (Is.keeps _) (by kernel_rfl)
      · intro w1 h1
        simp only [List.nil_append, List.cons_append, Given]
        rintro _ rfl
        have hq := h1.cell hc2
        go_wp2_with fail
        exact Post.isv (Ext.refl _) rfl rfl rfl
      -- 4: Op.assign t16
      apply Stage.step (Is _) [false, true] (Is.keeps _) (by kernel_rfl)
      · intro w1 h1
        simp only [List.nil_append, List.cons_append, Given]
        rintro _ rfl
        go_wp2_with fail
        exact Post.isv (Ext.refl _) rfl rfl rfl
      -- 5: Op.assign t18
      apply Stage.step (Is _) [false, false, false, true] (Is.keeps _) (by kernel_rfl)
      · intro w1 h1
        simp only [List.nil_append, List.cons_append, Given]
        rintro _ rfl
        go_wp2_with fail
        exact Post.isv (Ext.refl _) rfl rfl rfl
      apply Stage.nil
      intro w1 h1
      simp only [List.nil_append, List.cons_append]
      refine Fin.is_ ?_
      refine Fin.is_ ?_
      refine Fin.is_ ?_
      refine Fin.is_ ?_
      refine Fin.is_ ?_
      refine Fin.is_ ?_
      refine Fin.nil_ ?_
      go_simp
      go_wp2
      go_ret2
      exact ⟨rfl, hx2.trans h1⟩
end Go.Proofs.Ytcklkjklepmabaa
