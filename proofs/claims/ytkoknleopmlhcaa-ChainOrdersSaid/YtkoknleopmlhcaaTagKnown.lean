/-
  Chains: contract of the law's known.
-/
import Derived.Test.YtkoknleopmlhcaaTagGet
import Derived.Test.YtkoknleopmlhcaaTagNext
import Derived.Test.YtkoknleopmlhcaaTagOf
import Derived.Test.YtkoknleopmlhcaaTagLie
namespace Go.Proofs.Ytkoknleopmlhcaa
open Go.RowKit
set_option linter.unusedVariables false
set_option linter.unusedSimpArgs false
set_option linter.unnecessarySimpa false
set_option maxRecDepth 100000

theorem known_right : RightL [tag1] := by
  refine rightL_iff.1 ?_
  decide
set_option maxHeartbeats 1000000 in
theorem law6_known (w : World) : Calls Try.prog 23 #[] w fun e w' => e = .returned (.bool true) ∧ Ext w w' := by
  have j1 : Hid (rightL [tag1] = true) := rightL_iff.2 known_right
  obtain ⟨L, hL⟩ : ∃ L, putL [tag1] = L := ⟨_, rfl⟩
  have j2 : Hid (putR [tag1] true = L) := hL
  have j3 : Hid (getL L = some [tag1]) := by unfold Hid; rw [← hL]; exact get_put known_right
  have j4 : Hid (nextI [] 1 = 1) := by unfold Hid; decide
  have j5 : Hid (nextI [tag1] 2 = 2) := by unfold Hid; decide
  have j6 : Hid (compareI [tag1] 3 [tag1] 5 = -1) := by unfold Hid; decide
  have j7 : Hid (ofI [tag1] 1 0 = 1) := by unfold Hid; decide
  clear hL
  have l1 : Lst 4 tgR (w.alloc (.cells #[.int .i64 1, .int .i64 1, .int .i64 0, .int .i64 0] 35)) (some ⟨w.heap.size, 0, none⟩) 1 1 [tag1] := (tag_lit w tag1).lst
  go_enter Try.func23, Try.ntmps23
  go_wp2_with fail
  refine (chain_Put l1 j1 j2).mono ?_
  rintro e w2 ⟨A2, n2, c2, rfl, h2, hx2⟩
  rw [show (if true = true then (0 : Int) else 1) = 0 from rfl]
  go_wp2_with fail
  refine (chain_Get h2.sl j3).mono ?_
  rintro e w3 ⟨A3, n3, c3, rfl, h3, hx3⟩
  rw [show (if (some [tag1]).isSome = true then (0 : Int) else 2) = 0 from rfl]
  have l3 : Lst 4 tgR w3 A3 n3 c3 [tag1] := h3.lst
  obtain rfl : n3 = 1 := l3.len.symm
  have lw := (l1.ext tg_rep hx2).ext tg_rep hx3
  obtain ⟨g3, o3, x, cs, rfl, hx, rfl, ha⟩ := l3.at2 tg_rep (by omega) (show 0 < 1 by omega)
  obtain rfl : tag1 = x := by simpa using hx
  obtain ⟨gw, ow, y, ds, ew, hy, rfl, hb⟩ := lw.at2 tg_rep (by omega) (show 0 < 1 by omega)
  obtain rfl : tag1 = y := by simpa using hy
  injection ew with ew
  injection ew with ew1 ew2
  subst ew1 ew2
  have a0 : w3.cell? ⟨g3, o3 + 0, none⟩ = some (.int .i64 1) := by have := ha 0 _ rfl; rwa [Nat.zero_mul, Nat.add_zero] at this
  have b0 : w3.cell? ⟨w.heap.size, 0, none⟩ = some (.int .i64 1) := by have := hb 0 _ rfl; simp only [Nat.zero_mul, Nat.zero_add, Nat.add_zero] at this; exact this
  have a1 : w3.cell? ⟨g3, o3 + 1, none⟩ = some (.int .i64 1) := by have := ha 1 _ rfl; rwa [Nat.zero_mul, Nat.add_zero] at this
  have b1 : w3.cell? ⟨w.heap.size, 1, none⟩ = some (.int .i64 1) := by have := hb 1 _ rfl; simp only [Nat.zero_mul, Nat.zero_add, Nat.add_zero] at this; exact this
  have a2 : w3.cell? ⟨g3, o3 + 2, none⟩ = some (.int .i64 0) := by have := ha 2 _ rfl; rwa [Nat.zero_mul, Nat.add_zero] at this
  have b2 : w3.cell? ⟨w.heap.size, 2, none⟩ = some (.int .i64 0) := by have := hb 2 _ rfl; simp only [Nat.zero_mul, Nat.zero_add, Nat.add_zero] at this; exact this
  have a3 : w3.cell? ⟨g3, o3 + 3, none⟩ = some (.int .i64 0) := by have := ha 3 _ rfl; rwa [Nat.zero_mul, Nat.add_zero] at this
  have b3 : w3.cell? ⟨w.heap.size, 3, none⟩ = some (.int .i64 0) := by have := hb 3 _ rfl; simp only [Nat.zero_mul, Nat.zero_add, Nat.add_zero] at this; exact this
  rw [Nat.add_zero] at a0
  have hx03 := ((Ext.alloc w (.cells #[.int .i64 1, .int .i64 1, .int .i64 0, .int .i64 0] 35)).trans hx2).trans hx3
  clear hx hy ha hb h3 h2 hx2 hx3 l1
  go_wp2_with fail
  refine wp_region_typed Ext.steady rfl 58 rfl (by kernel_rfl) ?_
  -- 0: Op.move t3
  apply Stage.step (Is _) [] (Is.keeps _) (by kernel_rfl)
  · intro w1 h1
    simp only [Given]
    go_wp2_with fail
    exact Post.isv (Ext.refl _) rfl rfl rfl
  -- 1: Op.binOp BinOp.eql 41 t18 (const (0:i64)) 41
  apply Stage.step (Is _) [true] (Is.keeps _) (by kernel_rfl)
  · intro w1 h1
    simp only [List.nil_append, Given]
    rintro _ rfl
    go_wp2_with fail
    exact Post.isv (Ext.refl _) rfl rfl rfl
  -- 2: Op.move t19
  apply Stage.step (Is _) [false, true] (Is.keeps _) (by kernel_rfl)
  · intro w1 h1
    simp only [List.nil_append, List.cons_append, Given]
    rintro _ rfl
    go_wp2_with fail
    exact Post.isv (Ext.refl _) rfl rfl rfl
  -- 3: Op.move t5   [guarded: some (2, true)]
  apply Stage.step (Is _) [false, false, true] (Is.keeps _) (by kernel_rfl)
  · intro w1 h1
    simp only [List.nil_append, List.cons_append, Given]
    rintro _ rfl
    go_wp2_with fail
    exact Post.isv (Ext.refl _) rfl rfl rfl
  -- 4: Op.binOp BinOp.eql 41 t21 (const (0:i64)) 41   [guarded: some (2, true)]
  apply Stage.step (Is _) [false, false, true, true] (Is.keeps _) (by kernel_rfl)
  · intro w1 h1
    simp only [List.nil_append, List.cons_append, Given]
    rintro _ rfl
    rintro _ rfl
    go_wp2_with fail
    exact Post.isv (Ext.refl _) rfl rfl rfl
  -- 5: Op.pick t20 t22 (const (Value.bool false))
  apply Stage.step (Is _) [false, false, true, false, true] (Is.keeps _) (by kernel_rfl)
  · intro w1 h1
    simp only [List.nil_append, List.cons_append, Given]
    rintro _ rfl
    rintro _ rfl
    go_wp2_with fail
    exact Post.isv (Ext.refl _) rfl rfl rfl
  -- 6: Op.move t23
  apply Stage.step (Is _) [false, false, false, false, false, true] (Is.keeps _) (by kernel_rfl)
  · intro w1 h1
    simp only [List.nil_append, List.cons_append, Given]
    rintro _ rfl
    go_wp2_with fail
    exact Post.isv (Ext.refl _) rfl rfl rfl
  -- 7: Op.move t4   [guarded: some (6, true)]
  apply Stage.step (Is _) [false, false, false, false, false, false, true] (Is.keeps _) (by kernel_rfl)
  · intro w1 h1
    simp only [List.nil_append, List.cons_append, Given]
    rintro _ rfl
    go_wp2_with fail
    exact Post.isv (Ext.refl _) rfl rfl rfl
  -- 8: Op.call { builtin len, args := #[t25], argTypes := #[24] }   [guarded: some (6, true)]
  apply Stage.step (Is _) [false, false, false, false, false, false, true, true] (Is.keeps _) (by kernel_rfl)
  · intro w1 h1
    simp only [List.nil_append, List.cons_append, Given]
    rintro _ rfl
    rintro _ rfl
    go_wp2_with fail
    exact Post.isv (Ext.refl _) rfl rfl rfl
  -- 9: Op.binOp BinOp.eql 3 t26 (const (1:i64)) 3   [guarded: some (6, true)]
  apply Stage.step (Is _) [false, false, false, false, false, false, true, false, true] (Is.keeps _) (by kernel_rfl)
  · intro w1 h1
    simp only [List.nil_append, List.cons_append, Given]
    rintro _ rfl
    rintro _ rfl
    go_wp2_with fail
    exact Post.isv (Ext.refl _) rfl rfl rfl
  -- 10: Op.pick t24 t27 (const (Value.bool false))
  apply Stage.step (Is _) [false, false, false, false, false, false, true, false, false, true] (Is.keeps _) (by kernel_rfl)
  · intro w1 h1
    simp only [List.nil_append, List.cons_append, Given]
    rintro _ rfl
    rintro _ rfl
    go_wp2_with fail
    exact Post.isv (Ext.refl _) rfl rfl rfl
  -- 11: Op.move t28
  apply Stage.step (Is _) [false, false, false, false, false, false, false, false, false, false, true] (Is.keeps _) (by kernel_rfl)
  · intro w1 h1
    simp only [List.nil_append, List.cons_append, Given]
    rintro _ rfl
    go_wp2_with fail
    exact Post.isv (Ext.refl _) rfl rfl rfl
  -- 12: Op.move t4   [guarded: some (11, true)]
  apply Stage.step (Is _) [false, false, false, false, false, false, false, false, false, false, false, true] (Is.keeps _) (by kernel_rfl)
  · intro w1 h1
    simp only [List.nil_append, List.cons_append, Given]
    rintro _ rfl
    go_wp2_with fail
    exact Post.isv (Ext.refl _) rfl rfl rfl
  -- 13: Op.indexAddr 24 t30 (const (0:i64))   [guarded: some (11, true)]
  apply Stage.step (Is _) [false, false, false, false, false, false, false, false, false, false, false, true, true] (Is.keeps _) (by kernel_rfl)
  · intro w1 h1
    simp only [List.nil_append, List.cons_append, Given]
    rintro _ rfl
    rintro _ rfl
    go_wp2_with fail
    exact Post.isv (Ext.refl _) rfl rfl rfl
  -- 14: Op.load 35 t31   [guarded: some (11, true)]
  apply Stage.step (Is (.agg #[.int .i64 1, .int .i64 1, .int .i64 0, .int .i64 0])) [false, false, false, false, false, false, false, false, false, false, false, true, false, true] (Is.keeps _) (by kernel_rfl)
  · intro w1 h1
    simp only [List.nil_append, List.cons_append, Given]
    rintro _ rfl
    rintro _ rfl
    have q0 := h1.cell a0
    have q1 := h1.cell a1
    have q2 := h1.cell a2
    have q3 := h1.cell a3
    go_wp2_with fail
    exact Post.isv (Ext.refl _) rfl rfl rfl
  -- 15: Op.move t1   [guarded: some (11, true)]
  apply Stage.step (Is _) [false, false, false, false, false, false, false, false, false, false, false, true] (Is.keeps _) (by kernel_rfl)
  · intro w1 h1
    simp only [List.nil_append, List.cons_append, Given]
    rintro _ rfl
    go_wp2_with fail
    exact Post.isv (Ext.refl _) rfl rfl rfl
  -- 16: Op.indexAddr 24 t33 (const (0:i64))   [guarded: some (11, true)]
  apply Stage.step (Is _) [false, false, false, false, false, false, false, false, false, false, false, true, false, false, false, true] (Is.keeps _) (by kernel_rfl)
  · intro w1 h1
    simp only [List.nil_append, List.cons_append, Given]
    rintro _ rfl
    rintro _ rfl
    go_wp2_with fail
    exact Post.isv (Ext.refl _) rfl rfl rfl
  -- 17: Op.load 35 t34   [guarded: some (11, true)]
  apply Stage.step (Is (.agg #[.int .i64 1, .int .i64 1, .int .i64 0, .int .i64 0])) [false, false, false, false, false, false, false, false, false, false, false, true, false, false, false, false, true] (Is.keeps _) (by kernel_rfl)
  · intro w1 h1
    simp only [List.nil_append, List.cons_append, Given]
    rintro _ rfl
    rintro _ rfl
    have q0 := h1.cell b0
    have q1 := h1.cell b1
    have q2 := h1.cell b2
    have q3 := h1.cell b3
    go_wp2_with fail
    exact Post.isv (Ext.refl _) rfl rfl rfl
  -- 18: Op.binOp BinOp.eql 35 t32 t35 35   [guarded: some (11, true)]
  apply Stage.step (Is _) [false, false, false, false, false, false, false, false, false, false, false, true, false, false, true, false, false, true] (Is.keeps _) (by kernel_rfl)
  · intro w1 h1
    simp only [List.nil_append, List.cons_append, Given]
    rintro _ rfl
    rintro _ rfl
    rintro _ rfl
    go_wp2_with fail
    exact Post.isv (Ext.refl _) rfl rfl rfl
  -- 19: Op.pick t29 t36 (const (Value.bool false))
  apply Stage.step (Is _) [false, false, false, false, false, false, false, false, false, false, false, true, false, false, false, false, false, false, true] (Is.keeps _) (by kernel_rfl)
  · intro w1 h1
    simp only [List.nil_append, List.cons_append, Given]
    rintro _ rfl
    rintro _ rfl
    go_wp2_with fail
    exact Post.isv (Ext.refl _) rfl rfl rfl
  -- 20: Op.move t37
  apply Stage.step (Is _) [false, false, false, false, false, false, false, false, false, false, false, false, false, false, false, false, false, false, false, true] (Is.keeps _) (by kernel_rfl)
  · intro w1 h1
    simp only [List.nil_append, List.cons_append, Given]
    rintro _ rfl
    go_wp2_with fail
    exact Post.isv (Ext.refl _) rfl rfl rfl
  -- 21: Op.call { value (Operand.func 27), args := #[const (Value.slice none 0 0), const (1:i64)], argTypes 
  apply Stage.step (Is (.int .i64 1)) [false, false, false, false, false, false, false, false, false, false, false, false, false, false, false, false, false, false, false, false, true] (Is.keeps _) (by kernel_rfl)
  · intro w1 h1
    simp only [List.nil_append, List.cons_append, Given]
    rintro _ rfl
    go_wp2_with fail
    refine (chain_Next (Lst.nil _) j4).mono ?_
    rintro e w2 ⟨rfl, hx4⟩
    go_wp2_with fail
    exact Post.isv hx4 rfl rfl rfl
  -- 22: Op.binOp BinOp.eql 3 t39 (const (1:i64)) 3   [guarded: some (20, true)]
  apply Stage.step (Is _) [false, false, false, false, false, false, false, false, false, false, false, false, false, false, false, false, false, false, false, false, true, true] (Is.keeps _) (by kernel_rfl)
  · intro w1 h1
    simp only [List.nil_append, List.cons_append, Given]
    rintro _ rfl
    rintro _ rfl
    go_wp2_with fail
    exact Post.isv (Ext.refl _) rfl rfl rfl
  -- 23: Op.pick t38 t40 (const (Value.bool false))
  apply Stage.step (Is _) [false, false, false, false, false, false, false, false, false, false, false, false, false, false, false, false, false, false, false, false, true, false, true] (Is.keeps _) (by kernel_rfl)
  · intro w1 h1
    simp only [List.nil_append, List.cons_append, Given]
    rintro _ rfl
    rintro _ rfl
    go_wp2_with fail
    exact Post.isv (Ext.refl _) rfl rfl rfl
  -- 24: Op.move t41
  apply Stage.step (Is _) [false, false, false, false, false, false, false, false, false, false, false, false, false, false, false, false, false, false, false, false, false, false, false, true] (Is.keeps _) (by kernel_rfl)
  · intro w1 h1
    simp only [List.nil_append, List.cons_append, Given]
    rintro _ rfl
    go_wp2_with fail
    exact Post.isv (Ext.refl _) rfl rfl rfl
  -- 25: Op.move t1   [guarded: some (24, true)]
  apply Stage.step (Is _) [false, false, false, false, false, false, false, false, false, false, false, false, false, false, false, false, false, false, false, false, false, false, false, false, true] (Is.keeps _) (by kernel_rfl)
  · intro w1 h1
    simp only [List.nil_append, List.cons_append, Given]
    rintro _ rfl
    go_wp2_with fail
    exact Post.isv (Ext.refl _) rfl rfl rfl
  -- 26: Op.call { value (Operand.func 27), args := #[t43, const (2:i64)], argTypes := #[24, 3] }   [guarded:
  apply Stage.step (Is (.int .i64 2)) [false, false, false, false, false, false, false, false, false, false, false, false, false, false, false, false, false, false, false, false, false, false, false, false, true, true] (Is.keeps _) (by kernel_rfl)
  · intro w1 h1
    simp only [List.nil_append, List.cons_append, Given]
    rintro _ rfl
    rintro _ rfl
    go_wp2_with fail
    refine (chain_Next (lw.ext tg_rep h1) j5).mono ?_
    rintro e w2 ⟨rfl, hx4⟩
    go_wp2_with fail
    exact Post.isv hx4 rfl rfl rfl
  -- 27: Op.binOp BinOp.eql 3 t44 (const (2:i64)) 3   [guarded: some (24, true)]
  apply Stage.step (Is _) [false, false, false, false, false, false, false, false, false, false, false, false, false, false, false, false, false, false, false, false, false, false, false, false, true, false, true] (Is.keeps _) (by kernel_rfl)
  · intro w1 h1
    simp only [List.nil_append, List.cons_append, Given]
    rintro _ rfl
    rintro _ rfl
    go_wp2_with fail
    exact Post.isv (Ext.refl _) rfl rfl rfl
  -- 28: Op.pick t42 t45 (const (Value.bool false))
  apply Stage.step (Is _) [false, false, false, false, false, false, false, false, false, false, false, false, false, false, false, false, false, false, false, false, false, false, false, false, true, false, false, true] (Is.keeps _) (by kernel_rfl)
  · intro w1 h1
    simp only [List.nil_append, List.cons_append, Given]
    rintro _ rfl
    rintro _ rfl
    go_wp2_with fail
    exact Post.isv (Ext.refl _) rfl rfl rfl
  -- 29: Op.move t46
  apply Stage.step (Is _) [false, false, false, false, false, false, false, false, false, false, false, false, false, false, false, false, false, false, false, false, false, false, false, false, false, false, false, false, true] (Is.keeps _) (by kernel_rfl)
  · intro w1 h1
    simp only [List.nil_append, List.cons_append, Given]
    rintro _ rfl
    go_wp2_with fail
    exact Post.isv (Ext.refl _) rfl rfl rfl
  -- 30: Op.move t1   [guarded: some (29, true)]
  apply Stage.step (Is _) [false, false, false, false, false, false, false, false, false, false, false, false, false, false, false, false, false, false, false, false, false, false, false, false, false, false, false, false, false, true] (Is.keeps _) (by kernel_rfl)
  · intro w1 h1
    simp only [List.nil_append, List.cons_append, Given]
    rintro _ rfl
    go_wp2_with fail
    exact Post.isv (Ext.refl _) rfl rfl rfl
  -- 31: Op.move t1   [guarded: some (29, true)]
  apply Stage.step (Is _) [false, false, false, false, false, false, false, false, false, false, false, false, false, false, false, false, false, false, false, false, false, false, false, false, false, false, false, false, false, true] (Is.keeps _) (by kernel_rfl)
  · intro w1 h1
    simp only [List.nil_append, List.cons_append, Given]
    rintro _ rfl
    go_wp2_with fail
    exact Post.isv (Ext.refl _) rfl rfl rfl
  -- 32: Op.call { value (Operand.func 30), args := #[t48, const (3:i64), t49, const (5:i64)], argTypes := #[
  apply Stage.step (Is (.int .i64 (-1))) [false, false, false, false, false, false, false, false, false, false, false, false, false, false, false, false, false, false, false, false, false, false, false, false, false, false, false, false, false, true, true, true] (Is.keeps _) (by kernel_rfl)
  · intro w1 h1
    simp only [List.nil_append, List.cons_append, Given]
    rintro _ rfl
    rintro _ rfl
    rintro _ rfl
    go_wp2_with fail
    refine (chain_Compare (lw.ext tg_rep h1) (lw.ext tg_rep h1) j6).mono ?_
    rintro e w2 ⟨rfl, hx4⟩
    go_wp2_with fail
    exact Post.isv hx4 rfl rfl rfl
  -- 33: Op.binOp BinOp.eql 3 t50 (const (Value.int IntKind.i64 (-1))) 3   [guarded: some (29, true)]
  apply Stage.step (Is _) [false, false, false, false, false, false, false, false, false, false, false, false, false, false, false, false, false, false, false, false, false, false, false, false, false, false, false, false, false, true, false, false, true] (Is.keeps _) (by kernel_rfl)
  · intro w1 h1
    simp only [List.nil_append, List.cons_append, Given]
    rintro _ rfl
    rintro _ rfl
    go_wp2_with fail
    exact Post.isv (Ext.refl _) rfl rfl rfl
  -- 34: Op.pick t47 t51 (const (Value.bool false))
  apply Stage.step (Is _) [false, false, false, false, false, false, false, false, false, false, false, false, false, false, false, false, false, false, false, false, false, false, false, false, false, false, false, false, false, true, false, false, false, true] (Is.keeps _) (by kernel_rfl)
  · intro w1 h1
    simp only [List.nil_append, List.cons_append, Given]
    rintro _ rfl
    rintro _ rfl
    go_wp2_with fail
    exact Post.isv (Ext.refl _) rfl rfl rfl
  -- 35: Op.move t52
  apply Stage.step (Is _) [false, false, false, false, false, false, false, false, false, false, false, false, false, false, false, false, false, false, false, false, false, false, false, false, false, false, false, false, false, false, false, false, false, false, true] (Is.keeps _) (by kernel_rfl)
  · intro w1 h1
    simp only [List.nil_append, List.cons_append, Given]
    rintro _ rfl
    go_wp2_with fail
    exact Post.isv (Ext.refl _) rfl rfl rfl
  -- 36: Op.move t1   [guarded: some (35, true)]
  apply Stage.step (Is _) [false, false, false, false, false, false, false, false, false, false, false, false, false, false, false, false, false, false, false, false, false, false, false, false, false, false, false, false, false, false, false, false, false, false, false, true] (Is.keeps _) (by kernel_rfl)
  · intro w1 h1
    simp only [List.nil_append, List.cons_append, Given]
    rintro _ rfl
    go_wp2_with fail
    exact Post.isv (Ext.refl _) rfl rfl rfl
  -- 37: Op.call { value (Operand.func 36), args := #[t54, const (1:i64)], argTypes := #[24, 3] }   [guarded:
  apply Stage.step (Is (.int .i64 1)) [false, false, false, false, false, false, false, false, false, false, false, false, false, false, false, false, false, false, false, false, false, false, false, false, false, false, false, false, false, false, false, false, false, false, false, true, true] (Is.keeps _) (by kernel_rfl)
  · intro w1 h1
    simp only [List.nil_append, List.cons_append, Given]
    rintro _ rfl
    rintro _ rfl
    go_wp2_with fail
    refine (chain_Of (lw.ext tg_rep h1) j7).mono ?_
    rintro e w2 ⟨rfl, hx4⟩
    go_wp2_with fail
    exact Post.isv hx4 rfl rfl rfl
  -- 38: Op.binOp BinOp.eql 3 t55 (const (1:i64)) 3   [guarded: some (35, true)]
  apply Stage.step (Is _) [false, false, false, false, false, false, false, false, false, false, false, false, false, false, false, false, false, false, false, false, false, false, false, false, false, false, false, false, false, false, false, false, false, false, false, true, false, true] (Is.keeps _) (by kernel_rfl)
  · intro w1 h1
    simp only [List.nil_append, List.cons_append, Given]
    rintro _ rfl
    rintro _ rfl
    go_wp2_with fail
    exact Post.isv (Ext.refl _) rfl rfl rfl
  -- 39: Op.pick t53 t56 (const (Value.bool false))
  apply Stage.step (Is _) [false, false, false, false, false, false, false, false, false, false, false, false, false, false, false, false, false, false, false, false, false, false, false, false, false, false, false, false, false, false, false, false, false, false, false, true, false, false, true] (Is.keeps _) (by kernel_rfl)
  · intro w1 h1
    simp only [List.nil_append, List.cons_append, Given]
    rintro _ rfl
    rintro _ rfl
    go_wp2_with fail
    exact Post.isv (Ext.refl _) rfl rfl rfl
  -- 40: Op.assign t57
  apply Stage.step (Is _) [false, false, false, false, false, false, false, false, false, false, false, false, false, false, false, false, false, false, false, false, false, false, false, false, false, false, false, false, false, false, false, false, false, false, false, false, false, false, false, true] (Is.keeps _) (by kernel_rfl)
  · intro w1 h1
    simp only [List.nil_append, List.cons_append, Given]
    rintro _ rfl
    go_wp2_with fail
    exact Post.isv (Ext.refl _) rfl rfl rfl
  apply Stage.nil
  intro w1 h1
  simp only [List.nil_append, List.cons_append]
  refine Fin.is_ ?_
  refine Fin.is_ ?_
  refine Fin.is_ ?_
  refine Fin.is_ ?_
  refine Fin.is_ ?_
  refine Fin.is_ ?_
  refine Fin.is_ ?_
  refine Fin.is_ ?_
  refine Fin.is_ ?_
  refine Fin.is_ ?_
  refine Fin.is_ ?_
  refine Fin.is_ ?_
  refine Fin.is_ ?_
  refine Fin.is_ ?_
  refine Fin.is_ ?_
  refine Fin.is_ ?_
  refine Fin.is_ ?_
  refine Fin.is_ ?_
  refine Fin.is_ ?_
  refine Fin.is_ ?_
  refine Fin.is_ ?_
  refine Fin.is_ ?_
  refine Fin.is_ ?_
  refine Fin.is_ ?_
  refine Fin.is_ ?_
  refine Fin.is_ ?_
  refine Fin.is_ ?_
  refine Fin.is_ ?_
  refine Fin.is_ ?_
  refine Fin.is_ ?_
  refine Fin.is_ ?_
  refine Fin.is_ ?_
  refine Fin.is_ ?_
  refine Fin.is_ ?_
  refine Fin.is_ ?_
  refine Fin.is_ ?_
  refine Fin.is_ ?_
  refine Fin.is_ ?_
  refine Fin.is_ ?_
  refine Fin.is_ ?_
  refine Fin.is_ ?_
  refine Fin.nil_ ?_
  go_simp
  go_wp2_with fail
  go_ret
  exact ⟨rfl, hx03.trans h1⟩
end Go.Proofs.Ytkoknleopmlhcaa
