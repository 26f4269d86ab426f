/-
  The walk of one statement of chapter 4.
-/
import Derived.Test.YtcchlkialgjamaaFrameLaws
import Derived.Test.YtcchlkialgjamaaSameEn
namespace Go.Proofs.Ytcchlkialgjamaa
open Go.RowKit
set_option linter.unusedVariables false
set_option linter.unusedSimpArgs false
set_option linter.unnecessarySimpa false
set_option maxRecDepth 100000

/-- one entry in a block of its own -/
theorem lst_one {w : World} {t s : Int} {A : Option Addr} {n c : Nat} {l : List UInt8} (h : Sl w A n c l) (e : TypeId) : Lst 3 enR (w.alloc (.cells #[.int .i64 t, .int .i64 s, .slice A n c] e)) (some ⟨w.heap.size, 0, none⟩) 1 1 [⟨t, s, l⟩] := by
  refine ⟨rfl, Nat.le_refl _, by simp [maxLen], [[.int .i64 t, .int .i64 s, .slice A n c]], .cons ⟨A, n, c, rfl, h.ext (Ext.alloc _ _)⟩ .nil, by simp, fun _ => ⟨_, rfl, fun j u hu => ?_⟩⟩
  have hadd : (⟨w.heap.size, 0, none⟩ : Addr).add j = ⟨w.heap.size, j, none⟩ := by unfold Addr.add; split <;> simp_all
  rw [hadd, cell_of_row _ _ j _ e (0, 0) (heap_alloc_new w _)]
  simpa using hu
def LstT (xs : List En) : Ty := fun v w => ∃ A n c, v = .slice A n c ∧ Lst 3 enR w A n c xs
theorem LstT.keeps (xs : List En) : Keeps Ext (LstT xs) := fun _ _ _ hx ⟨A, n, c, e, h⟩ => ⟨A, n, c, e, h.ext en_rep hx⟩
theorem sameEn_self (xs : List En) : sameEn xs xs = true := by unfold sameEn; simp

set_option maxHeartbeats 2000000 in
theorem law_FrameTells (tg sq : Int) (A : Option Addr) (n c : Nat) (l : List UInt8) (B : Option Addr) (nb cb : Nat) (b : List UInt8) (at_ m : Int) (w : World) (hsl : Sl w A n c l) (htg : tg ≤ 9223372036854775807) (hsq : sq ≤ 9223372036854775807) (hb : Sl w B nb cb b) (ha0 : -9223372036854775808 ≤ at_) (ha1 : at_ ≤ 9223372036854775807) (hm0 : -9223372036854775808 ≤ m) (hm1 : m ≤ 9223372036854775807) :
    Calls Try.prog 3 #[enV tg sq A n c, .slice B nb cb, .int .i64 at_, .int .i64 m] w fun e w' => e = .returned (.bool true) ∧ Ext w w' := by
  have h63 := hsl.n63
  have h63b := hb.n63
  clear ha0 ha1 hm0 hm1
  by_cases t1 : 500 < nb
  · skip
    go_enter Try.func3, Try.ntmps3
    go_wp2_with fail
    refine (law4_known _).mono ?_
    rintro e w2 ⟨rfl, hx1⟩
    go_wp2_with fail
    go_ret
    exact ⟨rfl, (Ext.alloc w _).trans hx1⟩
  by_cases t2 : 200 < n
  · skip
    go_enter Try.func3, Try.ntmps3
    go_wp2_with fail
    refine (law4_known _).mono ?_
    rintro e w2 ⟨rfl, hx1⟩
    go_wp2_with fail
    go_ret
    exact ⟨rfl, (Ext.alloc w _).trans hx1⟩
  obtain ⟨r, hr⟩ : ∃ q, rightN tg sq n = q := ⟨_, rfl⟩
  obtain ⟨F, hF⟩ : ∃ q, layL tg sq n l = q := ⟨_, rfl⟩
  obtain ⟨⟨T, S, D, nx, er⟩, hT⟩ : ∃ q, tkA b at_ = q := ⟨_, rfl⟩
  obtain ⟨sz, hsz⟩ : ∃ q, sizeI m = q := ⟨_, rfl⟩
  obtain ⟨ev, hev⟩ : ∃ q : Int, (if r = true then (0 : Int) else 1) = q := ⟨_, rfl⟩
  have HR := Lib.hid hr
  have HF := Lib.hid hF
  have HT := Lib.hid hT
  have HSZ := Lib.hid hsz
  have HEV := Lib.hid hev
  obtain ⟨X, hX⟩ : ∃ q : List En, [⟨T, S, D⟩] = q := ⟨_, rfl⟩
  have HX := Lib.hid hX
  have HXX := Lib.hid (sameEn_self X)
  clear hr hF hT hsz hev hX
  go_enter Try.func3, Try.ntmps3
  go_wp2_with fail
  refine (frame_Lay (hsl.ext (Ext.alloc _ _)) htg hsq HR HF).mono ?_
  rintro e w1 ⟨A1, n1, c1, rfl, hb1, hx1⟩
  rw [HEV.out]
  have ec0 : w1.cell? ⟨w.heap.size, 0, none⟩ = some (.int .i64 tg) := hx1.cell (cell_newF w _ _ 0)
  have ec1 : w1.cell? ⟨w.heap.size, 1, none⟩ = some (.int .i64 sq) := hx1.cell (cell_newF w _ _ 1)
  have ec2 : w1.cell? ⟨w.heap.size, 2, none⟩ = some (.slice A n c) := hx1.cell (cell_newF w _ _ 2)
  have hx := (Ext.alloc w (.cells #[.int .i64 tg, .int .i64 sq, .slice A n c] 24)).trans hx1
  clear hx1
  go_wp2_with fail
  refine (ref_Lay (hsl.ext hx) HR HF).mono ?_
  rintro e w2 ⟨A2, n2, c2, rfl, hb2, hx2⟩
  rw [HEV.out]
  replace ec0 := hx2.cell ec0
  replace ec1 := hx2.cell ec1
  replace ec2 := hx2.cell ec2
  replace hb1 := hb1.ext hx2
  replace hx := hx.trans hx2
  clear hx2
  go_wp2_with fail
  refine (frame_Take (hb.ext hx) (by omega) HT).mono ?_
  rintro e w3 ⟨A3, n3, c3, rfl, hb3, hx3⟩
  replace ec0 := hx3.cell ec0
  replace ec1 := hx3.cell ec1
  replace ec2 := hx3.cell ec2
  replace hb1 := hb1.ext hx3
  replace hb2 := hb2.ext hx3
  replace hx := hx.trans hx3
  clear hx3
  have z3 := World.block_lt_of_cell? _ _ ec0
  go_wp2_with fail
  refine (ref_TakeFrame (hb.ext (hx.trans (Ext.alloc _ _))) (by omega) HT).mono ?_
  rintro e w4 ⟨A4, n4, c4, rfl, hb4, hx4⟩
  replace ec0 := hx4.cell ((Ext.alloc _ _).cell ec0)
  have d0 : w4.cell? ⟨w3.heap.size, 0, none⟩ = some (.int .i64 T) := hx4.cell (cell_newF w3 _ _ 0)
  replace ec1 := hx4.cell ((Ext.alloc _ _).cell ec1)
  have d1 : w4.cell? ⟨w3.heap.size, 1, none⟩ = some (.int .i64 S) := hx4.cell (cell_newF w3 _ _ 1)
  replace ec2 := hx4.cell ((Ext.alloc _ _).cell ec2)
  have d2 : w4.cell? ⟨w3.heap.size, 2, none⟩ = some (.slice A3 n3 c3) := hx4.cell (cell_newF w3 _ _ 2)
  have hx34 := (Ext.alloc w3 (.cells #[.int .i64 T, .int .i64 S, .slice A3 n3 c3] 24)).trans hx4
  replace hb1 := hb1.ext hx34
  replace hb2 := hb2.ext hx34
  replace hb3 := hb3.ext hx34
  replace hx := hx.trans hx34
  clear hx34 hx4 z3
  have z4 := World.block_lt_of_cell? _ _ ec0
  have z4' := World.block_lt_of_cell? _ _ d0
  go_wp2_with fail
  obtain ⟨W, hW⟩ : ∃ W, W = w4.alloc (.cells #[.int .i64 T, .int .i64 S, .slice A4 n4 c4] 24) := ⟨_, rfl⟩
  have hxW : Ext w4 W := by rw [hW]; exact Ext.alloc _ _
  replace ec0 := hxW.cell ec0
  replace d0 := hxW.cell d0
  have p0 : W.cell? ⟨w4.heap.size, 0, none⟩ = some (.int .i64 T) := by rw [hW]; exact cell_newF w4 _ _ 0
  replace ec1 := hxW.cell ec1
  replace d1 := hxW.cell d1
  have p1 : W.cell? ⟨w4.heap.size, 1, none⟩ = some (.int .i64 S) := by rw [hW]; exact cell_newF w4 _ _ 1
  replace ec2 := hxW.cell ec2
  replace d2 := hxW.cell d2
  have p2 : W.cell? ⟨w4.heap.size, 2, none⟩ = some (.slice A4 n4 c4) := by rw [hW]; exact cell_newF w4 _ _ 2
  rw [← hW]
  replace hb1 := hb1.ext hxW
  replace hb2 := hb2.ext hxW
  replace hb3 := hb3.ext hxW
  replace hb4 := hb4.ext hxW
  replace hx := hx.trans hxW
  clear hW hxW z4 z4'
  refine wp_region_typed Ext.steady rfl 97 rfl (by kernel_rfl) ?_
  -- 0: Op.move t10
  apply Stage.step (Is _) [] (Is.keeps _) (by kernel_rfl)
  · intro w1 h1
    simp only [Given]
    go_wp2_with fail
    exact Post.isv (Ext.refl _) rfl rfl rfl
  -- 1: Op.move t12
  apply Stage.step (Is _) [] (Is.keeps _) (by kernel_rfl)
  · intro w1 h1
    simp only [Given]
    go_wp2_with fail
    exact Post.isv (Ext.refl _) rfl rfl rfl
  -- 2: Op.binOp BinOp.eql 26 t53 t54 26
  apply Stage.step (Is _) [true, true] (Is.keeps _) (by kernel_rfl)
  · intro w1 h1
    simp only [List.nil_append, List.cons_append, Given]
    rintro _ rfl
    rintro _ rfl
    go_wp2_with fail
    exact Post.isv (Ext.refl _) rfl rfl rfl
  -- 3: Op.move t55
  apply Stage.step (Is _) [false, false, true] (Is.keeps _) (by kernel_rfl)
  · intro w1 h1
    simp only [List.nil_append, List.cons_append, Given]
    rintro _ rfl
    go_wp2_with fail
    exact Post.isv (Ext.refl _) rfl rfl rfl
  -- 4: Op.move t9   [guarded: some (3, true)]
  apply Stage.step (Is _) [false, false, false, true] (Is.keeps _) (by kernel_rfl)
  · intro w1 h1
    simp only [List.nil_append, List.cons_append, Given]
    rintro _ rfl
    go_wp2_with fail
    exact Post.isv (Ext.refl _) rfl rfl rfl
  -- 5: Op.convert 22 9 t57   [guarded: some (3, true)]
  apply Stage.step (Is (.string ⟨F.toArray⟩)) [false, false, false, true, true] (Is.keeps _) (by kernel_rfl)
  · intro w1 h1
    simp only [List.nil_append, List.cons_append, Given]
    rintro _ rfl
    rintro _ rfl
    have ht := run_text_u8 (hb1.ext h1).sl
    go_wp2_with fail
    exact Post.isv (Ext.refl _) rfl rfl rfl
  -- 6: Op.move t11   [guarded: some (3, true)]
  apply Stage.step (Is _) [false, false, false, true] (Is.keeps _) (by kernel_rfl)
  · intro w1 h1
    simp only [List.nil_append, List.cons_append, Given]
    rintro _ rfl
    go_wp2_with fail
    exact Post.isv (Ext.refl _) rfl rfl rfl
  -- 7: Op.convert 22 9 t59   [guarded: some (3, true)]
  apply Stage.step (Is (.string ⟨F.toArray⟩)) [false, false, false, true, false, false, true] (Is.keeps _) (by kernel_rfl)
  · intro w1 h1
    simp only [List.nil_append, List.cons_append, Given]
    rintro _ rfl
    rintro _ rfl
    have ht := run_text_u8 (hb2.ext h1).sl
    go_wp2_with fail
    exact Post.isv (Ext.refl _) rfl rfl rfl
  -- 8: Op.binOp BinOp.eql 9 t58 t60 9   [guarded: some (3, true)]
  apply Stage.step (Is _) [false, false, false, true, false, true, false, true] (Is.keeps _) (by kernel_rfl)
  · intro w1 h1
    simp only [List.nil_append, List.cons_append, Given]
    rintro _ rfl
    rintro _ rfl
    rintro _ rfl
    go_wp2_with fail
    exact Post.isv (Ext.refl _) rfl rfl rfl
  -- 9: Op.pick t56 t61 (const (Value.bool false))
  apply Stage.step (Is _) [false, false, false, true, false, false, false, false, true] (Is.keeps _) (by kernel_rfl)
  · intro w1 h1
    simp only [List.nil_append, List.cons_append, Given]
    rintro _ rfl
    rintro _ rfl
    go_wp2_with fail
    exact Post.isv (Ext.refl _) rfl rfl rfl
  -- 10: Op.move t62
  apply Stage.step (Is _) [false, false, false, false, false, false, false, false, false, true] (Is.keeps _) (by kernel_rfl)
  · intro w1 h1
    simp only [List.nil_append, List.cons_append, Given]
    rintro _ rfl
    go_wp2_with fail
    exact Post.isv (Ext.refl _) rfl rfl rfl
  -- 11: Op.move t15   [guarded: some (10, true)]
  apply Stage.step (Is _) [false, false, false, false, false, false, false, false, false, false, true] (Is.keeps _) (by kernel_rfl)
  · intro w1 h1
    simp only [List.nil_append, List.cons_append, Given]
    rintro _ rfl
    go_wp2_with fail
    exact Post.isv (Ext.refl _) rfl rfl rfl
  -- 12: Op.move t18   [guarded: some (10, true)]
  apply Stage.step (Is _) [false, false, false, false, false, false, false, false, false, false, true] (Is.keeps _) (by kernel_rfl)
  · intro w1 h1
    simp only [List.nil_append, List.cons_append, Given]
    rintro _ rfl
    go_wp2_with fail
    exact Post.isv (Ext.refl _) rfl rfl rfl
  -- 13: Op.binOp BinOp.eql 26 t64 t65 26   [guarded: some (10, true)]
  apply Stage.step (Is _) [false, false, false, false, false, false, false, false, false, false, true, true, true] (Is.keeps _) (by kernel_rfl)
  · intro w1 h1
    simp only [List.nil_append, List.cons_append, Given]
    rintro _ rfl
    rintro _ rfl
    rintro _ rfl
    go_wp2_with fail
    exact Post.isv (Ext.refl _) rfl rfl rfl
  -- 14: Op.pick t63 t66 (const (Value.bool false))
  apply Stage.step (Is _) [false, false, false, false, false, false, false, false, false, false, true, false, false, true] (Is.keeps _) (by kernel_rfl)
  · intro w1 h1
    simp only [List.nil_append, List.cons_append, Given]
    rintro _ rfl
    rintro _ rfl
    go_wp2_with fail
    exact Post.isv (Ext.refl _) rfl rfl rfl
  -- 15: Op.move t67
  apply Stage.step (Is _) [false, false, false, false, false, false, false, false, false, false, false, false, false, false, true] (Is.keeps _) (by kernel_rfl)
  · intro w1 h1
    simp only [List.nil_append, List.cons_append, Given]
    rintro _ rfl
    go_wp2_with fail
    exact Post.isv (Ext.refl _) rfl rfl rfl
  -- 16: Op.move t14   [guarded: some (15, true)]
  apply Stage.step (Is _) [false, false, false, false, false, false, false, false, false, false, false, false, false, false, false, true] (Is.keeps _) (by kernel_rfl)
  · intro w1 h1
    simp only [List.nil_append, List.cons_append, Given]
    rintro _ rfl
    go_wp2_with fail
    exact Post.isv (Ext.refl _) rfl rfl rfl
  -- 17: Op.move t17   [guarded: some (15, true)]
  apply Stage.step (Is _) [false, false, false, false, false, false, false, false, false, false, false, false, false, false, false, true] (Is.keeps _) (by kernel_rfl)
  · intro w1 h1
    simp only [List.nil_append, List.cons_append, Given]
    rintro _ rfl
    go_wp2_with fail
    exact Post.isv (Ext.refl _) rfl rfl rfl
  -- 18: Op.binOp BinOp.eql 3 t69 t70 3   [guarded: some (15, true)]
  apply Stage.step (Is _) [false, false, false, false, false, false, false, false, false, false, false, false, false, false, false, true, true, true] (Is.keeps _) (by kernel_rfl)
  · intro w1 h1
    simp only [List.nil_append, List.cons_append, Given]
    rintro _ rfl
    rintro _ rfl
    rintro _ rfl
    go_wp2_with fail
    exact Post.isv (Ext.refl _) rfl rfl rfl
  -- 19: Op.pick t68 t71 (const (Value.bool false))
  apply Stage.step (Is _) [false, false, false, false, false, false, false, false, false, false, false, false, false, false, false, true, false, false, true] (Is.keeps _) (by kernel_rfl)
  · intro w1 h1
    simp only [List.nil_append, List.cons_append, Given]
    rintro _ rfl
    rintro _ rfl
    go_wp2_with fail
    exact Post.isv (Ext.refl _) rfl rfl rfl
  -- 20: Op.move t72
  apply Stage.step (Is _) [false, false, false, false, false, false, false, false, false, false, false, false, false, false, false, false, false, false, false, true] (Is.keeps _) (by kernel_rfl)
  · intro w1 h1
    simp only [List.nil_append, List.cons_append, Given]
    rintro _ rfl
    go_wp2_with fail
    exact Post.isv (Ext.refl _) rfl rfl rfl
  -- 21: Op.load 24 t13   [guarded: some (20, true)]
  apply Stage.step (Is (enV T S A3 n3 c3)) [false, false, false, false, false, false, false, false, false, false, false, false, false, false, false, false, false, false, false, false, true] (Is.keeps _) (by kernel_rfl)
  · intro w1 h1
    simp only [List.nil_append, List.cons_append, Given]
    rintro _ rfl
    have q0 := h1.cell d0
    have q1 := h1.cell d1
    have q2 := h1.cell d2
    go_wp2_with fail
    exact Post.isv (Ext.refl _) rfl rfl rfl
  -- 22: Op.buildSlice 32 1 #[(0, t74)]   [guarded: some (20, true)]
  apply Stage.step (LstT X) [false, false, false, false, false, false, false, false, false, false, false, false, false, false, false, false, false, false, false, false, true, true] (LstT.keeps _) (by kernel_rfl)
  · intro w1 h1
    simp only [List.nil_append, List.cons_append, Given]
    rintro _ rfl
    rintro _ rfl
    go_wp2_with fail
    exact ⟨rfl, rfl, Ext.alloc _ _, _, _, _, rfl, by rw [← HX.out]; exact lst_one (hb3.ext h1).sl _⟩
  -- 23: Op.load 24 t16   [guarded: some (20, true)]
  apply Stage.step (Is (enV T S A4 n4 c4)) [false, false, false, false, false, false, false, false, false, false, false, false, false, false, false, false, false, false, false, false, true] (Is.keeps _) (by kernel_rfl)
  · intro w1 h1
    simp only [List.nil_append, List.cons_append, Given]
    rintro _ rfl
    have q0 := h1.cell p0
    have q1 := h1.cell p1
    have q2 := h1.cell p2
    go_wp2_with fail
    exact Post.isv (Ext.refl _) rfl rfl rfl
  -- 24: Op.buildSlice 32 1 #[(0, t76)]   [guarded: some (20, true)]
  apply Stage.step (LstT X) [false, false, false, false, false, false, false, false, false, false, false, false, false, false, false, false, false, false, false, false, true, false, false, true] (LstT.keeps _) (by kernel_rfl)
  · intro w1 h1
    simp only [List.nil_append, List.cons_append, Given]
    rintro _ rfl
    rintro _ rfl
    go_wp2_with fail
    exact ⟨rfl, rfl, Ext.alloc _ _, _, _, _, rfl, by rw [← HX.out]; exact lst_one (hb4.ext h1).sl _⟩
  -- 25: Op.call { value (Operand.func 19), args := #[t75, t77], argTypes := #[32, 32] }   [guarded: some (20
  apply Stage.step (Is (.bool true)) [false, false, false, false, false, false, false, false, false, false, false, false, false, false, false, false, false, false, false, false, true, false, true, false, true] (Is.keeps _) (by kernel_rfl)
  · intro w1 h1
    simp only [List.nil_append, List.cons_append, Given]
    rintro _ rfl
    rintro _ ⟨A5, n5, c5, rfl, h5⟩
    rintro _ ⟨A6, n6, c6, rfl, h6⟩
    go_wp2_with fail
    refine (ref_SameEntries h5 h6).mono ?_
    rintro e w2 ⟨rfl, hx9⟩
    rw [HXX.out]
    go_wp2_with fail
    exact Post.isv hx9 rfl rfl rfl
  -- 26: Op.pick t73 t78 (const (Value.bool false))
  apply Stage.step (Is _) [false, false, false, false, false, false, false, false, false, false, false, false, false, false, false, false, false, false, false, false, true, false, false, false, false, true] (Is.keeps _) (by kernel_rfl)
  · intro w1 h1
    simp only [List.nil_append, List.cons_append, Given]
    rintro _ rfl
    rintro _ rfl
    go_wp2_with fail
    exact Post.isv (Ext.refl _) rfl rfl rfl
  -- 27: Op.move t79
  apply Stage.step (Is _) [false, false, false, false, false, false, false, false, false, false, false, false, false, false, false, false, false, false, false, false, false, false, false, false, false, false, true] (Is.keeps _) (by kernel_rfl)
  · intro w1 h1
    simp only [List.nil_append, List.cons_append, Given]
    rintro _ rfl
    go_wp2_with fail
    exact Post.isv (Ext.refl _) rfl rfl rfl
  -- 28: Op.load 24 t4   [guarded: some (27, true)]
  apply Stage.step (Is (enV tg sq A n c)) [false, false, false, false, false, false, false, false, false, false, false, false, false, false, false, false, false, false, false, false, false, false, false, false, false, false, false, true] (Is.keeps _) (by kernel_rfl)
  · intro w1 h1
    simp only [List.nil_append, List.cons_append, Given]
    rintro _ rfl
    have q0 := h1.cell ec0
    have q1 := h1.cell ec1
    have q2 := h1.cell ec2
    go_wp2_with fail
    exact Post.isv (Ext.refl _) rfl rfl rfl
  -- 29: Op.call { value (Operand.func 20), args := #[t81], argTypes := #[24] }   [guarded: some (27, true)]
  apply Stage.step (Is (.bool r)) [false, false, false, false, false, false, false, false, false, false, false, false, false, false, false, false, false, false, false, false, false, false, false, false, false, false, false, true, true] (Is.keeps _) (by kernel_rfl)
  · intro w1 h1
    simp only [List.nil_append, List.cons_append, Given]
    rintro _ rfl
    rintro _ rfl
    go_wp2_with fail
    refine (frame_Right tg sq A n c _ h63.1 htg hsq).mono ?_
    rintro e w2 ⟨rfl, hx9⟩
    rw [HR.out]
    go_wp2_with fail
    exact Post.isv hx9 rfl rfl rfl
  -- 30: Op.load 24 t4   [guarded: some (27, true)]
  apply Stage.step (Is (enV tg sq A n c)) [false, false, false, false, false, false, false, false, false, false, false, false, false, false, false, false, false, false, false, false, false, false, false, false, false, false, false, true] (Is.keeps _) (by kernel_rfl)
  · intro w1 h1
    simp only [List.nil_append, List.cons_append, Given]
    rintro _ rfl
    have q0 := h1.cell ec0
    have q1 := h1.cell ec1
    have q2 := h1.cell ec2
    go_wp2_with fail
    exact Post.isv (Ext.refl _) rfl rfl rfl
  -- 31: Op.call { value (Operand.func 21), args := #[t83], argTypes := #[24] }   [guarded: some (27, true)]
  apply Stage.step (Is (.bool r)) [false, false, false, false, false, false, false, false, false, false, false, false, false, false, false, false, false, false, false, false, false, false, false, false, false, false, false, true, false, false, true] (Is.keeps _) (by kernel_rfl)
  · intro w1 h1
    simp only [List.nil_append, List.cons_append, Given]
    rintro _ rfl
    rintro _ rfl
    go_wp2_with fail
    refine (ref_RightEntry tg sq A n c _ h63.1).mono ?_
    rintro e w2 ⟨rfl, hx9⟩
    rw [HR.out]
    go_wp2_with fail
    exact Post.isv hx9 rfl rfl rfl
  -- 32: Op.binOp BinOp.eql 4 t82 t84 4   [guarded: some (27, true)]
  apply Stage.step (Is _) [false, false, false, false, false, false, false, false, false, false, false, false, false, false, false, false, false, false, false, false, false, false, false, false, false, false, false, true, false, true, false, true] (Is.keeps _) (by kernel_rfl)
  · intro w1 h1
    simp only [List.nil_append, List.cons_append, Given]
    rintro _ rfl
    rintro _ rfl
    rintro _ rfl
    go_wp2_with fail
    exact Post.isv (Ext.refl _) rfl rfl rfl
  -- 33: Op.pick t80 t85 (const (Value.bool false))
  apply Stage.step (Is _) [false, false, false, false, false, false, false, false, false, false, false, false, false, false, false, false, false, false, false, false, false, false, false, false, false, false, false, true, false, false, false, false, true] (Is.keeps _) (by kernel_rfl)
  · intro w1 h1
    simp only [List.nil_append, List.cons_append, Given]
    rintro _ rfl
    rintro _ rfl
    go_wp2_with fail
    exact Post.isv (Ext.refl _) rfl rfl rfl
  -- 34: Op.move t86
  apply Stage.step (Is _) [false, false, false, false, false, false, false, false, false, false, false, false, false, false, false, false, false, false, false, false, false, false, false, false, false, false, false, false, false, false, false, false, false, true] (Is.keeps _) (by kernel_rfl)
  · intro w1 h1
    simp only [List.nil_append, List.cons_append, Given]
    rintro _ rfl
    go_wp2_with fail
    exact Post.isv (Ext.refl _) rfl rfl rfl
  -- 35: Op.move t3   [guarded: some (34, true)]
  apply Stage.step (Is _) [false, false, false, false, false, false, false, false, false, false, false, false, false, false, false, false, false, false, false, false, false, false, false, false, false, false, false, false, false, false, false, false, false, false, true] (Is.keeps _) (by kernel_rfl)
  · intro w1 h1
    simp only [List.nil_append, List.cons_append, Given]
    rintro _ rfl
    go_wp2_with fail
    exact Post.isv (Ext.refl _) rfl rfl rfl
  -- 36: Op.call { value (Operand.func 22), args := #[t88], argTypes := #[3] }   [guarded: some (34, true)]
  apply Stage.step (Is (.int .i64 sz)) [false, false, false, false, false, false, false, false, false, false, false, false, false, false, false, false, false, false, false, false, false, false, false, false, false, false, false, false, false, false, false, false, false, false, true, true] (Is.keeps _) (by kernel_rfl)
  · intro w1 h1
    simp only [List.nil_append, List.cons_append, Given]
    rintro _ rfl
    rintro _ rfl
    go_wp2_with fail
    refine (frame_Size m _).mono ?_
    rintro e w2 ⟨rfl, rfl⟩
    rw [HSZ.out]
    go_wp2_with fail
    exact Post.isv (Ext.refl _) rfl rfl rfl
  -- 37: Op.move t3   [guarded: some (34, true)]
  apply Stage.step (Is _) [false, false, false, false, false, false, false, false, false, false, false, false, false, false, false, false, false, false, false, false, false, false, false, false, false, false, false, false, false, false, false, false, false, false, true] (Is.keeps _) (by kernel_rfl)
  · intro w1 h1
    simp only [List.nil_append, List.cons_append, Given]
    rintro _ rfl
    go_wp2_with fail
    exact Post.isv (Ext.refl _) rfl rfl rfl
  -- 38: Op.call { value (Operand.func 23), args := #[t90], argTypes := #[3] }   [guarded: some (34, true)]
  apply Stage.step (Is (.int .i64 sz)) [false, false, false, false, false, false, false, false, false, false, false, false, false, false, false, false, false, false, false, false, false, false, false, false, false, false, false, false, false, false, false, false, false, false, true, false, false, true] (Is.keeps _) (by kernel_rfl)
  · intro w1 h1
    simp only [List.nil_append, List.cons_append, Given]
    rintro _ rfl
    rintro _ rfl
    go_wp2_with fail
    refine (ref_FrameSize m _).mono ?_
    rintro e w2 ⟨rfl, rfl⟩
    rw [HSZ.out]
    go_wp2_with fail
    exact Post.isv (Ext.refl _) rfl rfl rfl
  -- 39: Op.binOp BinOp.eql 3 t89 t91 3   [guarded: some (34, true)]
  apply Stage.step (Is _) [false, false, false, false, false, false, false, false, false, false, false, false, false, false, false, false, false, false, false, false, false, false, false, false, false, false, false, false, false, false, false, false, false, false, true, false, true, false, true] (Is.keeps _) (by kernel_rfl)
  · intro w1 h1
    simp only [List.nil_append, List.cons_append, Given]
    rintro _ rfl
    rintro _ rfl
    rintro _ rfl
    go_wp2_with fail
    exact Post.isv (Ext.refl _) rfl rfl rfl
  -- 40: Op.pick t87 t92 (const (Value.bool false))
  apply Stage.step (Is _) [false, false, false, false, false, false, false, false, false, false, false, false, false, false, false, false, false, false, false, false, false, false, false, false, false, false, false, false, false, false, false, false, false, false, true, false, false, false, false, true] (Is.keeps _) (by kernel_rfl)
  · intro w1 h1
    simp only [List.nil_append, List.cons_append, Given]
    rintro _ rfl
    rintro _ rfl
    go_wp2_with fail
    exact Post.isv (Ext.refl _) rfl rfl rfl
  -- 41: Op.move t93
  apply Stage.step (Is _) [false, false, false, false, false, false, false, false, false, false, false, false, false, false, false, false, false, false, false, false, false, false, false, false, false, false, false, false, false, false, false, false, false, false, false, false, false, false, false, false, true] (Is.keeps _) (by kernel_rfl)
  · intro w1 h1
    simp only [List.nil_append, List.cons_append, Given]
    rintro _ rfl
    go_wp2_with fail
    exact Post.isv (Ext.refl _) rfl rfl rfl
  -- 42: Op.call { value (Operand.func 14), args := #[], argTypes := #[] }   [guarded: some (41, true)]
  apply Stage.step (Is (.bool true)) [false, false, false, false, false, false, false, false, false, false, false, false, false, false, false, false, false, false, false, false, false, false, false, false, false, false, false, false, false, false, false, false, false, false, false, false, false, false, false, false, false, true] (Is.keeps _) (by kernel_rfl)
  · intro w1 h1
    simp only [List.nil_append, List.cons_append, Given]
    rintro _ rfl
    go_wp2_with fail
    refine (law4_known _).mono ?_
    rintro e w2 ⟨rfl, hx9⟩
    go_wp2_with fail
    exact Post.isv hx9 rfl rfl rfl
  -- 43: Op.pick t94 t95 (const (Value.bool false))
  apply Stage.step (Is _) [false, false, false, false, false, false, false, false, false, false, false, false, false, false, false, false, false, false, false, false, false, false, false, false, false, false, false, false, false, false, false, false, false, false, false, false, false, false, false, false, false, true, true] (Is.keeps _) (by kernel_rfl)
  · intro w1 h1
    simp only [List.nil_append, List.cons_append, Given]
    rintro _ rfl
    rintro _ rfl
    go_wp2_with fail
    exact Post.isv (Ext.refl _) rfl rfl rfl
  -- 44: Op.assign t96
  apply Stage.step (Is _) [false, false, false, false, false, false, false, false, false, false, false, false, false, false, false, false, false, false, false, false, false, false, false, false, false, false, false, false, false, false, false, false, false, false, false, false, false, false, false, false, false, false, false, true] (Is.keeps _) (by kernel_rfl)
  · intro w1 h1
    simp only [List.nil_append, List.cons_append, Given]
    rintro _ rfl
    go_wp2_with fail
    exact Post.isv (Ext.refl _) rfl rfl rfl
  apply Stage.nil
  intro w1 h1
  simp only [List.nil_append, List.cons_append]
  refine Fin.is_ ?_
  refine Fin.is_ ?_
  refine Fin.is_ ?_
  refine Fin.is_ ?_
  refine Fin.is_ ?_
  refine Fin.is_ ?_
  refine Fin.is_ ?_
  refine Fin.is_ ?_
  refine Fin.is_ ?_
  refine Fin.is_ ?_
  refine Fin.is_ ?_
  refine Fin.is_ ?_
  refine Fin.is_ ?_
  refine Fin.is_ ?_
  refine Fin.is_ ?_
  refine Fin.is_ ?_
  refine Fin.is_ ?_
  refine Fin.is_ ?_
  refine Fin.is_ ?_
  refine Fin.is_ ?_
  refine Fin.is_ ?_
  refine Fin.is_ ?_
  refine Fin.step_ ?_
  rintro _ ⟨A5, n5, c5, rfl, h5⟩
  refine Fin.is_ ?_
  refine Fin.step_ ?_
  rintro _ ⟨A6, n6, c6, rfl, h6⟩
  refine Fin.is_ ?_
  refine Fin.is_ ?_
  refine Fin.is_ ?_
  refine Fin.is_ ?_
  refine Fin.is_ ?_
  refine Fin.is_ ?_
  refine Fin.is_ ?_
  refine Fin.is_ ?_
  refine Fin.is_ ?_
  refine Fin.is_ ?_
  refine Fin.is_ ?_
  refine Fin.is_ ?_
  refine Fin.is_ ?_
  refine Fin.is_ ?_
  refine Fin.is_ ?_
  refine Fin.is_ ?_
  refine Fin.is_ ?_
  refine Fin.is_ ?_
  refine Fin.is_ ?_
  refine Fin.is_ ?_
  refine Fin.nil_ ?_
  go_simp
  go_wp2_with fail
  go_ret
  exact ⟨rfl, hx.trans h1⟩
end Go.Proofs.Ytcchlkialgjamaa
