/-
  The walk of one statement of chapter 1.
-/
import Derived.Test.YtajifneohomibaaBitsLaws
namespace Go.Proofs.Ytajifneohomibaa
open Go.RowKit
set_option linter.unusedVariables false
set_option maxRecDepth 100000

set_option maxHeartbeats 4000000 in
theorem law_BitsTells (A : Option Addr) (n cp : Nat) (l : List UInt8) (a wd x k m : Int) (s : ByteArray) (w : World) (hs : Sl w A n cp l) (ha0 : -9223372036854775808 ≤ a) (ha1 : a ≤ 9223372036854775807) (hwd0 : -9223372036854775808 ≤ wd) (hwd1 : wd ≤ 9223372036854775807) (hx0 : 0 ≤ x) (hx1 : x ≤ 18446744073709551615) (hk0 : -9223372036854775808 ≤ k) (hk1 : k ≤ 9223372036854775807) (hmm0 : -9223372036854775808 ≤ m) (hmm1 : m ≤ 9223372036854775807) (hss : s.size ≤ maxLen) :
    Calls Try.prog 15 #[.slice A n cp, .int .i64 a, .int .i64 wd, .int .u64 x, .int .i64 k, .int .i64 m, .string s] w fun e w' => e = .returned (.bool true) ∧ Ext w w' := by
  have h63 := hs.n63
  unfold maxLen at hss
  obtain ⟨x, rfl⟩ := Int.eq_ofNat_of_zero_le hx0
  have hx : x < 18446744073709551616 := by omega
  clear hx0 hx1
  have HA := Lib.hid (And.intro ha0 ha1)
  have HK := Lib.hid (And.intro hk0 hk1)
  clear ha0 ha1 hk0 hk1 hwd0 hwd1 hmm0 hmm1
  by_cases hn : 300 < n
  · go_enter Try.func15, Try.ntmps15
    go_wp2_with fail
    refine (law1_known _).mono ?_
    rintro e w1 ⟨rfl, hx1⟩
    go_wp2_with fail
    go_ret
    exact ⟨rfl, hx1⟩
  by_cases hm : 300 < s.size
  · go_enter Try.func15, Try.ntmps15
    go_wp2_with fail
    refine (law1_known _).mono ?_
    rintro e w1 ⟨rfl, hx1⟩
    go_wp2_with fail
    go_ret
    exact ⟨rfl, hx1⟩
  obtain ⟨q1, hq1⟩ : ∃ q, getN l a wd = q := ⟨_, rfl⟩
  obtain ⟨b1, hb1⟩ : ∃ q, getOk l a wd = q := ⟨_, rfl⟩
  obtain ⟨L1, hL1⟩ : ∃ L, putI l x wd = L := ⟨_, rfl⟩
  obtain ⟨ga, hga⟩ : ∃ q, gvA l a = q := ⟨_, rfl⟩
  obtain ⟨gb, hgb⟩ : ∃ q, gvB l a = q := ⟨_, rfl⟩
  obtain ⟨gc, hgc⟩ : ∃ q, gvC l a = q := ⟨_, rfl⟩
  obtain ⟨ta, hta⟩ : ∃ q, (⟨(gtA l a m).toArray⟩ : ByteArray) = q := ⟨_, rfl⟩
  obtain ⟨tb, htb⟩ : ∃ q, gtB l a m = q := ⟨_, rfl⟩
  obtain ⟨tc, htc⟩ : ∃ q, gtC l a m = q := ⟨_, rfl⟩
  obtain ⟨L2, hL2⟩ : ∃ L, l ++ varl k.toNat = L := ⟨_, rfl⟩
  obtain ⟨L3, hL3⟩ : ∃ L, l ++ varl s.size ++ s.data.toList = L := ⟨_, rfl⟩
  obtain ⟨q2, hq2⟩ : ∃ q, maskN k = q := ⟨_, rfl⟩
  obtain ⟨q3, hq3⟩ : ∃ q, cutN x a wd = q := ⟨_, rfl⟩
  obtain ⟨q4, hq4⟩ : ∃ q, logI k = q := ⟨_, rfl⟩
  obtain ⟨q5, hq5⟩ : ∃ q, zigN k = q := ⟨_, rfl⟩
  obtain ⟨q6, hq6⟩ : ∃ q, zagI x = q := ⟨_, rfl⟩
  have HG := Lib.hid (And.intro hq1 hb1)
  have HL1 := Lib.hid hL1
  have HV := Lib.hid (And.intro hga (And.intro hgb hgc))
  have HT := Lib.hid (And.intro hta (And.intro htb htc))
  have HL2 := Lib.hid hL2
  have HL3 := Lib.hid hL3
  have H2 := Lib.hid hq2
  have H3 := Lib.hid hq3
  have H4 := Lib.hid hq4
  have H5 := Lib.hid hq5
  have H6 := Lib.hid hq6
  clear hq1 hb1 hL1 hga hgb hgc hta htb htc hL2 hL3 hq2 hq3 hq4 hq5 hq6
  have CG1 := bits_Get A n cp l a wd w hs HA.out.1 HA.out.2
  have CG2 := ref_Get A n cp l a wd w hs HA.out.1 HA.out.2
  rw [HG.out.1, HG.out.2] at CG1 CG2
  have CT1 := fun (w' : World) (hw : Ext w w') => bits_GetText A n cp l a m w' (hs.ext hw) (by omega)
  have CT2 := fun (w' : World) (hw : Ext w w') => ref_GetText A n cp l a m w' (hs.ext hw) (by omega)
  simp only [HT.out.1, HT.out.2.1, HT.out.2.2] at CT1 CT2
  have GG1 := Lib.hid CG1
  have GG2 := Lib.hid CG2
  have GT1 := Lib.hid CT1
  have GT2 := Lib.hid CT2
  clear CG1 CG2 CT1 CT2
  go_enter Try.func15, Try.ntmps15
  go_wp2_with fail
  refine (GG1.out).mono ?_
  rintro e w1 ⟨rfl, rfl⟩
  go_wp2_with fail
  refine (GG2.out).mono ?_
  rintro e w1 ⟨rfl, rfl⟩
  go_wp2_with fail
  refine wp_region_typed Ext.steady rfl 195 rfl (by kernel_rfl) ?_
  -- 0: Op.move t15
  apply Stage.step (Is _) [] (Is.keeps _) (by kernel_rfl)
  · intro w1 h1
    simp only [Given]
    go_wp2_with fail
    exact Post.isv (Ext.refl _) rfl rfl rfl
  -- 1: Op.move t17
  apply Stage.step (Is _) [] (Is.keeps _) (by kernel_rfl)
  · intro w1 h1
    simp only [Given]
    go_wp2_with fail
    exact Post.isv (Ext.refl _) rfl rfl rfl
  -- 2: Op.binOp BinOp.neq 40 t54 t55 40
  apply Stage.step (Is _) [true, true] (Is.keeps _) (by kernel_rfl)
  · intro w1 h1
    simp only [List.nil_append, List.cons_append, Given]
    rintro _ rfl
    rintro _ rfl
    go_wp2_with fail
    exact Post.isv (Ext.refl _) rfl rfl rfl
  -- 3: Op.move t56
  apply Stage.step (Is _) [false, false, true] (Is.keeps _) (by kernel_rfl)
  · intro w1 h1
    simp only [List.nil_append, List.cons_append, Given]
    rintro _ rfl
    go_wp2_with fail
    exact Post.isv (Ext.refl _) rfl rfl rfl
  -- 4: Op.move t16   [guarded: some (3, false)]
  apply Stage.step (Is _) [false, false, false, true] (Is.keeps _) (by kernel_rfl)
  · intro w1 h1
    simp only [List.nil_append, List.cons_append, Given]
    rintro _ rfl
    go_wp2_with fail
    exact Post.isv (Ext.refl _) rfl rfl rfl
  -- 5: Op.move t18   [guarded: some (3, false)]
  apply Stage.step (Is _) [false, false, false, true] (Is.keeps _) (by kernel_rfl)
  · intro w1 h1
    simp only [List.nil_append, List.cons_append, Given]
    rintro _ rfl
    go_wp2_with fail
    exact Post.isv (Ext.refl _) rfl rfl rfl
  -- 6: Op.binOp BinOp.neq 4 t58 t59 4   [guarded: some (3, false)]
  apply Stage.step (Is _) [false, false, false, true, true, true] (Is.keeps _) (by kernel_rfl)
  · intro w1 h1
    simp only [List.nil_append, List.cons_append, Given]
    rintro _ rfl
    rintro _ rfl
    rintro _ rfl
    go_wp2_with fail
    exact Post.isv (Ext.refl _) rfl rfl rfl
  -- 7: Op.pick t57 (const (Value.bool true)) t60
  apply Stage.step (Is _) [false, false, false, true, false, false, true] (Is.keeps _) (by kernel_rfl)
  · intro w1 h1
    simp only [List.nil_append, List.cons_append, Given]
    rintro _ rfl
    rintro _ rfl
    go_wp2_with fail
    exact Post.isv (Ext.refl _) rfl rfl rfl
  -- 8: Op.move t61
  apply Stage.step (Is _) [false, false, false, false, false, false, false, true] (Is.keeps _) (by kernel_rfl)
  · intro w1 h1
    simp only [List.nil_append, List.cons_append, Given]
    rintro _ rfl
    go_wp2_with fail
    exact Post.isv (Ext.refl _) rfl rfl rfl
  -- 9: Op.move t0   [guarded: some (8, false)]
  apply Stage.step (Is _) [false, false, false, false, false, false, false, false, true] (Is.keeps _) (by kernel_rfl)
  · intro w1 h1
    simp only [List.nil_append, List.cons_append, Given]
    rintro _ rfl
    go_wp2_with fail
    exact Post.isv (Ext.refl _) rfl rfl rfl
  -- 10: Op.move t3   [guarded: some (8, false)]
  apply Stage.step (Is _) [false, false, false, false, false, false, false, false, true] (Is.keeps _) (by kernel_rfl)
  · intro w1 h1
    simp only [List.nil_append, List.cons_append, Given]
    rintro _ rfl
    go_wp2_with fail
    exact Post.isv (Ext.refl _) rfl rfl rfl
  -- 11: Op.move t2   [guarded: some (8, false)]
  apply Stage.step (Is _) [false, false, false, false, false, false, false, false, true] (Is.keeps _) (by kernel_rfl)
  · intro w1 h1
    simp only [List.nil_append, List.cons_append, Given]
    rintro _ rfl
    go_wp2_with fail
    exact Post.isv (Ext.refl _) rfl rfl rfl
  -- 12: Op.call { value (Operand.func 29), args := #[t63, t64, t65], argTypes := #[22, 40, 3] }   [guarded: 
  apply Stage.step (SlT L1) [false, false, false, false, false, false, false, false, true, true, true, true] (SlT.keeps _) (by kernel_rfl)
  · intro w1 h1
    simp only [List.nil_append, List.cons_append, Given]
    rintro _ rfl
    rintro _ rfl
    rintro _ rfl
    rintro _ rfl
    go_wp2_with fail
    refine (bits_Put _ _ _ _ _ _ _ (hs.ext h1) (by omega) hx).mono ?_
    rintro e w3 ⟨A3, n3, c3, rfl, hb3, hx3⟩
    rw [HL1.out] at hb3
    go_wp2_with fail
    exact ⟨rfl, rfl, hx3, _, _, _, rfl, hb3.sl⟩
  -- 13: Op.convert 22 9 t66   [guarded: some (8, false)]
  apply Stage.step (Is (.string ⟨L1.toArray⟩)) [false, false, false, false, false, false, false, false, true, false, false, false, true] (Is.keeps _) (by kernel_rfl)
  · intro w1 h1
    simp only [List.nil_append, List.cons_append, Given]
    rintro _ rfl
    rintro _ ⟨A3, n3, c3, rfl, h3⟩
    have ht := run_text_u8 h3
    go_wp2_with fail
    exact Post.isv (Ext.refl _) rfl rfl rfl
  -- 14: Op.move t0   [guarded: some (8, false)]
  apply Stage.step (Is _) [false, false, false, false, false, false, false, false, true] (Is.keeps _) (by kernel_rfl)
  · intro w1 h1
    simp only [List.nil_append, List.cons_append, Given]
    rintro _ rfl
    go_wp2_with fail
    exact Post.isv (Ext.refl _) rfl rfl rfl
  -- 15: Op.move t3   [guarded: some (8, false)]
  apply Stage.step (Is _) [false, false, false, false, false, false, false, false, true] (Is.keeps _) (by kernel_rfl)
  · intro w1 h1
    simp only [List.nil_append, List.cons_append, Given]
    rintro _ rfl
    go_wp2_with fail
    exact Post.isv (Ext.refl _) rfl rfl rfl
  -- 16: Op.move t2   [guarded: some (8, false)]
  apply Stage.step (Is _) [false, false, false, false, false, false, false, false, true] (Is.keeps _) (by kernel_rfl)
  · intro w1 h1
    simp only [List.nil_append, List.cons_append, Given]
    rintro _ rfl
    go_wp2_with fail
    exact Post.isv (Ext.refl _) rfl rfl rfl
  -- 17: Op.call { value (Operand.func 42), args := #[t68, t69, t70], argTypes := #[22, 40, 3] }   [guarded: 
  apply Stage.step (SlT L1) [false, false, false, false, false, false, false, false, true, false, false, false, false, false, true, true, true] (SlT.keeps _) (by kernel_rfl)
  · intro w1 h1
    simp only [List.nil_append, List.cons_append, Given]
    rintro _ rfl
    rintro _ rfl
    rintro _ rfl
    rintro _ rfl
    go_wp2_with fail
    refine (ref_Put _ _ _ _ _ _ _ (hs.ext h1) (by omega) hx).mono ?_
    rintro e w3 ⟨A3, n3, c3, rfl, hb3, hx3⟩
    rw [HL1.out] at hb3
    go_wp2_with fail
    exact ⟨rfl, rfl, hx3, _, _, _, rfl, hb3.sl⟩
  -- 18: Op.convert 22 9 t71   [guarded: some (8, false)]
  apply Stage.step (Is (.string ⟨L1.toArray⟩)) [false, false, false, false, false, false, false, false, true, false, false, false, false, false, false, false, false, true] (Is.keeps _) (by kernel_rfl)
  · intro w1 h1
    simp only [List.nil_append, List.cons_append, Given]
    rintro _ rfl
    rintro _ ⟨A4, n4, c4, rfl, h4⟩
    have ht := run_text_u8 h4
    go_wp2_with fail
    exact Post.isv (Ext.refl _) rfl rfl rfl
  -- 19: Op.binOp BinOp.neq 9 t67 t72 9   [guarded: some (8, false)]
  apply Stage.step (Is _) [false, false, false, false, false, false, false, false, true, false, false, false, false, true, false, false, false, false, true] (Is.keeps _) (by kernel_rfl)
  · intro w1 h1
    simp only [List.nil_append, List.cons_append, Given]
    rintro _ rfl
    rintro _ rfl
    rintro _ rfl
    go_wp2_with fail
    exact Post.isv (Ext.refl _) rfl rfl rfl
  -- 20: Op.pick t62 (const (Value.bool true)) t73
  apply Stage.step (Is _) [false, false, false, false, false, false, false, false, true, false, false, false, false, false, false, false, false, false, false, true] (Is.keeps _) (by kernel_rfl)
  · intro w1 h1
    simp only [List.nil_append, List.cons_append, Given]
    rintro _ rfl
    rintro _ rfl
    go_wp2_with fail
    exact Post.isv (Ext.refl _) rfl rfl rfl
  apply Stage.nil
  intro w1 h1
  simp only [List.nil_append, List.cons_append]
  refine Fin.is_ ?_
  refine Fin.is_ ?_
  refine Fin.is_ ?_
  refine Fin.is_ ?_
  refine Fin.is_ ?_
  refine Fin.is_ ?_
  refine Fin.is_ ?_
  refine Fin.is_ ?_
  refine Fin.is_ ?_
  refine Fin.is_ ?_
  refine Fin.is_ ?_
  refine Fin.is_ ?_
  refine Fin.step_ ?_
  rintro _ ⟨A3, n3, c3, rfl, h3⟩
  refine Fin.is_ ?_
  refine Fin.is_ ?_
  refine Fin.is_ ?_
  refine Fin.is_ ?_
  refine Fin.step_ ?_
  rintro _ ⟨A4, n4, c4, rfl, h4⟩
  refine Fin.is_ ?_
  refine Fin.is_ ?_
  refine Fin.is_ ?_
  refine Fin.nil_ ?_
  go_simp
  have hx2 := h1
  clear h1
  go_wp2_with fail
  refine (bits_GetVar' (hs.ext hx2) (by omega) HV).mono ?_
  rintro e w2 ⟨rfl, rfl⟩
  go_wp2_with fail
  refine (ref_GetVar' (hs.ext hx2) (by omega) HV).mono ?_
  rintro e w2 ⟨rfl, rfl⟩
  go_wp2_with fail
  refine (GT1.out _ hx2).mono ?_
  rintro e w2 ⟨rfl, rfl⟩
  go_wp2_with fail
  refine (GT2.out _ hx2).mono ?_
  rintro e w2 ⟨rfl, rfl⟩
  go_wp2_with fail
  refine wp_region_typed Ext.steady rfl 195 rfl (by kernel_rfl) ?_
  -- 0: Op.move t0
  apply Stage.step (Is _) [] (Is.keeps _) (by kernel_rfl)
  · intro w1 h1
    simp only [Given]
    go_wp2_with fail
    exact Post.isv (Ext.refl _) rfl rfl rfl
  -- 1: Op.move t4
  apply Stage.step (Is _) [] (Is.keeps _) (by kernel_rfl)
  · intro w1 h1
    simp only [Given]
    go_wp2_with fail
    exact Post.isv (Ext.refl _) rfl rfl rfl
  -- 2: Op.call { value (Operand.func 27), args := #[t133, t134], argTypes := #[22, 3] }
  apply Stage.step (SlT L2) [true, true] (SlT.keeps _) (by kernel_rfl)
  · intro w1 h1
    simp only [List.nil_append, List.cons_append, Given]
    rintro _ rfl
    rintro _ rfl
    go_wp2_with fail
    refine (bits_Var _ _ _ _ _ _ (hs.ext (hx2.trans h1)) (by omega) HK.out.2).mono ?_
    rintro e w3 ⟨A3, n3, c3, rfl, hb3, hx3⟩
    rw [HL2.out] at hb3
    go_wp2_with fail
    exact ⟨rfl, rfl, hx3, _, _, _, rfl, hb3.sl⟩
  -- 3: Op.convert 22 9 t135
  apply Stage.step (Is (.string ⟨L2.toArray⟩)) [false, false, true] (Is.keeps _) (by kernel_rfl)
  · intro w1 h1
    simp only [List.nil_append, List.cons_append, Given]
    rintro _ ⟨A5, n5, c5, rfl, h5⟩
    have ht := run_text_u8 h5
    go_wp2_with fail
    exact Post.isv (Ext.refl _) rfl rfl rfl
  -- 4: Op.move t0
  apply Stage.step (Is _) [] (Is.keeps _) (by kernel_rfl)
  · intro w1 h1
    simp only [Given]
    go_wp2_with fail
    exact Post.isv (Ext.refl _) rfl rfl rfl
  -- 5: Op.move t4
  apply Stage.step (Is _) [] (Is.keeps _) (by kernel_rfl)
  · intro w1 h1
    simp only [Given]
    go_wp2_with fail
    exact Post.isv (Ext.refl _) rfl rfl rfl
  -- 6: Op.call { value (Operand.func 36), args := #[t137, t138], argTypes := #[22, 3] }
  apply Stage.step (SlT L2) [false, false, false, false, true, true] (SlT.keeps _) (by kernel_rfl)
  · intro w1 h1
    simp only [List.nil_append, List.cons_append, Given]
    rintro _ rfl
    rintro _ rfl
    go_wp2_with fail
    refine (ref_Var _ _ _ _ _ _ (hs.ext (hx2.trans h1)) (by omega) HK.out.2).mono ?_
    rintro e w3 ⟨A3, n3, c3, rfl, hb3, hx3⟩
    rw [HL2.out] at hb3
    go_wp2_with fail
    exact ⟨rfl, rfl, hx3, _, _, _, rfl, hb3.sl⟩
  -- 7: Op.convert 22 9 t139
  apply Stage.step (Is (.string ⟨L2.toArray⟩)) [false, false, false, false, false, false, true] (Is.keeps _) (by kernel_rfl)
  · intro w1 h1
    simp only [List.nil_append, List.cons_append, Given]
    rintro _ ⟨A6, n6, c6, rfl, h6⟩
    have ht := run_text_u8 h6
    go_wp2_with fail
    exact Post.isv (Ext.refl _) rfl rfl rfl
  -- 8: Op.binOp BinOp.eql 9 t136 t140 9
  apply Stage.step (Is _) [false, false, false, true, false, false, false, true] (Is.keeps _) (by kernel_rfl)
  · intro w1 h1
    simp only [List.nil_append, List.cons_append, Given]
    rintro _ rfl
    rintro _ rfl
    go_wp2_with fail
    exact Post.isv (Ext.refl _) rfl rfl rfl
  -- 9: Op.move t141
  apply Stage.step (Is _) [false, false, false, false, false, false, false, false, true] (Is.keeps _) (by kernel_rfl)
  · intro w1 h1
    simp only [List.nil_append, List.cons_append, Given]
    rintro _ rfl
    go_wp2_with fail
    exact Post.isv (Ext.refl _) rfl rfl rfl
  -- 10: Op.move t0   [guarded: some (9, true)]
  apply Stage.step (Is _) [false, false, false, false, false, false, false, false, false, true] (Is.keeps _) (by kernel_rfl)
  · intro w1 h1
    simp only [List.nil_append, List.cons_append, Given]
    rintro _ rfl
    go_wp2_with fail
    exact Post.isv (Ext.refl _) rfl rfl rfl
  -- 11: Op.move t6   [guarded: some (9, true)]
  apply Stage.step (Is _) [false, false, false, false, false, false, false, false, false, true] (Is.keeps _) (by kernel_rfl)
  · intro w1 h1
    simp only [List.nil_append, List.cons_append, Given]
    rintro _ rfl
    go_wp2_with fail
    exact Post.isv (Ext.refl _) rfl rfl rfl
  -- 12: Op.call { value (Operand.func 30), args := #[t143, t144], argTypes := #[22, 9] }   [guarded: some (9
  apply Stage.step (SlT L3) [false, false, false, false, false, false, false, false, false, true, true, true] (SlT.keeps _) (by kernel_rfl)
  · intro w1 h1
    simp only [List.nil_append, List.cons_append, Given]
    rintro _ rfl
    rintro _ rfl
    rintro _ rfl
    go_wp2_with fail
    refine (bits_Text _ _ _ _ _ _ (hs.ext (hx2.trans h1)) (by omega) (by omega)).mono ?_
    rintro e w3 ⟨A3, n3, c3, rfl, hb3, hx3⟩
    rw [HL3.out] at hb3
    go_wp2_with fail
    exact ⟨rfl, rfl, hx3, _, _, _, rfl, hb3.sl⟩
  -- 13: Op.convert 22 9 t145   [guarded: some (9, true)]
  apply Stage.step (Is (.string ⟨L3.toArray⟩)) [false, false, false, false, false, false, false, false, false, true, false, false, true] (Is.keeps _) (by kernel_rfl)
  · intro w1 h1
    simp only [List.nil_append, List.cons_append, Given]
    rintro _ rfl
    rintro _ ⟨A7, n7, c7, rfl, h7⟩
    have ht := run_text_u8 h7
    go_wp2_with fail
    exact Post.isv (Ext.refl _) rfl rfl rfl
  -- 14: Op.move t0   [guarded: some (9, true)]
  apply Stage.step (Is _) [false, false, false, false, false, false, false, false, false, true] (Is.keeps _) (by kernel_rfl)
  · intro w1 h1
    simp only [List.nil_append, List.cons_append, Given]
    rintro _ rfl
    go_wp2_with fail
    exact Post.isv (Ext.refl _) rfl rfl rfl
  -- 15: Op.move t6   [guarded: some (9, true)]
  apply Stage.step (Is _) [false, false, false, false, false, false, false, false, false, true] (Is.keeps _) (by kernel_rfl)
  · intro w1 h1
    simp only [List.nil_append, List.cons_append, Given]
    rintro _ rfl
    go_wp2_with fail
    exact Post.isv (Ext.refl _) rfl rfl rfl
  -- 16: Op.call { value (Operand.func 45), args := #[t147, t148], argTypes := #[22, 9] }   [guarded: some (9
  apply Stage.step (SlT L3) [false, false, false, false, false, false, false, false, false, true, false, false, false, false, true, true] (SlT.keeps _) (by kernel_rfl)
  · intro w1 h1
    simp only [List.nil_append, List.cons_append, Given]
    rintro _ rfl
    rintro _ rfl
    rintro _ rfl
    go_wp2_with fail
    refine (ref_Text _ _ _ _ _ _ (hs.ext (hx2.trans h1)) (by omega) (by omega)).mono ?_
    rintro e w3 ⟨A3, n3, c3, rfl, hb3, hx3⟩
    rw [HL3.out] at hb3
    go_wp2_with fail
    exact ⟨rfl, rfl, hx3, _, _, _, rfl, hb3.sl⟩
  -- 17: Op.convert 22 9 t149   [guarded: some (9, true)]
  apply Stage.step (Is (.string ⟨L3.toArray⟩)) [false, false, false, false, false, false, false, false, false, true, false, false, false, false, false, false, true] (Is.keeps _) (by kernel_rfl)
  · intro w1 h1
    simp only [List.nil_append, List.cons_append, Given]
    rintro _ rfl
    rintro _ ⟨A8, n8, c8, rfl, h8⟩
    have ht := run_text_u8 h8
    go_wp2_with fail
    exact Post.isv (Ext.refl _) rfl rfl rfl
  -- 18: Op.binOp BinOp.eql 9 t146 t150 9   [guarded: some (9, true)]
  apply Stage.step (Is _) [false, false, false, false, false, false, false, false, false, true, false, false, false, true, false, false, false, true] (Is.keeps _) (by kernel_rfl)
  · intro w1 h1
    simp only [List.nil_append, List.cons_append, Given]
    rintro _ rfl
    rintro _ rfl
    rintro _ rfl
    go_wp2_with fail
    exact Post.isv (Ext.refl _) rfl rfl rfl
  -- 19: Op.pick t142 t151 (const (Value.bool false))
  apply Stage.step (Is _) [false, false, false, false, false, false, false, false, false, true, false, false, false, false, false, false, false, false, true] (Is.keeps _) (by kernel_rfl)
  · intro w1 h1
    simp only [List.nil_append, List.cons_append, Given]
    rintro _ rfl
    rintro _ rfl
    go_wp2_with fail
    exact Post.isv (Ext.refl _) rfl rfl rfl
  -- 20: Op.move t152
  apply Stage.step (Is _) [false, false, false, false, false, false, false, false, false, false, false, false, false, false, false, false, false, false, false, true] (Is.keeps _) (by kernel_rfl)
  · intro w1 h1
    simp only [List.nil_append, List.cons_append, Given]
    rintro _ rfl
    go_wp2_with fail
    exact Post.isv (Ext.refl _) rfl rfl rfl
  -- 21: Op.move t4   [guarded: some (20, true)]
  apply Stage.step (Is _) [false, false, false, false, false, false, false, false, false, false, false, false, false, false, false, false, false, false, false, false, true] (Is.keeps _) (by kernel_rfl)
  · intro w1 h1
    simp only [List.nil_append, List.cons_append, Given]
    rintro _ rfl
    go_wp2_with fail
    exact Post.isv (Ext.refl _) rfl rfl rfl
  -- 22: Op.call { value (Operand.func 34), args := #[t154], argTypes := #[3] }   [guarded: some (20, true)]
  apply Stage.step (Is (.int .u64 q2)) [false, false, false, false, false, false, false, false, false, false, false, false, false, false, false, false, false, false, false, false, true, true] (Is.keeps _) (by kernel_rfl)
  · intro w1 h1
    simp only [List.nil_append, List.cons_append, Given]
    rintro _ rfl
    rintro _ rfl
    go_wp2_with fail
    refine (bits_Mask' H2).mono ?_
    rintro e w2 ⟨rfl, rfl⟩
    go_wp2_with fail
    exact Post.isv (Ext.refl _) rfl rfl rfl
  -- 23: Op.move t4   [guarded: some (20, true)]
  apply Stage.step (Is _) [false, false, false, false, false, false, false, false, false, false, false, false, false, false, false, false, false, false, false, false, true] (Is.keeps _) (by kernel_rfl)
  · intro w1 h1
    simp only [List.nil_append, List.cons_append, Given]
    rintro _ rfl
    go_wp2_with fail
    exact Post.isv (Ext.refl _) rfl rfl rfl
  -- 24: Op.call { value (Operand.func 35), args := #[t156], argTypes := #[3] }   [guarded: some (20, true)]
  apply Stage.step (Is (.int .u64 q2)) [false, false, false, false, false, false, false, false, false, false, false, false, false, false, false, false, false, false, false, false, true, false, false, true] (Is.keeps _) (by kernel_rfl)
  · intro w1 h1
    simp only [List.nil_append, List.cons_append, Given]
    rintro _ rfl
    rintro _ rfl
    go_wp2_with fail
    refine (ref_Mask' H2).mono ?_
    rintro e w2 ⟨rfl, rfl⟩
    go_wp2_with fail
    exact Post.isv (Ext.refl _) rfl rfl rfl
  -- 25: Op.binOp BinOp.eql 40 t155 t157 40   [guarded: some (20, true)]
  apply Stage.step (Is _) [false, false, false, false, false, false, false, false, false, false, false, false, false, false, false, false, false, false, false, false, true, false, true, false, true] (Is.keeps _) (by kernel_rfl)
  · intro w1 h1
    simp only [List.nil_append, List.cons_append, Given]
    rintro _ rfl
    rintro _ rfl
    rintro _ rfl
    go_wp2_with fail
    exact Post.isv (Ext.refl _) rfl rfl rfl
  -- 26: Op.pick t153 t158 (const (Value.bool false))
  apply Stage.step (Is _) [false, false, false, false, false, false, false, false, false, false, false, false, false, false, false, false, false, false, false, false, true, false, false, false, false, true] (Is.keeps _) (by kernel_rfl)
  · intro w1 h1
    simp only [List.nil_append, List.cons_append, Given]
    rintro _ rfl
    rintro _ rfl
    go_wp2_with fail
    exact Post.isv (Ext.refl _) rfl rfl rfl
  -- 27: Op.move t159
  apply Stage.step (Is _) [false, false, false, false, false, false, false, false, false, false, false, false, false, false, false, false, false, false, false, false, false, false, false, false, false, false, true] (Is.keeps _) (by kernel_rfl)
  · intro w1 h1
    simp only [List.nil_append, List.cons_append, Given]
    rintro _ rfl
    go_wp2_with fail
    exact Post.isv (Ext.refl _) rfl rfl rfl
  -- 28: Op.move t3   [guarded: some (27, true)]
  apply Stage.step (Is _) [false, false, false, false, false, false, false, false, false, false, false, false, false, false, false, false, false, false, false, false, false, false, false, false, false, false, false, true] (Is.keeps _) (by kernel_rfl)
  · intro w1 h1
    simp only [List.nil_append, List.cons_append, Given]
    rintro _ rfl
    go_wp2_with fail
    exact Post.isv (Ext.refl _) rfl rfl rfl
  -- 29: Op.move t1   [guarded: some (27, true)]
  apply Stage.step (Is _) [false, false, false, false, false, false, false, false, false, false, false, false, false, false, false, false, false, false, false, false, false, false, false, false, false, false, false, true] (Is.keeps _) (by kernel_rfl)
  · intro w1 h1
    simp only [List.nil_append, List.cons_append, Given]
    rintro _ rfl
    go_wp2_with fail
    exact Post.isv (Ext.refl _) rfl rfl rfl
  -- 30: Op.move t2   [guarded: some (27, true)]
  apply Stage.step (Is _) [false, false, false, false, false, false, false, false, false, false, false, false, false, false, false, false, false, false, false, false, false, false, false, false, false, false, false, true] (Is.keeps _) (by kernel_rfl)
  · intro w1 h1
    simp only [List.nil_append, List.cons_append, Given]
    rintro _ rfl
    go_wp2_with fail
    exact Post.isv (Ext.refl _) rfl rfl rfl
  -- 31: Op.call { value (Operand.func 33), args := #[t161, t162, t163], argTypes := #[40, 3, 3] }   [guarded
  apply Stage.step (Is (.int .u64 q3)) [false, false, false, false, false, false, false, false, false, false, false, false, false, false, false, false, false, false, false, false, false, false, false, false, false, false, false, true, true, true, true] (Is.keeps _) (by kernel_rfl)
  · intro w1 h1
    simp only [List.nil_append, List.cons_append, Given]
    rintro _ rfl
    rintro _ rfl
    rintro _ rfl
    rintro _ rfl
    go_wp2_with fail
    refine (bits_Cut' hx H3).mono ?_
    rintro e w2 ⟨rfl, hx5⟩
    go_wp2_with fail
    exact Post.isv hx5 rfl rfl rfl
  -- 32: Op.move t3   [guarded: some (27, true)]
  apply Stage.step (Is _) [false, false, false, false, false, false, false, false, false, false, false, false, false, false, false, false, false, false, false, false, false, false, false, false, false, false, false, true] (Is.keeps _) (by kernel_rfl)
  · intro w1 h1
    simp only [List.nil_append, List.cons_append, Given]
    rintro _ rfl
    go_wp2_with fail
    exact Post.isv (Ext.refl _) rfl rfl rfl
  -- 33: Op.move t1   [guarded: some (27, true)]
  apply Stage.step (Is _) [false, false, false, false, false, false, false, false, false, false, false, false, false, false, false, false, false, false, false, false, false, false, false, false, false, false, false, true] (Is.keeps _) (by kernel_rfl)
  · intro w1 h1
    simp only [List.nil_append, List.cons_append, Given]
    rintro _ rfl
    go_wp2_with fail
    exact Post.isv (Ext.refl _) rfl rfl rfl
  -- 34: Op.move t2   [guarded: some (27, true)]
  apply Stage.step (Is _) [false, false, false, false, false, false, false, false, false, false, false, false, false, false, false, false, false, false, false, false, false, false, false, false, false, false, false, true] (Is.keeps _) (by kernel_rfl)
  · intro w1 h1
    simp only [List.nil_append, List.cons_append, Given]
    rintro _ rfl
    go_wp2_with fail
    exact Post.isv (Ext.refl _) rfl rfl rfl
  -- 35: Op.call { value (Operand.func 46), args := #[t165, t166, t167], argTypes := #[40, 3, 3] }   [guarded
  apply Stage.step (Is (.int .u64 q3)) [false, false, false, false, false, false, false, false, false, false, false, false, false, false, false, false, false, false, false, false, false, false, false, false, false, false, false, true, false, false, false, false, true, true, true] (Is.keeps _) (by kernel_rfl)
  · intro w1 h1
    simp only [List.nil_append, List.cons_append, Given]
    rintro _ rfl
    rintro _ rfl
    rintro _ rfl
    rintro _ rfl
    go_wp2_with fail
    refine (ref_Cut' hx H3).mono ?_
    rintro e w2 ⟨rfl, rfl⟩
    go_wp2_with fail
    exact Post.isv (Ext.refl _) rfl rfl rfl
  -- 36: Op.binOp BinOp.eql 40 t164 t168 40   [guarded: some (27, true)]
  apply Stage.step (Is _) [false, false, false, false, false, false, false, false, false, false, false, false, false, false, false, false, false, false, false, false, false, false, false, false, false, false, false, true, false, false, false, true, false, false, false, true] (Is.keeps _) (by kernel_rfl)
  · intro w1 h1
    simp only [List.nil_append, List.cons_append, Given]
    rintro _ rfl
    rintro _ rfl
    rintro _ rfl
    go_wp2_with fail
    exact Post.isv (Ext.refl _) rfl rfl rfl
  -- 37: Op.pick t160 t169 (const (Value.bool false))
  apply Stage.step (Is _) [false, false, false, false, false, false, false, false, false, false, false, false, false, false, false, false, false, false, false, false, false, false, false, false, false, false, false, true, false, false, false, false, false, false, false, false, true] (Is.keeps _) (by kernel_rfl)
  · intro w1 h1
    simp only [List.nil_append, List.cons_append, Given]
    rintro _ rfl
    rintro _ rfl
    go_wp2_with fail
    exact Post.isv (Ext.refl _) rfl rfl rfl
  -- 38: Op.move t170
  apply Stage.step (Is _) [false, false, false, false, false, false, false, false, false, false, false, false, false, false, false, false, false, false, false, false, false, false, false, false, false, false, false, false, false, false, false, false, false, false, false, false, false, true] (Is.keeps _) (by kernel_rfl)
  · intro w1 h1
    simp only [List.nil_append, List.cons_append, Given]
    rintro _ rfl
    go_wp2_with fail
    exact Post.isv (Ext.refl _) rfl rfl rfl
  -- 39: Op.move t4   [guarded: some (38, true)]
  apply Stage.step (Is _) [false, false, false, false, false, false, false, false, false, false, false, false, false, false, false, false, false, false, false, false, false, false, false, false, false, false, false, false, false, false, false, false, false, false, false, false, false, false, true] (Is.keeps _) (by kernel_rfl)
  · intro w1 h1
    simp only [List.nil_append, List.cons_append, Given]
    rintro _ rfl
    go_wp2_with fail
    exact Post.isv (Ext.refl _) rfl rfl rfl
  -- 40: Op.call { value (Operand.func 26), args := #[t172], argTypes := #[3] }   [guarded: some (38, true)]
  apply Stage.step (Is (.int .i64 q4)) [false, false, false, false, false, false, false, false, false, false, false, false, false, false, false, false, false, false, false, false, false, false, false, false, false, false, false, false, false, false, false, false, false, false, false, false, false, false, true, true] (Is.keeps _) (by kernel_rfl)
  · intro w1 h1
    simp only [List.nil_append, List.cons_append, Given]
    rintro _ rfl
    rintro _ rfl
    go_wp2_with fail
    refine (bits_Log' HK.out.2 H4).mono ?_
    rintro e w2 ⟨rfl, rfl⟩
    go_wp2_with fail
    exact Post.isv (Ext.refl _) rfl rfl rfl
  -- 41: Op.move t4   [guarded: some (38, true)]
  apply Stage.step (Is _) [false, false, false, false, false, false, false, false, false, false, false, false, false, false, false, false, false, false, false, false, false, false, false, false, false, false, false, false, false, false, false, false, false, false, false, false, false, false, true] (Is.keeps _) (by kernel_rfl)
  · intro w1 h1
    simp only [List.nil_append, List.cons_append, Given]
    rintro _ rfl
    go_wp2_with fail
    exact Post.isv (Ext.refl _) rfl rfl rfl
  -- 42: Op.call { value (Operand.func 37), args := #[t174], argTypes := #[3] }   [guarded: some (38, true)]
  apply Stage.step (Is (.int .i64 q4)) [false, false, false, false, false, false, false, false, false, false, false, false, false, false, false, false, false, false, false, false, false, false, false, false, false, false, false, false, false, false, false, false, false, false, false, false, false, false, true, false, false, true] (Is.keeps _) (by kernel_rfl)
  · intro w1 h1
    simp only [List.nil_append, List.cons_append, Given]
    rintro _ rfl
    rintro _ rfl
    go_wp2_with fail
    refine (ref_Log' HK.out.2 H4).mono ?_
    rintro e w2 ⟨rfl, rfl⟩
    go_wp2_with fail
    exact Post.isv (Ext.refl _) rfl rfl rfl
  -- 43: Op.binOp BinOp.eql 3 t173 t175 3   [guarded: some (38, true)]
  apply Stage.step (Is _) [false, false, false, false, false, false, false, false, false, false, false, false, false, false, false, false, false, false, false, false, false, false, false, false, false, false, false, false, false, false, false, false, false, false, false, false, false, false, true, false, true, false, true] (Is.keeps _) (by kernel_rfl)
  · intro w1 h1
    simp only [List.nil_append, List.cons_append, Given]
    rintro _ rfl
    rintro _ rfl
    rintro _ rfl
    go_wp2_with fail
    exact Post.isv (Ext.refl _) rfl rfl rfl
  -- 44: Op.pick t171 t176 (const (Value.bool false))
  apply Stage.step (Is _) [false, false, false, false, false, false, false, false, false, false, false, false, false, false, false, false, false, false, false, false, false, false, false, false, false, false, false, false, false, false, false, false, false, false, false, false, false, false, true, false, false, false, false, true] (Is.keeps _) (by kernel_rfl)
  · intro w1 h1
    simp only [List.nil_append, List.cons_append, Given]
    rintro _ rfl
    rintro _ rfl
    go_wp2_with fail
    exact Post.isv (Ext.refl _) rfl rfl rfl
  -- 45: Op.move t177
  apply Stage.step (Is _) [false, false, false, false, false, false, false, false, false, false, false, false, false, false, false, false, false, false, false, false, false, false, false, false, false, false, false, false, false, false, false, false, false, false, false, false, false, false, false, false, false, false, false, false, true] (Is.keeps _) (by kernel_rfl)
  · intro w1 h1
    simp only [List.nil_append, List.cons_append, Given]
    rintro _ rfl
    go_wp2_with fail
    exact Post.isv (Ext.refl _) rfl rfl rfl
  -- 46: Op.move t4   [guarded: some (45, true)]
  apply Stage.step (Is _) [false, false, false, false, false, false, false, false, false, false, false, false, false, false, false, false, false, false, false, false, false, false, false, false, false, false, false, false, false, false, false, false, false, false, false, false, false, false, false, false, false, false, false, false, false, true] (Is.keeps _) (by kernel_rfl)
  · intro w1 h1
    simp only [List.nil_append, List.cons_append, Given]
    rintro _ rfl
    go_wp2_with fail
    exact Post.isv (Ext.refl _) rfl rfl rfl
  -- 47: Op.call { value (Operand.func 31), args := #[t179], argTypes := #[3] }   [guarded: some (45, true)]
  apply Stage.step (Is (.int .u64 q5)) [false, false, false, false, false, false, false, false, false, false, false, false, false, false, false, false, false, false, false, false, false, false, false, false, false, false, false, false, false, false, false, false, false, false, false, false, false, false, false, false, false, false, false, false, false, true, true] (Is.keeps _) (by kernel_rfl)
  · intro w1 h1
    simp only [List.nil_append, List.cons_append, Given]
    rintro _ rfl
    rintro _ rfl
    go_wp2_with fail
    refine (bits_Zig' HK.out.1 HK.out.2 H5).mono ?_
    rintro e w2 ⟨rfl, rfl⟩
    go_wp2_with fail
    exact Post.isv (Ext.refl _) rfl rfl rfl
  -- 48: Op.move t4   [guarded: some (45, true)]
  apply Stage.step (Is _) [false, false, false, false, false, false, false, false, false, false, false, false, false, false, false, false, false, false, false, false, false, false, false, false, false, false, false, false, false, false, false, false, false, false, false, false, false, false, false, false, false, false, false, false, false, true] (Is.keeps _) (by kernel_rfl)
  · intro w1 h1
    simp only [List.nil_append, List.cons_append, Given]
    rintro _ rfl
    go_wp2_with fail
    exact Post.isv (Ext.refl _) rfl rfl rfl
  -- 49: Op.call { value (Operand.func 47), args := #[t181], argTypes := #[3] }   [guarded: some (45, true)]
  apply Stage.step (Is (.int .u64 q5)) [false, false, false, false, false, false, false, false, false, false, false, false, false, false, false, false, false, false, false, false, false, false, false, false, false, false, false, false, false, false, false, false, false, false, false, false, false, false, false, false, false, false, false, false, false, true, false, false, true] (Is.keeps _) (by kernel_rfl)
  · intro w1 h1
    simp only [List.nil_append, List.cons_append, Given]
    rintro _ rfl
    rintro _ rfl
    go_wp2_with fail
    refine (ref_Zig' HK.out.1 HK.out.2 H5).mono ?_
    rintro e w2 ⟨rfl, rfl⟩
    go_wp2_with fail
    exact Post.isv (Ext.refl _) rfl rfl rfl
  -- 50: Op.binOp BinOp.eql 40 t180 t182 40   [guarded: some (45, true)]
  apply Stage.step (Is _) [false, false, false, false, false, false, false, false, false, false, false, false, false, false, false, false, false, false, false, false, false, false, false, false, false, false, false, false, false, false, false, false, false, false, false, false, false, false, false, false, false, false, false, false, false, true, false, true, false, true] (Is.keeps _) (by kernel_rfl)
  · intro w1 h1
    simp only [List.nil_append, List.cons_append, Given]
    rintro _ rfl
    rintro _ rfl
    rintro _ rfl
    go_wp2_with fail
    exact Post.isv (Ext.refl _) rfl rfl rfl
  -- 51: Op.pick t178 t183 (const (Value.bool false))
  apply Stage.step (Is _) [false, false, false, false, false, false, false, false, false, false, false, false, false, false, false, false, false, false, false, false, false, false, false, false, false, false, false, false, false, false, false, false, false, false, false, false, false, false, false, false, false, false, false, false, false, true, false, false, false, false, true] (Is.keeps _) (by kernel_rfl)
  · intro w1 h1
    simp only [List.nil_append, List.cons_append, Given]
    rintro _ rfl
    rintro _ rfl
    go_wp2_with fail
    exact Post.isv (Ext.refl _) rfl rfl rfl
  -- 52: Op.move t184
  apply Stage.step (Is _) [false, false, false, false, false, false, false, false, false, false, false, false, false, false, false, false, false, false, false, false, false, false, false, false, false, false, false, false, false, false, false, false, false, false, false, false, false, false, false, false, false, false, false, false, false, false, false, false, false, false, false, true] (Is.keeps _) (by kernel_rfl)
  · intro w1 h1
    simp only [List.nil_append, List.cons_append, Given]
    rintro _ rfl
    go_wp2_with fail
    exact Post.isv (Ext.refl _) rfl rfl rfl
  -- 53: Op.move t3   [guarded: some (52, true)]
  apply Stage.step (Is _) [false, false, false, false, false, false, false, false, false, false, false, false, false, false, false, false, false, false, false, false, false, false, false, false, false, false, false, false, false, false, false, false, false, false, false, false, false, false, false, false, false, false, false, false, false, false, false, false, false, false, false, false, true] (Is.keeps _) (by kernel_rfl)
  · intro w1 h1
    simp only [List.nil_append, List.cons_append, Given]
    rintro _ rfl
    go_wp2_with fail
    exact Post.isv (Ext.refl _) rfl rfl rfl
  -- 54: Op.call { value (Operand.func 32), args := #[t186], argTypes := #[40] }   [guarded: some (52, true)]
  apply Stage.step (Is (.int .i64 q6)) [false, false, false, false, false, false, false, false, false, false, false, false, false, false, false, false, false, false, false, false, false, false, false, false, false, false, false, false, false, false, false, false, false, false, false, false, false, false, false, false, false, false, false, false, false, false, false, false, false, false, false, false, true, true] (Is.keeps _) (by kernel_rfl)
  · intro w1 h1
    simp only [List.nil_append, List.cons_append, Given]
    rintro _ rfl
    rintro _ rfl
    go_wp2_with fail
    refine (bits_Zag' hx H6).mono ?_
    rintro e w2 ⟨rfl, rfl⟩
    go_wp2_with fail
    exact Post.isv (Ext.refl _) rfl rfl rfl
  -- 55: Op.move t3   [guarded: some (52, true)]
  apply Stage.step (Is _) [false, false, false, false, false, false, false, false, false, false, false, false, false, false, false, false, false, false, false, false, false, false, false, false, false, false, false, false, false, false, false, false, false, false, false, false, false, false, false, false, false, false, false, false, false, false, false, false, false, false, false, false, true] (Is.keeps _) (by kernel_rfl)
  · intro w1 h1
    simp only [List.nil_append, List.cons_append, Given]
    rintro _ rfl
    go_wp2_with fail
    exact Post.isv (Ext.refl _) rfl rfl rfl
  -- 56: Op.call { value (Operand.func 48), args := #[t188], argTypes := #[40] }   [guarded: some (52, true)]
  apply Stage.step (Is (.int .i64 q6)) [false, false, false, false, false, false, false, false, false, false, false, false, false, false, false, false, false, false, false, false, false, false, false, false, false, false, false, false, false, false, false, false, false, false, false, false, false, false, false, false, false, false, false, false, false, false, false, false, false, false, false, false, true, false, false, true] (Is.keeps _) (by kernel_rfl)
  · intro w1 h1
    simp only [List.nil_append, List.cons_append, Given]
    rintro _ rfl
    rintro _ rfl
    go_wp2_with fail
    refine (ref_Zag' hx H6).mono ?_
    rintro e w2 ⟨rfl, rfl⟩
    go_wp2_with fail
    exact Post.isv (Ext.refl _) rfl rfl rfl
  -- 57: Op.binOp BinOp.eql 3 t187 t189 3   [guarded: some (52, true)]
  apply Stage.step (Is _) [false, false, false, false, false, false, false, false, false, false, false, false, false, false, false, false, false, false, false, false, false, false, false, false, false, false, false, false, false, false, false, false, false, false, false, false, false, false, false, false, false, false, false, false, false, false, false, false, false, false, false, false, true, false, true, false, true] (Is.keeps _) (by kernel_rfl)
  · intro w1 h1
    simp only [List.nil_append, List.cons_append, Given]
    rintro _ rfl
    rintro _ rfl
    rintro _ rfl
    go_wp2_with fail
    exact Post.isv (Ext.refl _) rfl rfl rfl
  -- 58: Op.pick t185 t190 (const (Value.bool false))
  apply Stage.step (Is _) [false, false, false, false, false, false, false, false, false, false, false, false, false, false, false, false, false, false, false, false, false, false, false, false, false, false, false, false, false, false, false, false, false, false, false, false, false, false, false, false, false, false, false, false, false, false, false, false, false, false, false, false, true, false, false, false, false, true] (Is.keeps _) (by kernel_rfl)
  · intro w1 h1
    simp only [List.nil_append, List.cons_append, Given]
    rintro _ rfl
    rintro _ rfl
    go_wp2_with fail
    exact Post.isv (Ext.refl _) rfl rfl rfl
  -- 59: Op.move t191
  apply Stage.step (Is _) [false, false, false, false, false, false, false, false, false, false, false, false, false, false, false, false, false, false, false, false, false, false, false, false, false, false, false, false, false, false, false, false, false, false, false, false, false, false, false, false, false, false, false, false, false, false, false, false, false, false, false, false, false, false, false, false, false, false, true] (Is.keeps _) (by kernel_rfl)
  · intro w1 h1
    simp only [List.nil_append, List.cons_append, Given]
    rintro _ rfl
    go_wp2_with fail
    exact Post.isv (Ext.refl _) rfl rfl rfl
  -- 60: Op.call { value (Operand.func 28), args := #[], argTypes := #[] }   [guarded: some (59, true)]
  apply Stage.step (Is (.bool true)) [false, false, false, false, false, false, false, false, false, false, false, false, false, false, false, false, false, false, false, false, false, false, false, false, false, false, false, false, false, false, false, false, false, false, false, false, false, false, false, false, false, false, false, false, false, false, false, false, false, false, false, false, false, false, false, false, false, false, false, true] (Is.keeps _) (by kernel_rfl)
  · intro w1 h1
    simp only [List.nil_append, List.cons_append, Given]
    rintro _ rfl
    go_wp2_with fail
    refine (law1_known _).mono ?_
    rintro e w2 ⟨rfl, hx5⟩
    go_wp2_with fail
    exact Post.isv hx5 rfl rfl rfl
  -- 61: Op.pick t192 t193 (const (Value.bool false))
  apply Stage.step (Is _) [false, false, false, false, false, false, false, false, false, false, false, false, false, false, false, false, false, false, false, false, false, false, false, false, false, false, false, false, false, false, false, false, false, false, false, false, false, false, false, false, false, false, false, false, false, false, false, false, false, false, false, false, false, false, false, false, false, false, false, true, true] (Is.keeps _) (by kernel_rfl)
  · intro w1 h1
    simp only [List.nil_append, List.cons_append, Given]
    rintro _ rfl
    rintro _ rfl
    go_wp2_with fail
    exact Post.isv (Ext.refl _) rfl rfl rfl
  -- 62: Op.assign t194
  apply Stage.step (Is _) [false, false, false, false, false, false, false, false, false, false, false, false, false, false, false, false, false, false, false, false, false, false, false, false, false, false, false, false, false, false, false, false, false, false, false, false, false, false, false, false, false, false, false, false, false, false, false, false, false, false, false, false, false, false, false, false, false, false, false, false, false, true] (Is.keeps _) (by kernel_rfl)
  · intro w1 h1
    simp only [List.nil_append, List.cons_append, Given]
    rintro _ rfl
    go_wp2_with fail
    exact Post.isv (Ext.refl _) rfl rfl rfl
  apply Stage.nil
  intro w1 h1
  simp only [List.nil_append, List.cons_append]
  refine Fin.is_ ?_
  refine Fin.is_ ?_
  refine Fin.step_ ?_
  rintro _ ⟨A5, n5, c5, rfl, h5⟩
  refine Fin.is_ ?_
  refine Fin.is_ ?_
  refine Fin.is_ ?_
  refine Fin.step_ ?_
  rintro _ ⟨A6, n6, c6, rfl, h6⟩
  refine Fin.is_ ?_
  refine Fin.is_ ?_
  refine Fin.is_ ?_
  refine Fin.is_ ?_
  refine Fin.is_ ?_
  refine Fin.step_ ?_
  rintro _ ⟨A7, n7, c7, rfl, h7⟩
  refine Fin.is_ ?_
  refine Fin.is_ ?_
  refine Fin.is_ ?_
  refine Fin.step_ ?_
  rintro _ ⟨A8, n8, c8, rfl, h8⟩
  refine Fin.is_ ?_
  refine Fin.is_ ?_
  refine Fin.is_ ?_
  refine Fin.is_ ?_
  refine Fin.is_ ?_
  refine Fin.is_ ?_
  refine Fin.is_ ?_
  refine Fin.is_ ?_
  refine Fin.is_ ?_
  refine Fin.is_ ?_
  refine Fin.is_ ?_
  refine Fin.is_ ?_
  refine Fin.is_ ?_
  refine Fin.is_ ?_
  refine Fin.is_ ?_
  refine Fin.is_ ?_
  refine Fin.is_ ?_
  refine Fin.is_ ?_
  refine Fin.is_ ?_
  refine Fin.is_ ?_
  refine Fin.is_ ?_
  refine Fin.is_ ?_
  refine Fin.is_ ?_
  refine Fin.is_ ?_
  refine Fin.is_ ?_
  refine Fin.is_ ?_
  refine Fin.is_ ?_
  refine Fin.is_ ?_
  refine Fin.is_ ?_
  refine Fin.is_ ?_
  refine Fin.is_ ?_
  refine Fin.is_ ?_
  refine Fin.is_ ?_
  refine Fin.is_ ?_
  refine Fin.is_ ?_
  refine Fin.is_ ?_
  refine Fin.is_ ?_
  refine Fin.is_ ?_
  refine Fin.is_ ?_
  refine Fin.is_ ?_
  refine Fin.is_ ?_
  refine Fin.is_ ?_
  refine Fin.is_ ?_
  refine Fin.is_ ?_
  refine Fin.is_ ?_
  refine Fin.is_ ?_
  refine Fin.nil_ ?_
  go_simp
  go_wp2_with fail
  go_ret
  exact ⟨rfl, hx2.trans h1⟩
end Go.Proofs.Ytajifneohomibaa
