/-
  The walk of one statement of chapter 2.
-/
import Derived.Test.YtajifneohomibaaCrcLaws
namespace Go.Proofs.Ytajifneohomibaa
open Go.RowKit
set_option linter.unusedVariables false
set_option maxRecDepth 100000

set_option maxHeartbeats 2000000 in
theorem law_CrcTells (A : Option Addr) (n cp : Nat) (l : List UInt8) (c x m : Int) (w : World) (hs : Sl w A n cp l) (hc0 : 0 ≤ c) (hc1 : c ≤ 4294967295) (hx0 : 0 ≤ x) (hx1 : x ≤ 255) (hm0 : -9223372036854775808 ≤ m) (hm1 : m ≤ 9223372036854775807) :
    Calls Try.prog 7 #[.slice A n cp, .int .u32 c, .int .u8 x, .int .i64 m] w fun e w' => e = .returned (.bool true) ∧ Ext w w' := by
  have h63 := hs.n63
  obtain ⟨c, rfl⟩ := Int.eq_ofNat_of_zero_le hc0
  obtain ⟨x, rfl⟩ := Int.eq_ofNat_of_zero_le hx0
  have hcx : c < 4294967296 := by omega
  have hxx : x < 256 := by omega
  clear hc0 hc1 hx0 hx1
  by_cases hn : 400 < n
  · clear hm0 hm1
    go_enter Try.func7, Try.ntmps7
    go_wp2_with fail
    refine (law2_known _).mono ?_
    rintro e w1 ⟨rfl, hx1⟩
    go_wp2_with fail
    go_ret
    exact ⟨rfl, hx1⟩
  by_cases hm : 400 < m
  · clear hm0 hm1
    go_enter Try.func7, Try.ntmps7
    go_wp2_with fail
    refine (law2_known _).mono ?_
    rintro e w1 ⟨rfl, hx1⟩
    go_wp2_with fail
    go_ret
    exact ⟨rfl, hx1⟩
  clear hm0 hm1
  obtain ⟨r, hr⟩ : ∃ r, crcOpen l = r := ⟨_, rfl⟩
  have HR := Lib.hid hr
  obtain ⟨z, hz⟩ : ∃ z, crcZeros m.toNat c = z := ⟨_, rfl⟩
  have hzl : z < 4294967296 := by rw [← hz]; exact crcZeros_lt _ hcx
  obtain ⟨zj, hzj⟩ : ∃ zj, crcJoin c 7 m.toNat = zj := ⟨_, rfl⟩
  have fz : (bits .xor .u32 (z : Int) 7) = (zj : Int) := by
    have := u32_xor_nat z 7 hzl (by omega)
    rw [← hzj]
    unfold crcJoin
    rw [hz]
    exact this
  obtain ⟨q1, hq1⟩ : ∃ q, crcNext c x = q := ⟨_, rfl⟩
  obtain ⟨q2, hq2⟩ : ∃ q, crcOf l = q := ⟨_, rfl⟩
  obtain ⟨L, hL⟩ : ∃ L, put l (crcOf l) 4 = L := ⟨_, rfl⟩
  have HZ := Lib.hid hz
  have HJ := Lib.hid hzj
  have H1 := Lib.hid hq1
  have H2 := Lib.hid hq2
  have HL := Lib.hid hL
  have HF := Lib.hid fz
  clear hr hz hzj hq1 hq2 hL fz
  go_enter Try.func7, Try.ntmps7
  go_wp2_with fail
  refine (crc_Open_any A n cp l _ hs (by omega) HR).mono ?_
  rintro e w1 ⟨A1, n1, c1, rfl, hb1, hx1⟩
  have hs1 := hs.ext hx1
  go_wp2_with fail
  refine (ref_Open_any A n cp l _ hs1 (by omega) HR).mono ?_
  rintro e w2 ⟨A2, n2, c2, rfl, hb2, hx2⟩
  have hs2 := hs1.ext hx2
  have hp1 := (hb1.ext hx2).sl
  have hp2 := hb2.sl
  have hx := hx1.trans hx2
  obtain ⟨R, hR⟩ : ∃ R, R = r.getD [] := ⟨_, rfl⟩
  obtain ⟨b, hb⟩ : ∃ b, b = r.isSome := ⟨_, rfl⟩
  rw [← hR] at hp1 hp2
  rw [← hb]
  clear hb1 hb2 hs hs1 hx1 hx2 hR hb
  go_wp2_with fail
  go_loop [13, 14] (fun s i => ∃ k : Nat, (k : Int) ≤ max m 0 ∧ i = .int .i64 k ∧ s = .int .u32 (crcZeros k c)) (fun _ i => (m - intOf i).toNat)
  case atStart => exact ⟨0, by omega, rfl, rfl⟩
  case round =>
    obtain ⟨k, hk, rfl, rfl⟩ := hrel
    have hl := crcZeros_lt k hcx
    obtain ⟨q, hq⟩ : ∃ q, crcZeros k c = q := ⟨_, rfl⟩
    rw [hq] at hl ⊢
    have HQ := Lib.hid hq
    clear hq
    by_cases hlt : (k : Int) < m
    · clear hk
      go_wp2_with fail
      refine (ref_Next q 0 _ hl (by omega)).mono ?_
      rintro e w1 ⟨rfl, rfl⟩
      go_wp2_with fail
      go_round
      case rel => exact ⟨k + 1, by omega, by go_num, by rw [← HQ.out]; rfl⟩
      case measure => simp [intOf]; omega
    · have hkm : k = m.toNat := by omega
      have hqz : q = z := by rw [← HQ.out, ← HZ.out, hkm]
      subst hqz
      clear hkm hk
      go_wp2_with fail
      refine wp_region_typed Ext.steady rfl 87 rfl (by kernel_rfl) ?_
      -- 0: Op.move t1
      apply Stage.step (Is _) [] (Is.keeps _) (by kernel_rfl)
      · intro w1 h1
        simp only [Given]
        go_wp2_with fail
        exact Post.isv (Ext.refl _) rfl rfl rfl
      -- 1: Op.move t2
      apply Stage.step (Is _) [] (Is.keeps _) (by kernel_rfl)
      · intro w1 h1
        simp only [Given]
        go_wp2_with fail
        exact Post.isv (Ext.refl _) rfl rfl rfl
      -- 2: Op.call { value (Operand.func 20), args := #[t41, t42], argTypes := #[23, 5] }
      apply Stage.step (Is (.int .u32 q1)) [true, true] (Is.keeps _) (by kernel_rfl)
      · intro w1 h1
        simp only [List.nil_append, List.cons_append, Given]
        rintro _ rfl
        rintro _ rfl
        go_wp2_with fail
        refine (crc_Next' hcx hxx H1).mono ?_
        rintro e w2 ⟨rfl, rfl⟩
        go_wp2_with fail
        exact Post.isv (Ext.refl _) rfl rfl rfl
      -- 3: Op.move t1
      apply Stage.step (Is _) [] (Is.keeps _) (by kernel_rfl)
      · intro w1 h1
        simp only [Given]
        go_wp2_with fail
        exact Post.isv (Ext.refl _) rfl rfl rfl
      -- 4: Op.move t2
      apply Stage.step (Is _) [] (Is.keeps _) (by kernel_rfl)
      · intro w1 h1
        simp only [Given]
        go_wp2_with fail
        exact Post.isv (Ext.refl _) rfl rfl rfl
      -- 5: Op.call { value (Operand.func 22), args := #[t44, t45], argTypes := #[23, 5] }
      apply Stage.step (Is (.int .u32 q1)) [false, false, false, true, true] (Is.keeps _) (by kernel_rfl)
      · intro w1 h1
        simp only [List.nil_append, List.cons_append, Given]
        rintro _ rfl
        rintro _ rfl
        go_wp2_with fail
        refine (ref_Next' hcx hxx H1).mono ?_
        rintro e w2 ⟨rfl, rfl⟩
        go_wp2_with fail
        exact Post.isv (Ext.refl _) rfl rfl rfl
      -- 6: Op.binOp BinOp.eql 23 t43 t46 23
      apply Stage.step (Is _) [false, false, true, false, false, true] (Is.keeps _) (by kernel_rfl)
      · intro w1 h1
        simp only [List.nil_append, List.cons_append, Given]
        rintro _ rfl
        rintro _ rfl
        go_wp2_with fail
        exact Post.isv (Ext.refl _) rfl rfl rfl
      -- 7: Op.move t47
      apply Stage.step (Is _) [false, false, false, false, false, false, true] (Is.keeps _) (by kernel_rfl)
      · intro w1 h1
        simp only [List.nil_append, List.cons_append, Given]
        rintro _ rfl
        go_wp2_with fail
        exact Post.isv (Ext.refl _) rfl rfl rfl
      -- 8: Op.move t0   [guarded: some (7, true)]
      apply Stage.step (Is _) [false, false, false, false, false, false, false, true] (Is.keeps _) (by kernel_rfl)
      · intro w1 h1
        simp only [List.nil_append, List.cons_append, Given]
        rintro _ rfl
        go_wp2_with fail
        exact Post.isv (Ext.refl _) rfl rfl rfl
      -- 9: Op.call { value (Operand.func 16), args := #[t49], argTypes := #[22] }   [guarded: some (7, true)]
      apply Stage.step (Is (.int .u32 q2)) [false, false, false, false, false, false, false, true, true] (Is.keeps _) (by kernel_rfl)
      · intro w1 h1
        simp only [List.nil_append, List.cons_append, Given]
        rintro _ rfl
        rintro _ rfl
        go_wp2_with fail
        refine (crc_Of' (hs2.ext h1) H2).mono ?_
        rintro e w2 ⟨rfl, rfl⟩
        go_wp2_with fail
        exact Post.isv (Ext.refl _) rfl rfl rfl
      -- 10: Op.move t0   [guarded: some (7, true)]
      apply Stage.step (Is _) [false, false, false, false, false, false, false, true] (Is.keeps _) (by kernel_rfl)
      · intro w1 h1
        simp only [List.nil_append, List.cons_append, Given]
        rintro _ rfl
        go_wp2_with fail
        exact Post.isv (Ext.refl _) rfl rfl rfl
      -- 11: Op.call { value (Operand.func 23), args := #[t51], argTypes := #[22] }   [guarded: some (7, true)]
      apply Stage.step (Is (.int .u32 q2)) [false, false, false, false, false, false, false, true, false, false, true] (Is.keeps _) (by kernel_rfl)
      · intro w1 h1
        simp only [List.nil_append, List.cons_append, Given]
        rintro _ rfl
        rintro _ rfl
        go_wp2_with fail
        refine (ref_Of' (hs2.ext h1) H2).mono ?_
        rintro e w2 ⟨rfl, rfl⟩
        go_wp2_with fail
        exact Post.isv (Ext.refl _) rfl rfl rfl
      -- 12: Op.binOp BinOp.eql 23 t50 t52 23   [guarded: some (7, true)]
      apply Stage.step (Is _) [false, false, false, false, false, false, false, true, false, true, false, true] (Is.keeps _) (by kernel_rfl)
      · intro w1 h1
        simp only [List.nil_append, List.cons_append, Given]
        rintro _ rfl
        rintro _ rfl
        rintro _ rfl
        go_wp2_with fail
        exact Post.isv (Ext.refl _) rfl rfl rfl
      -- 13: Op.pick t48 t53 (const (Value.bool false))
      apply Stage.step (Is _) [false, false, false, false, false, false, false, true, false, false, false, false, true] (Is.keeps _) (by kernel_rfl)
      · intro w1 h1
        simp only [List.nil_append, List.cons_append, Given]
        rintro _ rfl
        rintro _ rfl
        go_wp2_with fail
        exact Post.isv (Ext.refl _) rfl rfl rfl
      -- 14: Op.move t54
      apply Stage.step (Is _) [false, false, false, false, false, false, false, false, false, false, false, false, false, true] (Is.keeps _) (by kernel_rfl)
      · intro w1 h1
        simp only [List.nil_append, List.cons_append, Given]
        rintro _ rfl
        go_wp2_with fail
        exact Post.isv (Ext.refl _) rfl rfl rfl
      -- 15: Op.move t0   [guarded: some (14, true)]
      apply Stage.step (Is _) [false, false, false, false, false, false, false, false, false, false, false, false, false, false, true] (Is.keeps _) (by kernel_rfl)
      · intro w1 h1
        simp only [List.nil_append, List.cons_append, Given]
        rintro _ rfl
        go_wp2_with fail
        exact Post.isv (Ext.refl _) rfl rfl rfl
      -- 16: Op.call { value (Operand.func 18), args := #[t56], argTypes := #[22] }   [guarded: some (14, true)]
      apply Stage.step (SlT L) [false, false, false, false, false, false, false, false, false, false, false, false, false, false, true, true] (SlT.keeps _) (by kernel_rfl)
      · intro w1 h1
        simp only [List.nil_append, List.cons_append, Given]
        rintro _ rfl
        rintro _ rfl
        go_wp2_with fail
        refine (crc_Seal _ _ _ _ _ (hs2.ext h1) (by omega)).mono ?_
        rintro e w3 ⟨A3, c3, rfl, hb3, hx3⟩
        rw [HL.out] at hb3
        go_wp2_with fail
        exact ⟨rfl, rfl, hx3, _, _, _, rfl, hb3.sl⟩
      -- 17: Op.convert 22 9 t57   [guarded: some (14, true)]
      apply Stage.step (Is (.string ⟨L.toArray⟩)) [false, false, false, false, false, false, false, false, false, false, false, false, false, false, true, false, true] (Is.keeps _) (by kernel_rfl)
      · intro w1 h1
        simp only [List.nil_append, List.cons_append, Given]
        rintro _ rfl
        rintro _ ⟨A3, n3, c3, rfl, h3⟩
        have ht := run_text_u8 h3
        go_wp2_with fail
        exact Post.isv (Ext.refl _) rfl rfl rfl
      -- 18: Op.move t0   [guarded: some (14, true)]
      apply Stage.step (Is _) [false, false, false, false, false, false, false, false, false, false, false, false, false, false, true] (Is.keeps _) (by kernel_rfl)
      · intro w1 h1
        simp only [List.nil_append, List.cons_append, Given]
        rintro _ rfl
        go_wp2_with fail
        exact Post.isv (Ext.refl _) rfl rfl rfl
      -- 19: Op.call { value (Operand.func 24), args := #[t59], argTypes := #[22] }   [guarded: some (14, true)]
      apply Stage.step (SlT L) [false, false, false, false, false, false, false, false, false, false, false, false, false, false, true, false, false, false, true] (SlT.keeps _) (by kernel_rfl)
      · intro w1 h1
        simp only [List.nil_append, List.cons_append, Given]
        rintro _ rfl
        rintro _ rfl
        go_wp2_with fail
        refine (ref_Seal _ _ _ _ _ (hs2.ext h1) (by omega)).mono ?_
        rintro e w3 ⟨A3, n3, c3, rfl, hb3, hx3⟩
        rw [HL.out] at hb3
        go_wp2_with fail
        exact ⟨rfl, rfl, hx3, _, _, _, rfl, hb3.sl⟩
      -- 20: Op.convert 22 9 t60   [guarded: some (14, true)]
      apply Stage.step (Is (.string ⟨L.toArray⟩)) [false, false, false, false, false, false, false, false, false, false, false, false, false, false, true, false, false, false, false, true] (Is.keeps _) (by kernel_rfl)
      · intro w1 h1
        simp only [List.nil_append, List.cons_append, Given]
        rintro _ rfl
        rintro _ ⟨A4, n4, c4, rfl, h4⟩
        have ht := run_text_u8 h4
        go_wp2_with fail
        exact Post.isv (Ext.refl _) rfl rfl rfl
      -- 21: Op.binOp BinOp.eql 9 t58 t61 9   [guarded: some (14, true)]
      apply Stage.step (Is _) [false, false, false, false, false, false, false, false, false, false, false, false, false, false, true, false, false, true, false, false, true] (Is.keeps _) (by kernel_rfl)
      · intro w1 h1
        simp only [List.nil_append, List.cons_append, Given]
        rintro _ rfl
        rintro _ rfl
        rintro _ rfl
        go_wp2_with fail
        exact Post.isv (Ext.refl _) rfl rfl rfl
      -- 22: Op.pick t55 t62 (const (Value.bool false))
      apply Stage.step (Is _) [false, false, false, false, false, false, false, false, false, false, false, false, false, false, true, false, false, false, false, false, false, true] (Is.keeps _) (by kernel_rfl)
      · intro w1 h1
        simp only [List.nil_append, List.cons_append, Given]
        rintro _ rfl
        rintro _ rfl
        go_wp2_with fail
        exact Post.isv (Ext.refl _) rfl rfl rfl
      -- 23: Op.move t63
      apply Stage.step (Is _) [false, false, false, false, false, false, false, false, false, false, false, false, false, false, false, false, false, false, false, false, false, false, true] (Is.keeps _) (by kernel_rfl)
      · intro w1 h1
        simp only [List.nil_append, List.cons_append, Given]
        rintro _ rfl
        go_wp2_with fail
        exact Post.isv (Ext.refl _) rfl rfl rfl
      -- 24: Op.move t9   [guarded: some (23, true)]
      apply Stage.step (Is _) [false, false, false, false, false, false, false, false, false, false, false, false, false, false, false, false, false, false, false, false, false, false, false, true] (Is.keeps _) (by kernel_rfl)
      · intro w1 h1
        simp only [List.nil_append, List.cons_append, Given]
        rintro _ rfl
        go_wp2_with fail
        exact Post.isv (Ext.refl _) rfl rfl rfl
      -- 25: Op.convert 22 9 t65   [guarded: some (23, true)]
      apply Stage.step (Is (.string ⟨R.toArray⟩)) [false, false, false, false, false, false, false, false, false, false, false, false, false, false, false, false, false, false, false, false, false, false, false, true, true] (Is.keeps _) (by kernel_rfl)
      · intro w1 h1
        simp only [List.nil_append, List.cons_append, Given]
        rintro _ rfl
        rintro _ rfl
        have ht := run_text_u8 (hp1.ext h1)
        go_wp2_with fail
        exact Post.isv (Ext.refl _) rfl rfl rfl
      -- 26: Op.move t11   [guarded: some (23, true)]
      apply Stage.step (Is _) [false, false, false, false, false, false, false, false, false, false, false, false, false, false, false, false, false, false, false, false, false, false, false, true] (Is.keeps _) (by kernel_rfl)
      · intro w1 h1
        simp only [List.nil_append, List.cons_append, Given]
        rintro _ rfl
        go_wp2_with fail
        exact Post.isv (Ext.refl _) rfl rfl rfl
      -- 27: Op.convert 22 9 t67   [guarded: some (23, true)]
      apply Stage.step (Is (.string ⟨R.toArray⟩)) [false, false, false, false, false, false, false, false, false, false, false, false, false, false, false, false, false, false, false, false, false, false, false, true, false, false, true] (Is.keeps _) (by kernel_rfl)
      · intro w1 h1
        simp only [List.nil_append, List.cons_append, Given]
        rintro _ rfl
        rintro _ rfl
        have ht := run_text_u8 (hp2.ext h1)
        go_wp2_with fail
        exact Post.isv (Ext.refl _) rfl rfl rfl
      -- 28: Op.binOp BinOp.eql 9 t66 t68 9   [guarded: some (23, true)]
      apply Stage.step (Is _) [false, false, false, false, false, false, false, false, false, false, false, false, false, false, false, false, false, false, false, false, false, false, false, true, false, true, false, true] (Is.keeps _) (by kernel_rfl)
      · intro w1 h1
        simp only [List.nil_append, List.cons_append, Given]
        rintro _ rfl
        rintro _ rfl
        rintro _ rfl
        go_wp2_with fail
        exact Post.isv (Ext.refl _) rfl rfl rfl
      -- 29: Op.pick t64 t69 (const (Value.bool false))
      apply Stage.step (Is _) [false, false, false, false, false, false, false, false, false, false, false, false, false, false, false, false, false, false, false, false, false, false, false, true, false, false, false, false, true] (Is.keeps _) (by kernel_rfl)
      · intro w1 h1
        simp only [List.nil_append, List.cons_append, Given]
        rintro _ rfl
        rintro _ rfl
        go_wp2_with fail
        exact Post.isv (Ext.refl _) rfl rfl rfl
      -- 30: Op.move t70
      apply Stage.step (Is _) [false, false, false, false, false, false, false, false, false, false, false, false, false, false, false, false, false, false, false, false, false, false, false, false, false, false, false, false, false, true] (Is.keeps _) (by kernel_rfl)
      · intro w1 h1
        simp only [List.nil_append, List.cons_append, Given]
        rintro _ rfl
        go_wp2_with fail
        exact Post.isv (Ext.refl _) rfl rfl rfl
      -- 31: Op.move t10   [guarded: some (30, true)]
      apply Stage.step (Is _) [false, false, false, false, false, false, false, false, false, false, false, false, false, false, false, false, false, false, false, false, false, false, false, false, false, false, false, false, false, false, true] (Is.keeps _) (by kernel_rfl)
      · intro w1 h1
        simp only [List.nil_append, List.cons_append, Given]
        rintro _ rfl
        go_wp2_with fail
        exact Post.isv (Ext.refl _) rfl rfl rfl
      -- 32: Op.move t12   [guarded: some (30, true)]
      apply Stage.step (Is _) [false, false, false, false, false, false, false, false, false, false, false, false, false, false, false, false, false, false, false, false, false, false, false, false, false, false, false, false, false, false, true] (Is.keeps _) (by kernel_rfl)
      · intro w1 h1
        simp only [List.nil_append, List.cons_append, Given]
        rintro _ rfl
        go_wp2_with fail
        exact Post.isv (Ext.refl _) rfl rfl rfl
      -- 33: Op.binOp BinOp.eql 4 t72 t73 4   [guarded: some (30, true)]
      apply Stage.step (Is _) [false, false, false, false, false, false, false, false, false, false, false, false, false, false, false, false, false, false, false, false, false, false, false, false, false, false, false, false, false, false, true, true, true] (Is.keeps _) (by kernel_rfl)
      · intro w1 h1
        simp only [List.nil_append, List.cons_append, Given]
        rintro _ rfl
        rintro _ rfl
        rintro _ rfl
        go_wp2_with fail
        exact Post.isv (Ext.refl _) rfl rfl rfl
      -- 34: Op.pick t71 t74 (const (Value.bool false))
      apply Stage.step (Is _) [false, false, false, false, false, false, false, false, false, false, false, false, false, false, false, false, false, false, false, false, false, false, false, false, false, false, false, false, false, false, true, false, false, true] (Is.keeps _) (by kernel_rfl)
      · intro w1 h1
        simp only [List.nil_append, List.cons_append, Given]
        rintro _ rfl
        rintro _ rfl
        go_wp2_with fail
        exact Post.isv (Ext.refl _) rfl rfl rfl
      -- 35: Op.move t75
      apply Stage.step (Is _) [false, false, false, false, false, false, false, false, false, false, false, false, false, false, false, false, false, false, false, false, false, false, false, false, false, false, false, false, false, false, false, false, false, false, true] (Is.keeps _) (by kernel_rfl)
      · intro w1 h1
        simp only [List.nil_append, List.cons_append, Given]
        rintro _ rfl
        go_wp2_with fail
        exact Post.isv (Ext.refl _) rfl rfl rfl
      -- 36: Op.move t1   [guarded: some (35, true)]
      apply Stage.step (Is _) [false, false, false, false, false, false, false, false, false, false, false, false, false, false, false, false, false, false, false, false, false, false, false, false, false, false, false, false, false, false, false, false, false, false, false, true] (Is.keeps _) (by kernel_rfl)
      · intro w1 h1
        simp only [List.nil_append, List.cons_append, Given]
        rintro _ rfl
        go_wp2_with fail
        exact Post.isv (Ext.refl _) rfl rfl rfl
      -- 37: Op.move t3   [guarded: some (35, true)]
      apply Stage.step (Is _) [false, false, false, false, false, false, false, false, false, false, false, false, false, false, false, false, false, false, false, false, false, false, false, false, false, false, false, false, false, false, false, false, false, false, false, true] (Is.keeps _) (by kernel_rfl)
      · intro w1 h1
        simp only [List.nil_append, List.cons_append, Given]
        rintro _ rfl
        go_wp2_with fail
        exact Post.isv (Ext.refl _) rfl rfl rfl
      -- 38: Op.call { value (Operand.func 25), args := #[t77, const (7:u32), t78], argTypes := #[23, 23, 3] }   
      apply Stage.step (Is (.int .u32 zj)) [false, false, false, false, false, false, false, false, false, false, false, false, false, false, false, false, false, false, false, false, false, false, false, false, false, false, false, false, false, false, false, false, false, false, false, true, true, true] (Is.keeps _) (by kernel_rfl)
      · intro w1 h1
        simp only [List.nil_append, List.cons_append, Given]
        rintro _ rfl
        rintro _ rfl
        rintro _ rfl
        go_wp2_with fail
        refine (crc_Join' hcx (by omega) (by omega) HJ).mono ?_
        rintro e w2 ⟨rfl, rfl⟩
        go_wp2_with fail
        exact Post.isv (Ext.refl _) rfl rfl rfl
      -- 39: Op.move t13   [guarded: some (35, true)]
      apply Stage.step (Is _) [false, false, false, false, false, false, false, false, false, false, false, false, false, false, false, false, false, false, false, false, false, false, false, false, false, false, false, false, false, false, false, false, false, false, false, true] (Is.keeps _) (by kernel_rfl)
      · intro w1 h1
        simp only [List.nil_append, List.cons_append, Given]
        rintro _ rfl
        go_wp2_with fail
        exact Post.isv (Ext.refl _) rfl rfl rfl
      -- 40: Op.binOp BinOp.xor 23 t80 (const (7:u32)) 23   [guarded: some (35, true)]
      apply Stage.step (Is (.int .u32 zj)) [false, false, false, false, false, false, false, false, false, false, false, false, false, false, false, false, false, false, false, false, false, false, false, false, false, false, false, false, false, false, false, false, false, false, false, true, false, false, false, true] (Is.keeps _) (by kernel_rfl)
      · intro w1 h1
        simp only [List.nil_append, List.cons_append, Given]
        rintro _ rfl
        rintro _ rfl
        have hf := HF.out
        go_wp2_with fail
        exact Post.isv (Ext.refl _) rfl rfl rfl
      -- 41: Op.binOp BinOp.eql 23 t79 t81 23   [guarded: some (35, true)]
      apply Stage.step (Is _) [false, false, false, false, false, false, false, false, false, false, false, false, false, false, false, false, false, false, false, false, false, false, false, false, false, false, false, false, false, false, false, false, false, false, false, true, false, false, true, false, true] (Is.keeps _) (by kernel_rfl)
      · intro w1 h1
        simp only [List.nil_append, List.cons_append, Given]
        rintro _ rfl
        rintro _ rfl
        rintro _ rfl
        go_wp2_with fail
        exact Post.isv (Ext.refl _) rfl rfl rfl
      -- 42: Op.pick t76 t82 (const (Value.bool false))
      apply Stage.step (Is _) [false, false, false, false, false, false, false, false, false, false, false, false, false, false, false, false, false, false, false, false, false, false, false, false, false, false, false, false, false, false, false, false, false, false, false, true, false, false, false, false, false, true] (Is.keeps _) (by kernel_rfl)
      · intro w1 h1
        simp only [List.nil_append, List.cons_append, Given]
        rintro _ rfl
        rintro _ rfl
        go_wp2_with fail
        exact Post.isv (Ext.refl _) rfl rfl rfl
      -- 43: Op.move t83
      apply Stage.step (Is _) [false, false, false, false, false, false, false, false, false, false, false, false, false, false, false, false, false, false, false, false, false, false, false, false, false, false, false, false, false, false, false, false, false, false, false, false, false, false, false, false, false, false, true] (Is.keeps _) (by kernel_rfl)
      · intro w1 h1
        simp only [List.nil_append, List.cons_append, Given]
        rintro _ rfl
        go_wp2_with fail
        exact Post.isv (Ext.refl _) rfl rfl rfl
      -- 44: Op.call { value (Operand.func 17), args := #[], argTypes := #[] }   [guarded: some (43, true)]
      apply Stage.step (Is (.bool true)) [false, false, false, false, false, false, false, false, false, false, false, false, false, false, false, false, false, false, false, false, false, false, false, false, false, false, false, false, false, false, false, false, false, false, false, false, false, false, false, false, false, false, false, true] (Is.keeps _) (by kernel_rfl)
      · intro w1 h1
        simp only [List.nil_append, List.cons_append, Given]
        rintro _ rfl
        go_wp2_with fail
        refine (law2_known _).mono ?_
        rintro e w2 ⟨rfl, hx5⟩
        go_wp2_with fail
        exact Post.isv hx5 rfl rfl rfl
      -- 45: Op.pick t84 t85 (const (Value.bool false))
      apply Stage.step (Is _) [false, false, false, false, false, false, false, false, false, false, false, false, false, false, false, false, false, false, false, false, false, false, false, false, false, false, false, false, false, false, false, false, false, false, false, false, false, false, false, false, false, false, false, true, true] (Is.keeps _) (by kernel_rfl)
      · intro w1 h1
        simp only [List.nil_append, List.cons_append, Given]
        rintro _ rfl
        rintro _ rfl
        go_wp2_with fail
        exact Post.isv (Ext.refl _) rfl rfl rfl
      -- 46: Op.assign t86
      apply Stage.step (Is _) [false, false, false, false, false, false, false, false, false, false, false, false, false, false, false, false, false, false, false, false, false, false, false, false, false, false, false, false, false, false, false, false, false, false, false, false, false, false, false, false, false, false, false, false, false, true] (Is.keeps _) (by kernel_rfl)
      · intro w1 h1
        simp only [List.nil_append, List.cons_append, Given]
        rintro _ rfl
        go_wp2_with fail
        exact Post.isv (Ext.refl _) rfl rfl rfl
      apply Stage.nil
      intro w1 h1
      simp only [List.nil_append, List.cons_append]
      refine Fin.is_ ?_
      refine Fin.is_ ?_
      refine Fin.is_ ?_
      refine Fin.is_ ?_
      refine Fin.is_ ?_
      refine Fin.is_ ?_
      refine Fin.is_ ?_
      refine Fin.is_ ?_
      refine Fin.is_ ?_
      refine Fin.is_ ?_
      refine Fin.is_ ?_
      refine Fin.is_ ?_
      refine Fin.is_ ?_
      refine Fin.is_ ?_
      refine Fin.is_ ?_
      refine Fin.is_ ?_
      refine Fin.step_ ?_
      rintro _ ⟨A3, n3, c3, rfl, h3⟩
      refine Fin.is_ ?_
      refine Fin.is_ ?_
      refine Fin.step_ ?_
      rintro _ ⟨A4, n4, c4, rfl, h4⟩
      refine Fin.is_ ?_
      refine Fin.is_ ?_
      refine Fin.is_ ?_
      refine Fin.is_ ?_
      refine Fin.is_ ?_
      refine Fin.is_ ?_
      refine Fin.is_ ?_
      refine Fin.is_ ?_
      refine Fin.is_ ?_
      refine Fin.is_ ?_
      refine Fin.is_ ?_
      refine Fin.is_ ?_
      refine Fin.is_ ?_
      refine Fin.is_ ?_
      refine Fin.is_ ?_
      refine Fin.is_ ?_
      refine Fin.is_ ?_
      refine Fin.is_ ?_
      refine Fin.is_ ?_
      refine Fin.is_ ?_
      refine Fin.is_ ?_
      refine Fin.is_ ?_
      refine Fin.is_ ?_
      refine Fin.is_ ?_
      refine Fin.is_ ?_
      refine Fin.is_ ?_
      refine Fin.is_ ?_
      refine Fin.nil_ ?_
      go_simp
      go_wp2_with fail
      go_ret
      exact ⟨rfl, hx.trans h1⟩
end Go.Proofs.Ytajifneohomibaa
