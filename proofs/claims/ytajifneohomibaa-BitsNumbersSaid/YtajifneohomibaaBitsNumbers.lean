/-
  The walk of one statement of chapter 1.
-/
import Derived.Test.YtajifneohomibaaBitsSigns
namespace Go.Proofs.Ytajifneohomibaa
open Go.RowKit
set_option linter.unusedVariables false
set_option maxRecDepth 100000

set_option maxHeartbeats 4000000 in
theorem law_BitsNumbers (w : World) : Calls Try.prog 13 #[] w fun e w' => e = .returned (.bool true) ∧ Ext w w' := by
  go_enter Try.func13, Try.ntmps13
  go_wp2_with fail
  go_loop [1] (fun i => ∃ k : Int, -1 ≤ k ∧ k ≤ 66 ∧ i = .int .i64 k) (fun i => (66 - intOf i).toNat)
  case atStart => exact ⟨-1, by omega, by omega, rfl⟩
  case round =>
    obtain ⟨k, hk0, hk1, rfl⟩ := hrel
    by_cases hlt : k ≤ 65
    · obtain ⟨r, hr⟩ : ∃ r, maskN k = r := ⟨_, rfl⟩
      have HR := Lib.hid hr
      clear hr
      go_wp2_with fail
      refine (bits_Mask' HR).mono ?_
      rintro e w1 ⟨rfl, rfl⟩
      go_wp2_with fail
      refine (ref_Mask' HR).mono ?_
      rintro e w1 ⟨rfl, rfl⟩
      go_wp2_with fail
      go_round
      case rel => exact ⟨k + 1, by omega, by omega, by go_num⟩
      case measure => simp [intOf]; omega
    · clear hk0 hk1
      go_wp2_with fail
      go_loopw [2] (fun i wr => ∃ k : Nat, k ≤ 63 ∧ i = .int .i64 k ∧ Ext w wr) (fun i _ => (63 - (intOf i).toNat))
      case atStart => exact ⟨0, by omega, rfl, Ext.refl _⟩
      case round =>
        obtain ⟨m, hm, rfl, hxm⟩ := hrel
        by_cases hlt2 : m < 63
        · have hdec : decide ((m : Int) < 63) = true := by simp; omega
          go_wp2_with fail
          go_loopw [3] (fun i wr => ∃ d : Int, -1 ≤ d ∧ d ≤ 2 ∧ i = .int .i64 d ∧ Ext w wr) (fun i _ => (2 - intOf i).toNat)
          case atStart => exact ⟨-1, by omega, by omega, rfl, hxm⟩
          case round =>
            obtain ⟨d, hd0, hd1, rfl, hxd⟩ := hrel
            by_cases hlt3 : d ≤ 1
            · have hp1 : 2 ^ m ≤ 2 ^ 62 := Nat.pow_le_pow_right (by omega) (by omega)
              have hp0 := Nat.two_pow_pos m
              have hpi : (2 : Int) ^ m = ((2 ^ m : Nat) : Int) := by simp
              obtain ⟨p, hp⟩ : ∃ p, 2 ^ m = p := ⟨_, rfl⟩
              rw [hp] at hp1 hp0 hpi
              have hw : IntKind.i64.wrap (2 ^ m) = (p : Int) := by
                rw [hpi, IntKind.wrap_i64]
                omega
              clear hp hpi
              obtain ⟨L, hL⟩ : ∃ L, ([] : List UInt8) ++ varl ((p : Int) + d).toNat = L := ⟨_, rfl⟩
              obtain ⟨q, hq⟩ : ∃ q, logI ((p : Int) + d) = q := ⟨_, rfl⟩
              obtain ⟨z1, hz1⟩ : ∃ q, zigN ((p : Int) + d) = q := ⟨_, rfl⟩
              obtain ⟨z2, hz2⟩ : ∃ q, zigN (-((p : Int) + d)) = q := ⟨_, rfl⟩
              have hl1 : z1 < 18446744073709551616 := by rw [← hz1]; exact zigN_lt _ (by omega) (by omega)
              have hl2 : z2 < 18446744073709551616 := by rw [← hz2]; exact zigN_lt _ (by omega) (by omega)
              have G1 := Lib.hid (show zagI z1 = (p : Int) + d by rw [← hz1]; exact zagI_zigN _)
              have G2 := Lib.hid (show zagI z2 = -((p : Int) + d) by rw [← hz2]; exact zagI_zigN _)
              have HL := Lib.hid hL
              have HQ := Lib.hid hq
              have H1 := Lib.hid hz1
              have H2 := Lib.hid hz2
              clear hL hq hz1 hz2
              have B0 : Hid (-9223372036854775808 ≤ (p : Int) + d ∧ (p : Int) + d ≤ 9223372036854775807 ∧ -9223372036854775808 ≤ -((p : Int) + d) ∧ -((p : Int) + d) ≤ 9223372036854775807) := by unfold Hid; omega
              go_wp2_with fail
              refine (bits_Var none 0 0 [] ((p : Int) + d) _ (Sl.nil _) (by omega) B0.out.2.1).mono ?_
              rintro e w2 ⟨A2, n2, c2, rfl, hb2, hx2⟩
              rw [HL.out] at hb2
              have sb2 := hb2.sl
              clear hb2
              have hx02 := hxd.trans hx2
              go_wp2_with fail
              refine wp_region_typed Ext.steady rfl 60 rfl (by kernel_rfl) ?_
              -- 0: Op.move t5
              apply Stage.step (Is _) [] (Is.keeps _) (by kernel_rfl)
              · intro w1 h1
                simp only [Given]
                go_wp2_with fail
                exact Post.isv (Ext.refl _) rfl rfl rfl
              -- 1: Op.convert 22 9 t30
              apply Stage.step (Is (.string ⟨L.toArray⟩)) [true] (Is.keeps _) (by kernel_rfl)
              · intro w1 h1
                simp only [List.nil_append, Given]
                rintro _ rfl
                have ht := run_text_u8 (sb2.ext h1)
                go_wp2_with fail
                exact Post.isv (Ext.refl _) rfl rfl rfl
              -- 2: Op.move t4
              apply Stage.step (Is _) [] (Is.keeps _) (by kernel_rfl)
              · intro w1 h1
                simp only [Given]
                go_wp2_with fail
                exact Post.isv (Ext.refl _) rfl rfl rfl
              -- 3: Op.call { value (Operand.func 36), args := #[const (Value.slice none 0 0), t32], argTypes := #[22, 3
              apply Stage.step (SlT L) [false, false, true] (SlT.keeps _) (by kernel_rfl)
              · intro w1 h1
                simp only [List.nil_append, List.cons_append, Given]
                rintro _ rfl
                go_wp2_with fail
                refine (ref_Var none 0 0 [] _ _ (Sl.nil _) (by omega) B0.out.2.1).mono ?_
                rintro e w3 ⟨A3, n3, c3, rfl, hb3, hx3⟩
                rw [HL.out] at hb3
                go_wp2_with fail
                exact ⟨rfl, rfl, hx3, _, _, _, rfl, hb3.sl⟩
              -- 4: Op.convert 22 9 t33
              apply Stage.step (Is (.string ⟨L.toArray⟩)) [false, false, false, true] (Is.keeps _) (by kernel_rfl)
              · intro w1 h1
                simp only [List.nil_append, List.cons_append, Given]
                rintro _ ⟨A4, n4, c4, rfl, h4⟩
                have ht := run_text_u8 h4
                go_wp2_with fail
                exact Post.isv (Ext.refl _) rfl rfl rfl
              -- 5: Op.binOp BinOp.neq 9 t31 t34 9
              apply Stage.step (Is _) [false, true, false, false, true] (Is.keeps _) (by kernel_rfl)
              · intro w1 h1
                simp only [List.nil_append, List.cons_append, Given]
                rintro _ rfl
                rintro _ rfl
                go_wp2_with fail
                exact Post.isv (Ext.refl _) rfl rfl rfl
              -- 6: Op.move t35
              apply Stage.step (Is _) [false, false, false, false, false, true] (Is.keeps _) (by kernel_rfl)
              · intro w1 h1
                simp only [List.nil_append, List.cons_append, Given]
                rintro _ rfl
                go_wp2_with fail
                exact Post.isv (Ext.refl _) rfl rfl rfl
              -- 7: Op.move t4   [guarded: some (6, false)]
              apply Stage.step (Is _) [false, false, false, false, false, false, true] (Is.keeps _) (by kernel_rfl)
              · intro w1 h1
                simp only [List.nil_append, List.cons_append, Given]
                rintro _ rfl
                go_wp2_with fail
                exact Post.isv (Ext.refl _) rfl rfl rfl
              -- 8: Op.call { value (Operand.func 26), args := #[t37], argTypes := #[3] }   [guarded: some (6, false)]
              apply Stage.step (Is (.int .i64 q)) [false, false, false, false, false, false, true, true] (Is.keeps _) (by kernel_rfl)
              · intro w1 h1
                simp only [List.nil_append, List.cons_append, Given]
                rintro _ rfl
                rintro _ rfl
                go_wp2_with fail
                refine (bits_Log' B0.out.2.1 HQ).mono ?_
                rintro e w2 ⟨rfl, rfl⟩
                go_wp2_with fail
                exact Post.isv (Ext.refl _) rfl rfl rfl
              -- 9: Op.move t4   [guarded: some (6, false)]
              apply Stage.step (Is _) [false, false, false, false, false, false, true] (Is.keeps _) (by kernel_rfl)
              · intro w1 h1
                simp only [List.nil_append, List.cons_append, Given]
                rintro _ rfl
                go_wp2_with fail
                exact Post.isv (Ext.refl _) rfl rfl rfl
              -- 10: Op.call { value (Operand.func 37), args := #[t39], argTypes := #[3] }   [guarded: some (6, false)]
              apply Stage.step (Is (.int .i64 q)) [false, false, false, false, false, false, true, false, false, true] (Is.keeps _) (by kernel_rfl)
              · intro w1 h1
                simp only [List.nil_append, List.cons_append, Given]
                rintro _ rfl
                rintro _ rfl
                go_wp2_with fail
                refine (ref_Log' B0.out.2.1 HQ).mono ?_
                rintro e w2 ⟨rfl, rfl⟩
                go_wp2_with fail
                exact Post.isv (Ext.refl _) rfl rfl rfl
              -- 11: Op.binOp BinOp.neq 3 t38 t40 3   [guarded: some (6, false)]
              apply Stage.step (Is _) [false, false, false, false, false, false, true, false, true, false, true] (Is.keeps _) (by kernel_rfl)
              · intro w1 h1
                simp only [List.nil_append, List.cons_append, Given]
                rintro _ rfl
                rintro _ rfl
                rintro _ rfl
                go_wp2_with fail
                exact Post.isv (Ext.refl _) rfl rfl rfl
              -- 12: Op.pick t36 (const (Value.bool true)) t41
              apply Stage.step (Is _) [false, false, false, false, false, false, true, false, false, false, false, true] (Is.keeps _) (by kernel_rfl)
              · intro w1 h1
                simp only [List.nil_append, List.cons_append, Given]
                rintro _ rfl
                rintro _ rfl
                go_wp2_with fail
                exact Post.isv (Ext.refl _) rfl rfl rfl
              -- 13: Op.move t42
              apply Stage.step (Is _) [false, false, false, false, false, false, false, false, false, false, false, false, true] (Is.keeps _) (by kernel_rfl)
              · intro w1 h1
                simp only [List.nil_append, List.cons_append, Given]
                rintro _ rfl
                go_wp2_with fail
                exact Post.isv (Ext.refl _) rfl rfl rfl
              -- 14: Op.move t4   [guarded: some (13, false)]
              apply Stage.step (Is _) [false, false, false, false, false, false, false, false, false, false, false, false, false, true] (Is.keeps _) (by kernel_rfl)
              · intro w1 h1
                simp only [List.nil_append, List.cons_append, Given]
                rintro _ rfl
                go_wp2_with fail
                exact Post.isv (Ext.refl _) rfl rfl rfl
              -- 15: Op.call { value (Operand.func 31), args := #[t44], argTypes := #[3] }   [guarded: some (13, false)]
              apply Stage.step (Is (.int .u64 z1)) [false, false, false, false, false, false, false, false, false, false, false, false, false, true, true] (Is.keeps _) (by kernel_rfl)
              · intro w1 h1
                simp only [List.nil_append, List.cons_append, Given]
                rintro _ rfl
                rintro _ rfl
                go_wp2_with fail
                refine (bits_Zig' B0.out.1 B0.out.2.1 H1).mono ?_
                rintro e w2 ⟨rfl, rfl⟩
                go_wp2_with fail
                exact Post.isv (Ext.refl _) rfl rfl rfl
              -- 16: Op.call { value (Operand.func 32), args := #[t45], argTypes := #[40] }   [guarded: some (13, false)]
              apply Stage.step (Is (.int .i64 ((p : Int) + d))) [false, false, false, false, false, false, false, false, false, false, false, false, false, true, false, true] (Is.keeps _) (by kernel_rfl)
              · intro w1 h1
                simp only [List.nil_append, List.cons_append, Given]
                rintro _ rfl
                rintro _ rfl
                go_wp2_with fail
                refine (bits_Zag' hl1 G1).mono ?_
                rintro e w2 ⟨rfl, rfl⟩
                go_wp2_with fail
                exact Post.isv (Ext.refl _) rfl rfl rfl
              -- 17: Op.move t4   [guarded: some (13, false)]
              apply Stage.step (Is _) [false, false, false, false, false, false, false, false, false, false, false, false, false, true] (Is.keeps _) (by kernel_rfl)
              · intro w1 h1
                simp only [List.nil_append, List.cons_append, Given]
                rintro _ rfl
                go_wp2_with fail
                exact Post.isv (Ext.refl _) rfl rfl rfl
              -- 18: Op.binOp BinOp.neq 3 t46 t47 3   [guarded: some (13, false)]
              apply Stage.step (Is _) [false, false, false, false, false, false, false, false, false, false, false, false, false, true, false, false, true, true] (Is.keeps _) (by kernel_rfl)
              · intro w1 h1
                simp only [List.nil_append, List.cons_append, Given]
                rintro _ rfl
                rintro _ rfl
                rintro _ rfl
                go_wp2_with fail
                exact Post.isv (Ext.refl _) rfl rfl rfl
              -- 19: Op.pick t43 (const (Value.bool true)) t48
              apply Stage.step (Is _) [false, false, false, false, false, false, false, false, false, false, false, false, false, true, false, false, false, false, true] (Is.keeps _) (by kernel_rfl)
              · intro w1 h1
                simp only [List.nil_append, List.cons_append, Given]
                rintro _ rfl
                rintro _ rfl
                go_wp2_with fail
                exact Post.isv (Ext.refl _) rfl rfl rfl
              -- 20: Op.move t49
              apply Stage.step (Is _) [false, false, false, false, false, false, false, false, false, false, false, false, false, false, false, false, false, false, false, true] (Is.keeps _) (by kernel_rfl)
              · intro w1 h1
                simp only [List.nil_append, List.cons_append, Given]
                rintro _ rfl
                go_wp2_with fail
                exact Post.isv (Ext.refl _) rfl rfl rfl
              -- 21: Op.move t4   [guarded: some (20, false)]
              apply Stage.step (Is _) [false, false, false, false, false, false, false, false, false, false, false, false, false, false, false, false, false, false, false, false, true] (Is.keeps _) (by kernel_rfl)
              · intro w1 h1
                simp only [List.nil_append, List.cons_append, Given]
                rintro _ rfl
                go_wp2_with fail
                exact Post.isv (Ext.refl _) rfl rfl rfl
              -- 22: Op.unOp UnOp.neg 3 t51   [guarded: some (20, false)]
              apply Stage.step (Is (.int .i64 (-((p : Int) + d)))) [false, false, false, false, false, false, false, false, false, false, false, false, false, false, false, false, false, false, false, false, true, true] (Is.keeps _) (by kernel_rfl)
              · intro w1 h1
                simp only [List.nil_append, List.cons_append, Given]
                rintro _ rfl
                rintro _ rfl
                go_wp2_with fail
                exact Post.isv (Ext.refl _) rfl rfl rfl
              -- 23: Op.call { value (Operand.func 31), args := #[t52], argTypes := #[3] }   [guarded: some (20, false)]
              apply Stage.step (Is (.int .u64 z2)) [false, false, false, false, false, false, false, false, false, false, false, false, false, false, false, false, false, false, false, false, true, false, true] (Is.keeps _) (by kernel_rfl)
              · intro w1 h1
                simp only [List.nil_append, List.cons_append, Given]
                rintro _ rfl
                rintro _ rfl
                go_wp2_with fail
                refine (bits_Zig' B0.out.2.2.1 B0.out.2.2.2 H2).mono ?_
                rintro e w2 ⟨rfl, rfl⟩
                go_wp2_with fail
                exact Post.isv (Ext.refl _) rfl rfl rfl
              -- 24: Op.call { value (Operand.func 32), args := #[t53], argTypes := #[40] }   [guarded: some (20, false)]
              apply Stage.step (Is (.int .i64 (-((p : Int) + d)))) [false, false, false, false, false, false, false, false, false, false, false, false, false, false, false, false, false, false, false, false, true, false, false, true] (Is.keeps _) (by kernel_rfl)
              · intro w1 h1
                simp only [List.nil_append, List.cons_append, Given]
                rintro _ rfl
                rintro _ rfl
                go_wp2_with fail
                refine (bits_Zag' hl2 G2).mono ?_
                rintro e w2 ⟨rfl, rfl⟩
                go_wp2_with fail
                exact Post.isv (Ext.refl _) rfl rfl rfl
              -- 25: Op.move t4   [guarded: some (20, false)]
              apply Stage.step (Is _) [false, false, false, false, false, false, false, false, false, false, false, false, false, false, false, false, false, false, false, false, true] (Is.keeps _) (by kernel_rfl)
              · intro w1 h1
                simp only [List.nil_append, List.cons_append, Given]
                rintro _ rfl
                go_wp2_with fail
                exact Post.isv (Ext.refl _) rfl rfl rfl
              -- 26: Op.unOp UnOp.neg 3 t55   [guarded: some (20, false)]
              apply Stage.step (Is (.int .i64 (-((p : Int) + d)))) [false, false, false, false, false, false, false, false, false, false, false, false, false, false, false, false, false, false, false, false, true, false, false, false, false, true] (Is.keeps _) (by kernel_rfl)
              · intro w1 h1
                simp only [List.nil_append, List.cons_append, Given]
                rintro _ rfl
                rintro _ rfl
                go_wp2_with fail
                exact Post.isv (Ext.refl _) rfl rfl rfl
              -- 27: Op.binOp BinOp.neq 3 t54 t56 3   [guarded: some (20, false)]
              apply Stage.step (Is _) [false, false, false, false, false, false, false, false, false, false, false, false, false, false, false, false, false, false, false, false, true, false, false, false, true, false, true] (Is.keeps _) (by kernel_rfl)
              · intro w1 h1
                simp only [List.nil_append, List.cons_append, Given]
                rintro _ rfl
                rintro _ rfl
                rintro _ rfl
                go_wp2_with fail
                exact Post.isv (Ext.refl _) rfl rfl rfl
              -- 28: Op.pick t50 (const (Value.bool true)) t57
              apply Stage.step (Is _) [false, false, false, false, false, false, false, false, false, false, false, false, false, false, false, false, false, false, false, false, true, false, false, false, false, false, false, true] (Is.keeps _) (by kernel_rfl)
              · intro w1 h1
                simp only [List.nil_append, List.cons_append, Given]
                rintro _ rfl
                rintro _ rfl
                go_wp2_with fail
                exact Post.isv (Ext.refl _) rfl rfl rfl
              apply Stage.nil
              intro w1 h1
              simp only [List.nil_append, List.cons_append]
              refine Fin.is_ ?_
              refine Fin.is_ ?_
              refine Fin.is_ ?_
              refine Fin.step_ ?_
              rintro _ ⟨A4, n4, c4, rfl, h4⟩
              refine Fin.is_ ?_
              refine Fin.is_ ?_
              refine Fin.is_ ?_
              refine Fin.is_ ?_
              refine Fin.is_ ?_
              refine Fin.is_ ?_
              refine Fin.is_ ?_
              refine Fin.is_ ?_
              refine Fin.is_ ?_
              refine Fin.is_ ?_
              refine Fin.is_ ?_
              refine Fin.is_ ?_
              refine Fin.is_ ?_
              refine Fin.is_ ?_
              refine Fin.is_ ?_
              refine Fin.is_ ?_
              refine Fin.is_ ?_
              refine Fin.is_ ?_
              refine Fin.is_ ?_
              refine Fin.is_ ?_
              refine Fin.is_ ?_
              refine Fin.is_ ?_
              refine Fin.is_ ?_
              refine Fin.is_ ?_
              refine Fin.is_ ?_
              refine Fin.nil_ ?_
              go_simp
              go_wp2_with fail
              go_roundw
              case rel => exact ⟨d + 1, by omega, by omega, by go_num, hx02.trans h1⟩
              case measure => simp [intOf]; omega
            · clear hd0 hd1
              go_wp2_with fail
              go_roundw
              case rel => exact ⟨m + 1, by omega, by go_num, hxd⟩
              case measure => simp [intOf]; omega
        · go_wp2_with fail
          refine (law1_known _).mono ?_
          rintro e w2 ⟨rfl, hx2⟩
          go_wp2_with fail
          go_ret
          exact ⟨rfl, hxm.trans hx2⟩
end Go.Proofs.Ytajifneohomibaa
