/-
  The reference's way from bytes to others once more: its events in memory of their own.
-/
import Derived.Test.YtcklkjklepmabaaZDiffRef
import Derived.Test.YtcklkjklepmabaaZDiffFr
namespace Go.Proofs.Ytcklkjklepmabaa
open Go.RowKit
set_option linter.unusedVariables false
set_option linter.unusedSimpArgs false
set_option linter.unnecessarySimpa false
set_option maxRecDepth 100000

set_option maxHeartbeats 4000000 in
theorem ref_BytesF {A : Option Addr} {na ca : Nat} {a : List UInt8} {A' : Option Addr} {nb cb : Nat} {b : List UInt8} {w : World} (ha : Sl w A na ca a) (hb : Sl w A' nb cb b) (hna : na ≤ 1000000) (hnb : nb ≤ 1000000) {R : List Ev} (hR : Hid (bytesL a b = R)) :
    Calls Try.prog 30 #[.slice A na ca, .slice A' nb cb] w fun e w' => ∃ A3 n3 c3, e = .returned (.slice A3 n3 c3) ∧ OwnL TEv 5 (frR evR w.heap.size) w' w.heap.size A3 n3 c3 R ∧ Ext w w' := by
  have h63 := ha.n63
  have h63' := hb.n63
  have hal := ha.len
  have hbl := hb.len
  by_cases t1 : 512 < na
  · obtain rfl : [] = R := by rw [← hR.out, bytes_long (.inl (by omega))]
    clear hR
    go_enter Try.func30, Try.ntmps30
    go_wp2_with fail
    go_ret
    exact ⟨_, _, _, rfl, OwnL.nil _ _ _ _, Ext.refl _⟩
  by_cases t2 : 512 < nb
  · obtain rfl : [] = R := by rw [← hR.out, bytes_long (.inr (by omega))]
    clear hR
    go_enter Try.func30, Try.ntmps30
    go_wp2_with fail
    go_ret
    exact ⟨_, _, _, rfl, OwnL.nil _ _ _ _, Ext.refl _⟩
  obtain ⟨i0, hi0, hz0, hz1, hz2⟩ := info_parts info_ev
  obtain ⟨x, hxx⟩ : ∃ x, sizedL a nb = x := ⟨_, rfl⟩
  by_cases hnn : na = nb
  · have hR2 := hR.out
    rw [bytes_same (by omega) (by omega) (by omega)] at hR2
    rw [hbl, hxx] at hR2
    have HR2 := Lib.hid hR2
    have qn : ((na : Int) != (nb : Int)) = false := by simp; omega
    clear hR hR2 hnn
    go_enter Try.func30, Try.ntmps30
    go_wp2_with fail
    refine (ref_Sized A na ca a nb w (ha) (by omega) (by omega)).mono ?_
    rintro e w2 ⟨As, cs, rfl, hbx, hx2⟩
    rw [hxx] at hbx
    have hx0 : Ext w w2 := hx2
    have hown0 : OwnL TEv 5 (frR evR w.heap.size) w2 w.heap.size none 0 0 [] := (OwnL.nil _ _ _ _).ext (fr_rep ev_rep w.heap.size) hx2
    have hne0 : Hid (∀ g, rowOf As cs = some g → rowOf none 0 ≠ some g) := fun g hg => by
      have := (hbx.own.row_ge g hg).1
      simp [rowOf]
    replace hbx := hbx.low (B' := w.heap.size) (by exact Nat.le_refl _)
    clear hx2
    go_wp2_with fail
    go_loopw [5, 7] (fun v i wr => ∃ (k m : Nat) (Ak : Option Addr) (ck : Nat) (out : List Ev), k ≤ nb ∧ m ≤ k + 1 ∧ v = .slice Ak m ck ∧ i = .int .i64 k ∧ OwnL TEv 5 (frR evR w.heap.size) wr w.heap.size Ak m ck out ∧ Byt U8 wr w.heap.size As nb cs x ∧ Hid (∀ g, rowOf As cs = some g → rowOf Ak ck ≠ some g) ∧ Hid (out ++ wayL x b k = R) ∧ Ext w wr) (fun _ i _ => nb - (intOf i).toNat)
    case atStart => exact ⟨0, _, _, _, _, by omega, by omega, rfl, rfl, hown0, hbx, hne0, HR2, hx0⟩
    case round =>
      obtain ⟨k, m, Ak, ck, out, hk, hm, rfl, rfl, hown, hbk, hne, hrk, hxr⟩ := hrel
      clear hown0 HR2 hbx hne0 hx0
      by_cases hlt : k < nb
      case neg =>
        obtain rfl : out = R := by
          have := hrk.out
          rw [way_end (by omega), List.append_nil] at this
          exact this
        clear hrk
        go_wp2_with fail
        go_ret
        exact ⟨_, _, _, rfl, hown, hxr⟩
      have hrl := runF_le x b 64 k
      obtain ⟨N, hN⟩ : ∃ N, runF 64 x b k = N := ⟨_, rfl⟩
      rw [hN] at hrl
      have hN64 : N ≤ 64 := hrl.1
      have hNb : k + N ≤ nb := by have := hrl.2 (by omega); omega
      have HRN := Lib.hid hN
      clear hrl hN
      obtain ⟨w1, hw1⟩ : ∃ w1, w1 = wr := ⟨_, rfl⟩
      rw [← hw1] at hown hxr hbk
      go_wp2_with fail
      rw [← hw1]
      go_loopw [8] (fun i wr => ∃ j : Nat, j ≤ N ∧ i = .int .i64 j ∧ Ext w1 wr) (fun i _ => N - (intOf i).toNat)
      case atStart => exact ⟨0, by omega, rfl, Ext.refl _⟩
      case round =>
        obtain ⟨j, hj, rfl, hy⟩ := hrel
        clear hw1
        by_cases hjN : j < N
        · obtain ⟨r1, r2⟩ := runF_in (x := x) (b := b) 64 k j (by rw [HRN.out]; exact hjN)
          have hkj : k + j < nb := by omega
          obtain ⟨gx, ox, rfl, ax⟩ := hbk.sl.at2 hkj
          obtain ⟨gb, ob, rfl, ab⟩ := hb.at2 hkj
          replace ab := hy.cell (hxr.cell ab)
          replace ax := hy.cell ax
          obtain ⟨px, hpx⟩ : ∃ p, x.getD (k + j) 0 = p := ⟨_, rfl⟩
          obtain ⟨pb, hpb⟩ : ∃ p, b.getD (k + j) 0 = p := ⟨_, rfl⟩
          rw [hpx] at ax
          rw [hpb] at ab
          rw [hpx, hpb] at r2
          have q1 : ((px.toNat : Int) != (pb.toNat : Int)) = true := by
            have : px.toNat ≠ pb.toNat := fun e => r2 (UInt8.toNat_inj.1 e)
            simp; omega
          have q2 : decide ((k : Int) + (j : Int) < (nb : Int)) = true := by simp; omega
          have q2' : decide (k + j < nb) = true := by simp; omega
          have q3 : decide ((j : Int) < 64) = true := by simp; omega
          have q3' : decide (j < 64) = true := by simp; omega
          clear r1 r2 hpx hpb
          go_wp2_with fail
          refine wp_region_typed Ext.steady rfl 102 rfl (by kernel_rfl) ?_
          -- 0: Op.move t7
          apply Stage.step (Is _) [] (Is.keeps _) (by kernel_rfl)
          · intro w1 h1
            simp only [Given]
            go_wp2_with fail
            exact Post.isv (Ext.refl _) rfl rfl rfl
          -- 1: Op.move t8
          apply Stage.step (Is _) [] (Is.keeps _) (by kernel_rfl)
          · intro w1 h1
            simp only [Given]
            go_wp2_with fail
            exact Post.isv (Ext.refl _) rfl rfl rfl
          -- 2: Op.binOp BinOp.add 3 t38 t39 3
          apply Stage.step (Is _) [true, true] (Is.keeps _) (by kernel_rfl)
          · intro w1 h1
            simp only [List.nil_append, List.cons_append, Given]
            rintro _ rfl
            rintro _ rfl
            go_wp2_with fail
            exact Post.isv (Ext.refl _) rfl rfl rfl
          -- 3: Op.move t1
          apply Stage.step (Is _) [] (Is.keeps _) (by kernel_rfl)
          · intro w1 h1
            simp only [Given]
            go_wp2_with fail
            exact Post.isv (Ext.refl _) rfl rfl rfl
          -- 4: Op.call { builtin len, args := #[t41], argTypes := #[22] }
          apply Stage.step (Is _) [false, false, false, true] (Is.keeps _) (by kernel_rfl)
          · intro w1 h1
            simp only [List.nil_append, List.cons_append, Given]
            rintro _ rfl
            go_wp2_with fail
            exact Post.isv (Ext.refl _) rfl rfl rfl
          -- 5: Op.binOp BinOp.lss 3 t40 t42 3
          apply Stage.step (Is _) [false, false, true, false, true] (Is.keeps _) (by kernel_rfl)
          · intro w1 h1
            simp only [List.nil_append, List.cons_append, Given]
            rintro _ rfl
            rintro _ rfl
            go_wp2_with fail
            exact Post.isv (Ext.refl _) rfl rfl rfl
          -- 6: Op.move t43
          apply Stage.step (Is _) [false, false, false, false, false, true] (Is.keeps _) (by kernel_rfl)
          · intro w1 h1
            simp only [List.nil_append, List.cons_append, Given]
            rintro _ rfl
            go_wp2_with fail
            exact Post.isv (Ext.refl _) rfl rfl rfl
          -- 7: Op.move t8   [guarded: some (6, true)]
          apply Stage.step (Is _) [false, false, false, false, false, false, true] (Is.keeps _) (by kernel_rfl)
          · intro w1 h1
            simp only [List.nil_append, List.cons_append, Given]
            rintro _ rfl
            go_wp2_with fail
            exact Post.isv (Ext.refl _) rfl rfl rfl
          -- 8: Op.binOp BinOp.lss 3 t45 (const (64:i64)) 3   [guarded: some (6, true)]
          apply Stage.step (Is _) [false, false, false, false, false, false, true, true] (Is.keeps _) (by kernel_rfl)
          · intro w1 h1
            simp only [List.nil_append, List.cons_append, Given]
            rintro _ rfl
            rintro _ rfl
            go_wp2_with fail
            exact Post.isv (Ext.refl _) rfl rfl rfl
          -- 9: Op.pick t44 t46 (const (Value.bool false))
          apply Stage.step (Is _) [false, false, false, false, false, false, true, false, true] (Is.keeps _) (by kernel_rfl)
          · intro w1 h1
            simp only [List.nil_append, List.cons_append, Given]
            rintro _ rfl
            rintro _ rfl
            go_wp2_with fail
            exact Post.isv (Ext.refl _) rfl rfl rfl
          -- 10: Op.move t47
          apply Stage.step (Is _) [false, false, false, false, false, false, false, false, false, true] (Is.keeps _) (by kernel_rfl)
          · intro w1 h1
            simp only [List.nil_append, List.cons_append, Given]
            rintro _ rfl
            go_wp2_with fail
            exact Post.isv (Ext.refl _) rfl rfl rfl
          -- 11: Op.move t6   [guarded: some (10, true)]
          apply Stage.step (Is _) [false, false, false, false, false, false, false, false, false, false, true] (Is.keeps _) (by kernel_rfl)
          · intro w1 h1
            simp only [List.nil_append, List.cons_append, Given]
            rintro _ rfl
            go_wp2_with fail
            exact Post.isv (Ext.refl _) rfl rfl rfl
          -- 12: Op.move t7   [guarded: some (10, true)]
          apply Stage.step (Is _) [false, false, false, false, false, false, false, false, false, false, true] (Is.keeps _) (by kernel_rfl)
          · intro w1 h1
            simp only [List.nil_append, List.cons_append, Given]
            rintro _ rfl
            go_wp2_with fail
            exact Post.isv (Ext.refl _) rfl rfl rfl
          -- 13: Op.move t8   [guarded: some (10, true)]
          apply Stage.step (Is _) [false, false, false, false, false, false, false, false, false, false, true] (Is.keeps _) (by kernel_rfl)
          · intro w1 h1
            simp only [List.nil_append, List.cons_append, Given]
            rintro _ rfl
            go_wp2_with fail
            exact Post.isv (Ext.refl _) rfl rfl rfl
          -- 14: Op.binOp BinOp.add 3 t50 t51 3   [guarded: some (10, true)]
          apply Stage.step (Is _) [false, false, false, false, false, false, false, false, false, false, true, false, true, true] (Is.keeps _) (by kernel_rfl)
          · intro w1 h1
            simp only [List.nil_append, List.cons_append, Given]
            rintro _ rfl
            rintro _ rfl
            rintro _ rfl
            go_wp2_with fail
            exact Post.isv (Ext.refl _) rfl rfl rfl
          -- 15: Op.indexAddr 22 t49 t52   [guarded: some (10, true)]
          apply Stage.step (Is _) [false, false, false, false, false, false, false, false, false, false, true, true, false, false, true] (Is.keeps _) (by kernel_rfl)
          · intro w1 h1
            simp only [List.nil_append, List.cons_append, Given]
            rintro _ rfl
            rintro _ rfl
            rintro _ rfl
            go_wp2_with fail
            exact Post.isv (Ext.refl _) rfl rfl rfl
          -- 16: Op.load 5 t53   [guarded: some (10, true)]
          apply Stage.step (Is _) [false, false, false, false, false, false, false, false, false, false, true, false, false, false, false, true] (Is.keeps _) (by kernel_rfl)
          · intro w1 h1
            simp only [List.nil_append, List.cons_append, Given]
            rintro _ rfl
            rintro _ rfl
            have hq := h1.cell ax
            go_wp2_with fail
            exact Post.isv (Ext.refl _) rfl rfl rfl
          -- 17: Op.move t1   [guarded: some (10, true)]
          apply Stage.step (Is _) [false, false, false, false, false, false, false, false, false, false, true] (Is.keeps _) (by kernel_rfl)
          · intro w1 h1
            simp only [List.nil_append, List.cons_append, Given]
            rintro _ rfl
            go_wp2_with fail
            exact Post.isv (Ext.refl _) rfl rfl rfl
          -- 18: Op.move t7   [guarded: some (10, true)]
          apply Stage.step (Is _) [false, false, false, false, false, false, false, false, false, false, true] (Is.keeps _) (by kernel_rfl)
          · intro w1 h1
            simp only [List.nil_append, List.cons_append, Given]
            rintro _ rfl
            go_wp2_with fail
            exact Post.isv (Ext.refl _) rfl rfl rfl
          -- 19: Op.move t8   [guarded: some (10, true)]
          apply Stage.step (Is _) [false, false, false, false, false, false, false, false, false, false, true] (Is.keeps _) (by kernel_rfl)
          · intro w1 h1
            simp only [List.nil_append, List.cons_append, Given]
            rintro _ rfl
            go_wp2_with fail
            exact Post.isv (Ext.refl _) rfl rfl rfl
          -- 20: Op.binOp BinOp.add 3 t56 t57 3   [guarded: some (10, true)]
          apply Stage.step (Is _) [false, false, false, false, false, false, false, false, false, false, true, false, false, false, false, false, false, false, true, true] (Is.keeps _) (by kernel_rfl)
          · intro w1 h1
            simp only [List.nil_append, List.cons_append, Given]
            rintro _ rfl
            rintro _ rfl
            rintro _ rfl
            go_wp2_with fail
            exact Post.isv (Ext.refl _) rfl rfl rfl
          -- 21: Op.indexAddr 22 t55 t58   [guarded: some (10, true)]
          apply Stage.step (Is _) [false, false, false, false, false, false, false, false, false, false, true, false, false, false, false, false, false, true, false, false, true] (Is.keeps _) (by kernel_rfl)
          · intro w1 h1
            simp only [List.nil_append, List.cons_append, Given]
            rintro _ rfl
            rintro _ rfl
            rintro _ rfl
            go_wp2_with fail
            exact Post.isv (Ext.refl _) rfl rfl rfl
          -- 22: Op.load 5 t59   [guarded: some (10, true)]
          apply Stage.step (Is _) [false, false, false, false, false, false, false, false, false, false, true, false, false, false, false, false, false, false, false, false, false, true] (Is.keeps _) (by kernel_rfl)
          · intro w1 h1
            simp only [List.nil_append, List.cons_append, Given]
            rintro _ rfl
            rintro _ rfl
            have hq := h1.cell ab
            go_wp2_with fail
            exact Post.isv (Ext.refl _) rfl rfl rfl
          -- 23: Op.binOp BinOp.neq 5 t54 t60 5   [guarded: some (10, true)]
          apply Stage.step (Is _) [false, false, false, false, false, false, false, false, false, false, true, false, false, false, false, false, true, false, false, false, false, false, true] (Is.keeps _) (by kernel_rfl)
          · intro w1 h1
            simp only [List.nil_append, List.cons_append, Given]
            rintro _ rfl
            rintro _ rfl
            rintro _ rfl
            go_wp2_with fail
            exact Post.isv (Ext.refl _) rfl rfl rfl
          -- 24: Op.pick t48 t61 (const (Value.bool false))
          apply Stage.step (Is _) [false, false, false, false, false, false, false, false, false, false, true, false, false, false, false, false, false, false, false, false, false, false, false, true] (Is.keeps _) (by kernel_rfl)
          · intro w1 h1
            simp only [List.nil_append, List.cons_append, Given]
            rintro _ rfl
            rintro _ rfl
            go_wp2_with fail
            exact Post.isv (Ext.refl _) rfl rfl rfl
          apply Stage.nil
          intro w1 h1
          simp only [List.nil_append, List.cons_append]
          refine Fin.is_ ?_
          refine Fin.is_ ?_
          refine Fin.is_ ?_
          refine Fin.is_ ?_
          refine Fin.is_ ?_
          refine Fin.is_ ?_
          refine Fin.is_ ?_
          refine Fin.is_ ?_
          refine Fin.is_ ?_
          refine Fin.is_ ?_
          refine Fin.is_ ?_
          refine Fin.is_ ?_
          refine Fin.is_ ?_
          refine Fin.is_ ?_
          refine Fin.is_ ?_
          refine Fin.is_ ?_
          refine Fin.is_ ?_
          refine Fin.is_ ?_
          refine Fin.is_ ?_
          refine Fin.is_ ?_
          refine Fin.is_ ?_
          refine Fin.is_ ?_
          refine Fin.is_ ?_
          refine Fin.is_ ?_
          refine Fin.is_ ?_
          refine Fin.nil_ ?_
          go_simp
          go_wp2_with fail
          go_roundw
          case rel => exact ⟨j + 1, by omega, by go_num, hy.trans h1⟩
          case measure => simp [intOf]; omega
        obtain rfl : N = j := by omega
        by_cases hkN : k + N < nb
        case neg =>
          have q2 : decide ((k : Int) + (N : Int) < (nb : Int)) = false := by simp; omega
          have q2' : decide (k + N < nb) = false := by simp; omega
          go_wp2_with fail
          refine wp_region_typed Ext.steady rfl 102 rfl (by kernel_rfl) ?_
          -- 0: Op.move t7
          apply Stage.step (Is _) [] (Is.keeps _) (by kernel_rfl)
          · intro w1 h1
            simp only [Given]
            go_wp2_with fail
            exact Post.isv (Ext.refl _) rfl rfl rfl
          -- 1: Op.move t8
          apply Stage.step (Is _) [] (Is.keeps _) (by kernel_rfl)
          · intro w1 h1
            simp only [Given]
            go_wp2_with fail
            exact Post.isv (Ext.refl _) rfl rfl rfl
          -- 2: Op.binOp BinOp.add 3 t38 t39 3
          apply Stage.step (Is _) [true, true] (Is.keeps _) (by kernel_rfl)
          · intro w1 h1
            simp only [List.nil_append, List.cons_append, Given]
            rintro _ rfl
            rintro _ rfl
            go_wp2_with fail
            exact Post.isv (Ext.refl _) rfl rfl rfl
          -- 3: Op.move t1
          apply Stage.step (Is _) [] (Is.keeps _) (by kernel_rfl)
          · intro w1 h1
            simp only [Given]
            go_wp2_with fail
            exact Post.isv (Ext.refl _) rfl rfl rfl
          -- 4: Op.call { builtin len, args := #[t41], argTypes := #[22] }
          apply Stage.step (Is _) [false, false, false, true] (Is.keeps _) (by kernel_rfl)
          · intro w1 h1
            simp only [List.nil_append, List.cons_append, Given]
            rintro _ rfl
            go_wp2_with fail
            exact Post.isv (Ext.refl _) rfl rfl rfl
          -- 5: Op.binOp BinOp.lss 3 t40 t42 3
          apply Stage.step (Is _) [false, false, true, false, true] (Is.keeps _) (by kernel_rfl)
          · intro w1 h1
            simp only [List.nil_append, List.cons_append, Given]
            rintro _ rfl
            rintro _ rfl
            go_wp2_with fail
            exact Post.isv (Ext.refl _) rfl rfl rfl
          -- 6: Op.move t43
          apply Stage.step (Is _) [false, false, false, false, false, true] (Is.keeps _) (by kernel_rfl)
          · intro w1 h1
            simp only [List.nil_append, List.cons_append, Given]
            rintro _ rfl
            go_wp2_with fail
            exact Post.isv (Ext.refl _) rfl rfl rfl
          -- 7: Op.move t8   [guarded: some (6, true)]
          apply Stage.step (Is _) [false, false, false, false, false, false, true] (Is.keeps _) (by kernel_rfl)
          · intro w1 h1
            simp only [List.nil_append, List.cons_append, Given]
            rintro _ rfl
            go_wp2_with fail
            exact Post.isv (Ext.refl _) rfl rfl rfl
          -- 8: Op.binOp BinOp.lss 3 t45 (const (64:i64)) 3   [guarded: some (6, true)]
          apply Stage.step (Is _) [false, false, false, false, false, false, true, true] (Is.keeps _) (by kernel_rfl)
          · intro w1 h1
            simp only [List.nil_append, List.cons_append, Given]
            rintro _ rfl
            rintro _ rfl
            go_wp2_with fail
            exact Post.isv (Ext.refl _) rfl rfl rfl
          -- 9: Op.pick t44 t46 (const (Value.bool false))
          apply Stage.step (Is _) [false, false, false, false, false, false, true, false, true] (Is.keeps _) (by kernel_rfl)
          · intro w1 h1
            simp only [List.nil_append, List.cons_append, Given]
            rintro _ rfl
            rintro _ rfl
            go_wp2_with fail
            exact Post.isv (Ext.refl _) rfl rfl rfl
          -- 10: Op.move t47
          apply Stage.step (Is _) [false, false, false, false, false, false, false, false, false, true] (Is.keeps _) (by kernel_rfl)
          · intro w1 h1
            simp only [List.nil_append, List.cons_append, Given]
            rintro _ rfl
            go_wp2_with fail
            exact Post.isv (Ext.refl _) rfl rfl rfl
          -- 11: Op.move t6   [guarded: some (10, true)]
          apply Stage.step (Is _) [false, false, false, false, false, false, false, false, false, false, true] (Is.keeps _) (by kernel_rfl)
          · intro w1 h1
            simp only [List.nil_append, List.cons_append, Given]
            rintro _ rfl
            go_wp2_with fail
            exact Post.isv (Ext.refl _) rfl rfl rfl
          -- 12: Op.move t7   [guarded: some (10, true)]
          apply Stage.step (Is _) [false, false, false, false, false, false, false, false, false, false, true] (Is.keeps _) (by kernel_rfl)
          · intro w1 h1
            simp only [List.nil_append, List.cons_append, Given]
            rintro _ rfl
            go_wp2_with fail
            exact Post.isv (Ext.refl _) rfl rfl rfl
          -- 13: Op.move t8   [guarded: some (10, true)]
          apply Stage.step (Is _) [false, false, false, false, false, false, false, false, false, false, true] (Is.keeps _) (by kernel_rfl)
          · intro w1 h1
            simp only [List.nil_append, List.cons_append, Given]
            rintro _ rfl
            go_wp2_with fail
            exact Post.isv (Ext.refl _) rfl rfl rfl
          -- 14: Op.binOp BinOp.add 3 t50 t51 3   [guarded: some (10, true)]
          apply Stage.step (Is _) [false, false, false, false, false, false, false, false, false, false, true, false, true, true] (Is.keeps _) (by kernel_rfl)
          · intro w1 h1
            simp only [List.nil_append, List.cons_append, Given]
            rintro _ rfl
            rintro _ rfl
            rintro _ rfl
            go_wp2_with fail
            exact Post.isv (Ext.refl _) rfl rfl rfl
          -- 15: Op.indexAddr 22 t49 t52   [guarded: some (10, true)]
          apply Stage.step (Is _) [false, false, false, false, false, false, false, false, false, false, true, true, false, false, true] (Is.keeps _) (by kernel_rfl)
          · intro w1 h1
            simp only [List.nil_append, List.cons_append, Given]
            rintro _ rfl
            rintro _ rfl
            rintro _ rfl
            go_wp2_with fail
            exact Post.isv (Ext.refl _) rfl rfl rfl
          -- 16: Op.load 5 t53   [guarded: some (10, true)]
          apply Stage.step (Is _) [false, false, false, false, false, false, false, false, false, false, true, false, false, false, false, true] (Is.keeps _) (by kernel_rfl)
          · intro w1 h1
            simp only [List.nil_append, List.cons_append, Given]
            rintro _ rfl
            rintro _ rfl
            skip
            go_wp2_with fail
            exact Post.isv (Ext.refl _) rfl rfl rfl
          -- 17: Op.move t1   [guarded: some (10, true)]
          apply Stage.step (Is _) [false, false, false, false, false, false, false, false, false, false, true] (Is.keeps _) (by kernel_rfl)
          · intro w1 h1
            simp only [List.nil_append, List.cons_append, Given]
            rintro _ rfl
            go_wp2_with fail
            exact Post.isv (Ext.refl _) rfl rfl rfl
          -- 18: Op.move t7   [guarded: some (10, true)]
          apply Stage.step (Is _) [false, false, false, false, false, false, false, false, false, false, true] (Is.keeps _) (by kernel_rfl)
          · intro w1 h1
            simp only [List.nil_append, List.cons_append, Given]
            rintro _ rfl
            go_wp2_with fail
            exact Post.isv (Ext.refl _) rfl rfl rfl
          -- 19: Op.move t8   [guarded: some (10, true)]
          apply Stage.step (Is _) [false, false, false, false, false, false, false, false, false, false, true] (Is.keeps _) (by kernel_rfl)
          · intro w1 h1
            simp only [List.nil_append, List.cons_append, Given]
            rintro _ rfl
            go_wp2_with fail
            exact Post.isv (Ext.refl _) rfl rfl rfl
          -- 20: Op.binOp BinOp.add 3 t56 t57 3   [guarded: some (10, true)]
          apply Stage.step (Is _) [false, false, false, false, false, false, false, false, false, false, true, false, false, false, false, false, false, false, true, true] (Is.keeps _) (by kernel_rfl)
          · intro w1 h1
            simp only [List.nil_append, List.cons_append, Given]
            rintro _ rfl
            rintro _ rfl
            rintro _ rfl
            go_wp2_with fail
            exact Post.isv (Ext.refl _) rfl rfl rfl
          -- 21: Op.indexAddr 22 t55 t58   [guarded: some (10, true)]
          apply Stage.step (Is _) [false, false, false, false, false, false, false, false, false, false, true, false, false, false, false, false, false, true, false, false, true] (Is.keeps _) (by kernel_rfl)
          · intro w1 h1
            simp only [List.nil_append, List.cons_append, Given]
            rintro _ rfl
            rintro _ rfl
            rintro _ rfl
            go_wp2_with fail
            exact Post.isv (Ext.refl _) rfl rfl rfl
          -- 22: Op.load 5 t59   [guarded: some (10, true)]
          apply Stage.step (Is _) [false, false, false, false, false, false, false, false, false, false, true, false, false, false, false, false, false, false, false, false, false, true] (Is.keeps _) (by kernel_rfl)
          · intro w1 h1
            simp only [List.nil_append, List.cons_append, Given]
            rintro _ rfl
            rintro _ rfl
            skip
            go_wp2_with fail
            exact Post.isv (Ext.refl _) rfl rfl rfl
          -- 23: Op.binOp BinOp.neq 5 t54 t60 5   [guarded: some (10, true)]
          apply Stage.step (Is _) [false, false, false, false, false, false, false, false, false, false, true, false, false, false, false, false, true, false, false, false, false, false, true] (Is.keeps _) (by kernel_rfl)
          · intro w1 h1
            simp only [List.nil_append, List.cons_append, Given]
            rintro _ rfl
            rintro _ rfl
            rintro _ rfl
            go_wp2_with fail
            exact Post.isv (Ext.refl _) rfl rfl rfl
          -- 24: Op.pick t48 t61 (const (Value.bool false))
          apply Stage.step (Is _) [false, false, false, false, false, false, false, false, false, false, true, false, false, false, false, false, false, false, false, false, false, false, false, true] (Is.keeps _) (by kernel_rfl)
          · intro w1 h1
            simp only [List.nil_append, List.cons_append, Given]
            rintro _ rfl
            rintro _ rfl
            go_wp2_with fail
            exact Post.isv (Ext.refl _) rfl rfl rfl
          apply Stage.nil
          intro w1 h1
          simp only [List.nil_append, List.cons_append]
          refine Fin.is_ ?_
          refine Fin.is_ ?_
          refine Fin.is_ ?_
          refine Fin.is_ ?_
          refine Fin.is_ ?_
          refine Fin.is_ ?_
          refine Fin.is_ ?_
          refine Fin.is_ ?_
          refine Fin.is_ ?_
          refine Fin.is_ ?_
          refine Fin.is_ ?_
          refine Fin.is_ ?_
          refine Fin.is_ ?_
          refine Fin.is_ ?_
          refine Fin.is_ ?_
          refine Fin.is_ ?_
          refine Fin.is_ ?_
          refine Fin.is_ ?_
          refine Fin.is_ ?_
          refine Fin.is_ ?_
          refine Fin.is_ ?_
          refine Fin.is_ ?_
          refine Fin.is_ ?_
          refine Fin.is_ ?_
          refine Fin.is_ ?_
          refine Fin.nil_ ?_
          go_simp
          replace hy := hy.trans h1
          clear h1
          by_cases hN0 : N = 0
          · subst hN0
            have hpp : x.getD k 0 = b.getD k 0 := by
              by_cases e : x.getD k 0 = b.getD k 0
              · exact e
              · have := runF_pos64 (x := x) (b := b) (i := k) (by omega) e
                rw [HRN.out] at this
                omega
            have HN := hrk.out
            rw [way_same (by omega) hpp] at HN
            have HN := Lib.hid HN
            clear hpp hrk
            go_wp2_with fail
            go_roundw
            case rel => exact ⟨k + 1, m, Ak, ck, out, by omega, by omega, rfl, by go_num, hown.ext (fr_rep ev_rep w.heap.size) hy, hbk.ext hy, hne, HN, hxr.trans hy⟩
            case measure => simp [intOf]; omega
          · have hpp : x.getD k 0 ≠ b.getD k 0 := fun e => hN0 (by rw [← HRN.out]; exact runF_no fun _ => e)
            have HN := hrk.out
            rw [way_diff (by omega) hpp, HRN.out] at HN
            have HN := Lib.hid HN
            have qN : ((N : Int) == 0) = false := by simp; omega
            have hN1 : 1 ≤ N := by omega
            have hown1 := hown.ext (fr_rep ev_rep w.heap.size) hy
            have hbk1 := hbk.ext hy
            have hxr1 := hxr.trans hy
            clear hpp hrk hN0
            obtain ⟨p, hp⟩ : ∃ p, (b.drop k).take N = p := ⟨_, rfl⟩
            have hpl : p.length = N := by rw [← hp, List.length_take, List.length_drop]; omega
            have HP := Lib.hid hp
            have z0 := evTo_zero k N p
            have c0 : (w1.alloc (.cells #[.int .i64 3, .int .i64 k, .int .i64 N, .slice none 0 0, .string ⟨#[]⟩] TEv)).cell? ⟨w1.heap.size, 0, none⟩ = some (.int .i64 3) := cell_new w1 _ _ 0
            have c1 : (w1.alloc (.cells #[.int .i64 3, .int .i64 k, .int .i64 N, .slice none 0 0, .string ⟨#[]⟩] TEv)).cell? ⟨w1.heap.size, 1, none⟩ = some (.int .i64 k) := cell_new w1 _ _ 1
            have c2 : (w1.alloc (.cells #[.int .i64 3, .int .i64 k, .int .i64 N, .slice none 0 0, .string ⟨#[]⟩] TEv)).cell? ⟨w1.heap.size, 2, none⟩ = some (.int .i64 N) := cell_new w1 _ _ 2
            have c3 : (w1.alloc (.cells #[.int .i64 3, .int .i64 k, .int .i64 N, .slice none 0 0, .string ⟨#[]⟩] TEv)).cell? ⟨w1.heap.size, 3, none⟩ = some (.slice none 0 0) := cell_new w1 _ _ 3
            have c4 : (w1.alloc (.cells #[.int .i64 3, .int .i64 k, .int .i64 N, .slice none 0 0, .string ⟨#[]⟩] TEv)).cell? ⟨w1.heap.size, 4, none⟩ = some (.string ⟨#[]⟩) := cell_new w1 _ _ 4
            have f0 : ∀ q, (w1.alloc (.cells #[.int .i64 3, .int .i64 k, .int .i64 N, .slice none 0 0, .string ⟨#[]⟩] TEv)).frozen? ⟨w1.heap.size, q, none⟩ = false := fun q => fr_newD w1 _ _ q
            have hs0 : w1.heap.size < (w1.alloc (.cells #[.int .i64 3, .int .i64 k, .int .i64 N, .slice none 0 0, .string ⟨#[]⟩] TEv)).heap.size := by simp
            have hg0 := Ext.alloc w1 (.cells #[.int .i64 3, .int .i64 k, .int .i64 N, .slice none 0 0, .string ⟨#[]⟩] TEv)
            have hb1 := hb.ext hxr1
            clear hp
            go_wp2_with fail
            go_loopw [10] (fun i wr => ∃ (j : Nat) (A7 : Option Addr) (n7 c7 : Nat), j ≤ N ∧ i = .int .i64 j ∧ wr.cell? ⟨w1.heap.size, 0, none⟩ = some (.int .i64 (evTo k N p j).k) ∧ wr.cell? ⟨w1.heap.size, 1, none⟩ = some (.int .i64 (evTo k N p j).o) ∧ wr.cell? ⟨w1.heap.size, 2, none⟩ = some (.int .i64 (evTo k N p j).m) ∧ wr.cell? ⟨w1.heap.size, 3, none⟩ = some (.slice A7 n7 c7) ∧ wr.cell? ⟨w1.heap.size, 4, none⟩ = some (.string (evTo k N p j).s) ∧ Fsl wr w1.heap.size A7 n7 c7 (evTo k N p j).l ∧ (∀ q, wr.frozen? ⟨w1.heap.size, q, none⟩ = false) ∧ w1.heap.size < wr.heap.size ∧ Ext w1 wr) (fun i _ => N - (intOf i).toNat)
            case atStart => exact ⟨0, none, 0, 0, by omega, rfl, by rw [z0]; exact c0, by rw [z0]; exact c1, by rw [z0]; exact c2, c3, by rw [z0]; exact c4, by rw [z0]; exact Fsl.nil _ _, f0, hs0, hg0⟩
            case round =>
              obtain ⟨j, A7, n7, c7, hj, rfl, d0, d1, d2, d3, d4, h7, ff, hsz, hz⟩ := hrel
              clear c0 c1 c2 c3 c4 f0 hs0 hg0 z0
              by_cases hjN : j < N
              · have hkj : k + j < nb := by omega
                obtain ⟨gb, ob, e2, ab⟩ := hb.at2 hkj
                cases e2
                replace ab := hz.cell (hxr1.cell ab)
                have hpb : p.getD j 0 = b.getD (k + j) 0 := by
                  rw [← HP.out]
                  simp only [List.getD_eq_getElem?_getD, List.getElem?_take, List.getElem?_drop]
                  rw [if_pos hjN]
                obtain ⟨pb, hpb2⟩ : ∃ q, b.getD (k + j) 0 = q := ⟨_, rfl⟩
                rw [hpb2] at ab hpb
                by_cases hz0 : pb = 0
                · have he := evTo_same (k := k) (N := N) (p := p) (j := j) (by omega) (by rw [hpb]; exact hz0)
                  rw [← he] at d0 d1 d2 d4 h7
                  have q1 : ((pb.toNat : Int) != 0) = false := by rw [hz0]; rfl
                  clear he hpb hpb2 hz0
                  go_wp2_with fail
                  go_roundw
                  case rel => exact ⟨j + 1, A7, n7, c7, by omega, by go_num, d0, d1, d2, d3, d4, h7, ff, hsz, hz⟩
                  case measure => simp [intOf]; omega
                · have he := evTo_other (k := k) (N := N) (p := p) (j := j) (by omega) (by rw [hpb]; exact hz0)
                  have q1 : ((pb.toNat : Int) != 0) = true := by
                    have : pb.toNat ≠ 0 := fun e => hz0 (UInt8.toNat_inj.1 e)
                    simp; omega
                  have hbz := hb1.ext hz
                  obtain ⟨A9, c9, hcut, l9⟩ := cut_mid hbz k N (k : Int) ((k : Int) + (N : Int)) rfl (by omega) hNb
                  rw [HP.out] at l9
                  obtain ⟨j0, hj0, hy0, hy1, hy2⟩ := info_parts info_u8
                  clear hpb hpb2 hz0
                  go_wp2_with (at_builtin; refine wpList_append_mine _ rfl _ _ _ _ rfl (w1.heap.size + 1) U8 j0 _ 1 1 under_bytes hj0 hy0 hy1 hy2 rfl _ 0 0 _ rfl (Own.nil _ _ _ _ _) _ rfl N (p.map bv) ((l9.ext (Ext.alloc _ _)).src under_bytes) (by simp only [maxLen]; omega) (by omega) (Nat.le_trans hsz (Ext.alloc _ _).size) ?_; intro A6 c6 w6 hown6 hg6 _; have hb6 : Byt U8 w6 (w1.heap.size + 1) A6 N c6 p := ⟨hpl, by simpa using hown6⟩; have hx6 := (Ext.alloc _ _).trans (grown_nil hg6); have e0 := hx6.cell d0; have e1 := hx6.cell d1; have e2 := hx6.cell d2; have e3 := hx6.cell d3; have e4 := hx6.cell d4; have k0 := hx6.frozenD d0 (ff 0); have k1 := hx6.frozenD d1 (ff 1); have k2 := hx6.frozenD d2 (ff 2); have k3 := hx6.frozenD d3 (ff 3); have k4 := hx6.frozenD d4 (ff 4))
                  obtain ⟨W, hW, s0, s1, s2, s3, s4⟩ := set5 e0 e1 e2 e3 e4 (.int .i64 1) (.int .i64 k) (.int .i64 0) (.slice A6 N c6) (.string ⟨#[]⟩)
                  have hfW : ∀ q, W.frozen? ⟨w1.heap.size, q, none⟩ = false := fun q => by
                    rw [hW, set5_frozen]
                    have e : w6.frozen? ⟨w1.heap.size, q, none⟩ = wr.frozen? ⟨w1.heap.size, q, none⟩ := Below.frozen hx6 hsz
                    rw [e]
                    exact ff q
                  have hxW : Ext w1 W := by
                    rw [hW]
                    exact (((((hz.trans hx6).sets (Nat.le_refl _) _).sets (Nat.le_refl _) _).sets (Nat.le_refl _) _).sets (Nat.le_refl _) _).sets (Nat.le_refl _) _
                  have h7W : Fsl W w1.heap.size A6 N c6 p := by
                    rw [hW]
                    exact (((((hb6.fsl.sets (Nat.lt_succ_self _) _).sets (Nat.lt_succ_self _) _).sets (Nat.lt_succ_self _) _).sets (Nat.lt_succ_self _) _).sets (Nat.lt_succ_self _) _).low (Nat.le_succ _)
                  have hsW : w1.heap.size < W.heap.size := by
                    have := hx6.size
                    rw [hW]
                    simp [World.setCell]
                    omega
                  rw [← hW]
                  go_roundw
                  case rel => exact ⟨j + 1, A6, N, c6, by omega, by go_num, by rw [he]; exact s0, by rw [he]; exact s1, by rw [he]; exact s2, s3, by rw [he]; exact s4, by rw [he]; exact h7W, hfW, hsW, hxW⟩
                  case measure => simp [intOf]; omega
              · obtain rfl : N = j := by omega
                rw [evTo_end HP.out hpl] at d0 d1 d2 d4 h7
                obtain ⟨ek, eo, em, el, es, hE⟩ : ∃ ek eo em el es, evAt b k N = ⟨ek, eo, em, el, es⟩ := ⟨_, _, _, _, _, rfl⟩
                have hEs : es.size ≤ maxLen := by
                  have : es = (evAt b k N).s := by rw [hE]
                  rw [this]
                  unfold evAt
                  split <;> exact Nat.zero_le _
                rw [hE] at d0 d1 d2 d4 h7 HN
                simp only at d0 d1 d2 d4 h7
                have hown3 := hown1.ext (fr_rep ev_rep w.heap.size) hz
                have hfd := Feed.lit (P := Try.prog) (e := 28) (tx := 23) (A := Ak) (c := ck) (fr_rep ev_rep w.heap.size) #[.int .i64 ek, .int .i64 eo, .int .i64 em, .slice A7 n7 c7, .string es] ⟨ek, eo, em, el, es⟩ ⟨⟨A7, n7, c7, rfl, h7.sl, hEs⟩, fun j hj => by
                  obtain ⟨ad, q1, q2, q3⟩ := pts_ev hj
                  have h4 := h7.fr ad q1 q2
                  have h5 := hxr1.size
                  omega⟩ under_evs (fun j hj e => by
                  obtain ⟨ad, q1, q2, q3⟩ := pts_ev hj
                  have h4 := h7.fr ad q1 q2
                  have h5 := (hown1.row_lt j e).2
                  omega) rfl
                have hx9 := hxr1.trans hz
                clear hE ff
                go_wp2_with (
                  at_builtin
                  refine wpList_append_lst3 (w0 := w) (fr_rep ev_rep w.heap.size) rfl _ _ _ _ rfl TEv i0 _ 64 under_evs hi0 hz0 hz1 hz2 rfl Ak m ck _ rfl (hown3.ext (fr_rep ev_rep w.heap.size) (Ext.alloc _ _)) _ 1 [⟨ek, eo, em, el, es⟩] rfl hfd (m + 1) rfl _ rfl (by simp only [maxLen]; omega) (by omega) (hx9.allocs _) ?_
                  intro A3 c3 w5 hb5 hx5 hg5 hr5)
                have hbk4 := (hbk1.ext hz).ext (Ext.alloc wr (.cells #[.int .i64 ek, .int .i64 eo, .int .i64 em, .slice A7 n7 c7, .string es] TEv))
                have hbk5 : Byt U8 w5 w.heap.size As nb cs x := ⟨hbk4.len, hbk4.own.grown hg5 fun g hg e => hne.out g hg e.symm⟩
                have hne5 : Hid (∀ g, rowOf As cs = some g → rowOf A3 c3 ≠ some g) := fun g hg e => by
                  rcases hr5 with hr5 | hr5
                  · rw [hr5] at e; exact hne.out g hg e
                  · rw [hr5] at e
                    have h8 := ((hbk1.ext hz).own.row_ge g hg).2
                    simp at e
                    omega
                have HN2 : Hid ((out ++ [⟨ek, eo, em, el, es⟩]) ++ wayL x b (k + N) = R) := by unfold Hid; rw [List.append_assoc]; exact HN.out
                go_wp2_with fail
                go_roundw
                case rel => exact ⟨k + N, m + 1, A3, c3, _, by omega, by omega, rfl, by go_num, hb5, hbk5, hne5, HN2, hx5⟩
                case measure => simp [intOf]; omega
        have q2 : decide ((k : Int) + (N : Int) < (nb : Int)) = true := by simp; omega
        have q2' : decide (k + N < nb) = true := by simp; omega
        by_cases hN4 : N < 64
        case neg =>
          have q3 : decide ((N : Int) < 64) = false := by simp; omega
          have q3' : decide (N < 64) = false := by simp; omega
          go_wp2_with fail
          refine wp_region_typed Ext.steady rfl 102 rfl (by kernel_rfl) ?_
          -- 0: Op.move t7
          apply Stage.step (Is _) [] (Is.keeps _) (by kernel_rfl)
          · intro w1 h1
            simp only [Given]
            go_wp2_with fail
            exact Post.isv (Ext.refl _) rfl rfl rfl
          -- 1: Op.move t8
          apply Stage.step (Is _) [] (Is.keeps _) (by kernel_rfl)
          · intro w1 h1
            simp only [Given]
            go_wp2_with fail
            exact Post.isv (Ext.refl _) rfl rfl rfl
          -- 2: Op.binOp BinOp.add 3 t38 t39 3
          apply Stage.step (Is _) [true, true] (Is.keeps _) (by kernel_rfl)
          · intro w1 h1
            simp only [List.nil_append, List.cons_append, Given]
            rintro _ rfl
            rintro _ rfl
            go_wp2_with fail
            exact Post.isv (Ext.refl _) rfl rfl rfl
          -- 3: Op.move t1
          apply Stage.step (Is _) [] (Is.keeps _) (by kernel_rfl)
          · intro w1 h1
            simp only [Given]
            go_wp2_with fail
            exact Post.isv (Ext.refl _) rfl rfl rfl
          -- 4: Op.call { builtin len, args := #[t41], argTypes := #[22] }
          apply Stage.step (Is _) [false, false, false, true] (Is.keeps _) (by kernel_rfl)
          · intro w1 h1
            simp only [List.nil_append, List.cons_append, Given]
            rintro _ rfl
            go_wp2_with fail
            exact Post.isv (Ext.refl _) rfl rfl rfl
          -- 5: Op.binOp BinOp.lss 3 t40 t42 3
          apply Stage.step (Is _) [false, false, true, false, true] (Is.keeps _) (by kernel_rfl)
          · intro w1 h1
            simp only [List.nil_append, List.cons_append, Given]
            rintro _ rfl
            rintro _ rfl
            go_wp2_with fail
            exact Post.isv (Ext.refl _) rfl rfl rfl
          -- 6: Op.move t43
          apply Stage.step (Is _) [false, false, false, false, false, true] (Is.keeps _) (by kernel_rfl)
          · intro w1 h1
            simp only [List.nil_append, List.cons_append, Given]
            rintro _ rfl
            go_wp2_with fail
            exact Post.isv (Ext.refl _) rfl rfl rfl
          -- 7: Op.move t8   [guarded: some (6, true)]
          apply Stage.step (Is _) [false, false, false, false, false, false, true] (Is.keeps _) (by kernel_rfl)
          · intro w1 h1
            simp only [List.nil_append, List.cons_append, Given]
            rintro _ rfl
            go_wp2_with fail
            exact Post.isv (Ext.refl _) rfl rfl rfl
          -- 8: Op.binOp BinOp.lss 3 t45 (const (64:i64)) 3   [guarded: some (6, true)]
          apply Stage.step (Is _) [false, false, false, false, false, false, true, true] (Is.keeps _) (by kernel_rfl)
          · intro w1 h1
            simp only [List.nil_append, List.cons_append, Given]
            rintro _ rfl
            rintro _ rfl
            go_wp2_with fail
            exact Post.isv (Ext.refl _) rfl rfl rfl
          -- 9: Op.pick t44 t46 (const (Value.bool false))
          apply Stage.step (Is _) [false, false, false, false, false, false, true, false, true] (Is.keeps _) (by kernel_rfl)
          · intro w1 h1
            simp only [List.nil_append, List.cons_append, Given]
            rintro _ rfl
            rintro _ rfl
            go_wp2_with fail
            exact Post.isv (Ext.refl _) rfl rfl rfl
          -- 10: Op.move t47
          apply Stage.step (Is _) [false, false, false, false, false, false, false, false, false, true] (Is.keeps _) (by kernel_rfl)
          · intro w1 h1
            simp only [List.nil_append, List.cons_append, Given]
            rintro _ rfl
            go_wp2_with fail
            exact Post.isv (Ext.refl _) rfl rfl rfl
          -- 11: Op.move t6   [guarded: some (10, true)]
          apply Stage.step (Is _) [false, false, false, false, false, false, false, false, false, false, true] (Is.keeps _) (by kernel_rfl)
          · intro w1 h1
            simp only [List.nil_append, List.cons_append, Given]
            rintro _ rfl
            go_wp2_with fail
            exact Post.isv (Ext.refl _) rfl rfl rfl
          -- 12: Op.move t7   [guarded: some (10, true)]
          apply Stage.step (Is _) [false, false, false, false, false, false, false, false, false, false, true] (Is.keeps _) (by kernel_rfl)
          · intro w1 h1
            simp only [List.nil_append, List.cons_append, Given]
            rintro _ rfl
            go_wp2_with fail
            exact Post.isv (Ext.refl _) rfl rfl rfl
          -- 13: Op.move t8   [guarded: some (10, true)]
          apply Stage.step (Is _) [false, false, false, false, false, false, false, false, false, false, true] (Is.keeps _) (by kernel_rfl)
          · intro w1 h1
            simp only [List.nil_append, List.cons_append, Given]
            rintro _ rfl
            go_wp2_with fail
            exact Post.isv (Ext.refl _) rfl rfl rfl
          -- 14: Op.binOp BinOp.add 3 t50 t51 3   [guarded: some (10, true)]
          apply Stage.step (Is _) [false, false, false, false, false, false, false, false, false, false, true, false, true, true] (Is.keeps _) (by kernel_rfl)
          · intro w1 h1
            simp only [List.nil_append, List.cons_append, Given]
            rintro _ rfl
            rintro _ rfl
            rintro _ rfl
            go_wp2_with fail
            exact Post.isv (Ext.refl _) rfl rfl rfl
          -- 15: Op.indexAddr 22 t49 t52   [guarded: some (10, true)]
          apply Stage.step (Is _) [false, false, false, false, false, false, false, false, false, false, true, true, false, false, true] (Is.keeps _) (by kernel_rfl)
          · intro w1 h1
            simp only [List.nil_append, List.cons_append, Given]
            rintro _ rfl
            rintro _ rfl
            rintro _ rfl
            go_wp2_with fail
            exact Post.isv (Ext.refl _) rfl rfl rfl
          -- 16: Op.load 5 t53   [guarded: some (10, true)]
          apply Stage.step (Is _) [false, false, false, false, false, false, false, false, false, false, true, false, false, false, false, true] (Is.keeps _) (by kernel_rfl)
          · intro w1 h1
            simp only [List.nil_append, List.cons_append, Given]
            rintro _ rfl
            rintro _ rfl
            skip
            go_wp2_with fail
            exact Post.isv (Ext.refl _) rfl rfl rfl
          -- 17: Op.move t1   [guarded: some (10, true)]
          apply Stage.step (Is _) [false, false, false, false, false, false, false, false, false, false, true] (Is.keeps _) (by kernel_rfl)
          · intro w1 h1
            simp only [List.nil_append, List.cons_append, Given]
            rintro _ rfl
            go_wp2_with fail
            exact Post.isv (Ext.refl _) rfl rfl rfl
          -- 18: Op.move t7   [guarded: some (10, true)]
          apply Stage.step (Is _) [false, false, false, false, false, false, false, false, false, false, true] (Is.keeps _) (by kernel_rfl)
          · intro w1 h1
            simp only [List.nil_append, List.cons_append, Given]
            rintro _ rfl
            go_wp2_with fail
            exact Post.isv (Ext.refl _) rfl rfl rfl
          -- 19: Op.move t8   [guarded: some (10, true)]
          apply Stage.step (Is _) [false, false, false, false, false, false, false, false, false, false, true] (Is.keeps _) (by kernel_rfl)
          · intro w1 h1
            simp only [List.nil_append, List.cons_append, Given]
            rintro _ rfl
            go_wp2_with fail
            exact Post.isv (Ext.refl _) rfl rfl rfl
          -- 20: Op.binOp BinOp.add 3 t56 t57 3   [guarded: some (10, true)]
          apply Stage.step (Is _) [false, false, false, false, false, false, false, false, false, false, true, false, false, false, false, false, false, false, true, true] (Is.keeps _) (by kernel_rfl)
          · intro w1 h1
            simp only [List.nil_append, List.cons_append, Given]
            rintro _ rfl
            rintro _ rfl
            rintro _ rfl
            go_wp2_with fail
            exact Post.isv (Ext.refl _) rfl rfl rfl
          -- 21: Op.indexAddr 22 t55 t58   [guarded: some (10, true)]
          apply Stage.step (Is _) [false, false, false, false, false, false, false, false, false, false, true, false, false, false, false, false, false, true, false, false, true] (Is.keeps _) (by kernel_rfl)
          · intro w1 h1
            simp only [List.nil_append, List.cons_append, Given]
            rintro _ rfl
            rintro _ rfl
            rintro _ rfl
            go_wp2_with fail
            exact Post.isv (Ext.refl _) rfl rfl rfl
          -- 22: Op.load 5 t59   [guarded: some (10, true)]
          apply Stage.step (Is _) [false, false, false, false, false, false, false, false, false, false, true, false, false, false, false, false, false, false, false, false, false, true] (Is.keeps _) (by kernel_rfl)
          · intro w1 h1
            simp only [List.nil_append, List.cons_append, Given]
            rintro _ rfl
            rintro _ rfl
            skip
            go_wp2_with fail
            exact Post.isv (Ext.refl _) rfl rfl rfl
          -- 23: Op.binOp BinOp.neq 5 t54 t60 5   [guarded: some (10, true)]
          apply Stage.step (Is _) [false, false, false, false, false, false, false, false, false, false, true, false, false, false, false, false, true, false, false, false, false, false, true] (Is.keeps _) (by kernel_rfl)
          · intro w1 h1
            simp only [List.nil_append, List.cons_append, Given]
            rintro _ rfl
            rintro _ rfl
            rintro _ rfl
            go_wp2_with fail
            exact Post.isv (Ext.refl _) rfl rfl rfl
          -- 24: Op.pick t48 t61 (const (Value.bool false))
          apply Stage.step (Is _) [false, false, false, false, false, false, false, false, false, false, true, false, false, false, false, false, false, false, false, false, false, false, false, true] (Is.keeps _) (by kernel_rfl)
          · intro w1 h1
            simp only [List.nil_append, List.cons_append, Given]
            rintro _ rfl
            rintro _ rfl
            go_wp2_with fail
            exact Post.isv (Ext.refl _) rfl rfl rfl
          apply Stage.nil
          intro w1 h1
          simp only [List.nil_append, List.cons_append]
          refine Fin.is_ ?_
          refine Fin.is_ ?_
          refine Fin.is_ ?_
          refine Fin.is_ ?_
          refine Fin.is_ ?_
          refine Fin.is_ ?_
          refine Fin.is_ ?_
          refine Fin.is_ ?_
          refine Fin.is_ ?_
          refine Fin.is_ ?_
          refine Fin.is_ ?_
          refine Fin.is_ ?_
          refine Fin.is_ ?_
          refine Fin.is_ ?_
          refine Fin.is_ ?_
          refine Fin.is_ ?_
          refine Fin.is_ ?_
          refine Fin.is_ ?_
          refine Fin.is_ ?_
          refine Fin.is_ ?_
          refine Fin.is_ ?_
          refine Fin.is_ ?_
          refine Fin.is_ ?_
          refine Fin.is_ ?_
          refine Fin.is_ ?_
          refine Fin.nil_ ?_
          go_simp
          replace hy := hy.trans h1
          clear h1
          by_cases hN0 : N = 0
          · subst hN0
            have hpp : x.getD k 0 = b.getD k 0 := by
              by_cases e : x.getD k 0 = b.getD k 0
              · exact e
              · have := runF_pos64 (x := x) (b := b) (i := k) (by omega) e
                rw [HRN.out] at this
                omega
            have HN := hrk.out
            rw [way_same (by omega) hpp] at HN
            have HN := Lib.hid HN
            clear hpp hrk
            go_wp2_with fail
            go_roundw
            case rel => exact ⟨k + 1, m, Ak, ck, out, by omega, by omega, rfl, by go_num, hown.ext (fr_rep ev_rep w.heap.size) hy, hbk.ext hy, hne, HN, hxr.trans hy⟩
            case measure => simp [intOf]; omega
          · have hpp : x.getD k 0 ≠ b.getD k 0 := fun e => hN0 (by rw [← HRN.out]; exact runF_no fun _ => e)
            have HN := hrk.out
            rw [way_diff (by omega) hpp, HRN.out] at HN
            have HN := Lib.hid HN
            have qN : ((N : Int) == 0) = false := by simp; omega
            have hN1 : 1 ≤ N := by omega
            have hown1 := hown.ext (fr_rep ev_rep w.heap.size) hy
            have hbk1 := hbk.ext hy
            have hxr1 := hxr.trans hy
            clear hpp hrk hN0
            obtain ⟨p, hp⟩ : ∃ p, (b.drop k).take N = p := ⟨_, rfl⟩
            have hpl : p.length = N := by rw [← hp, List.length_take, List.length_drop]; omega
            have HP := Lib.hid hp
            have z0 := evTo_zero k N p
            have c0 : (w1.alloc (.cells #[.int .i64 3, .int .i64 k, .int .i64 N, .slice none 0 0, .string ⟨#[]⟩] TEv)).cell? ⟨w1.heap.size, 0, none⟩ = some (.int .i64 3) := cell_new w1 _ _ 0
            have c1 : (w1.alloc (.cells #[.int .i64 3, .int .i64 k, .int .i64 N, .slice none 0 0, .string ⟨#[]⟩] TEv)).cell? ⟨w1.heap.size, 1, none⟩ = some (.int .i64 k) := cell_new w1 _ _ 1
            have c2 : (w1.alloc (.cells #[.int .i64 3, .int .i64 k, .int .i64 N, .slice none 0 0, .string ⟨#[]⟩] TEv)).cell? ⟨w1.heap.size, 2, none⟩ = some (.int .i64 N) := cell_new w1 _ _ 2
            have c3 : (w1.alloc (.cells #[.int .i64 3, .int .i64 k, .int .i64 N, .slice none 0 0, .string ⟨#[]⟩] TEv)).cell? ⟨w1.heap.size, 3, none⟩ = some (.slice none 0 0) := cell_new w1 _ _ 3
            have c4 : (w1.alloc (.cells #[.int .i64 3, .int .i64 k, .int .i64 N, .slice none 0 0, .string ⟨#[]⟩] TEv)).cell? ⟨w1.heap.size, 4, none⟩ = some (.string ⟨#[]⟩) := cell_new w1 _ _ 4
            have f0 : ∀ q, (w1.alloc (.cells #[.int .i64 3, .int .i64 k, .int .i64 N, .slice none 0 0, .string ⟨#[]⟩] TEv)).frozen? ⟨w1.heap.size, q, none⟩ = false := fun q => fr_newD w1 _ _ q
            have hs0 : w1.heap.size < (w1.alloc (.cells #[.int .i64 3, .int .i64 k, .int .i64 N, .slice none 0 0, .string ⟨#[]⟩] TEv)).heap.size := by simp
            have hg0 := Ext.alloc w1 (.cells #[.int .i64 3, .int .i64 k, .int .i64 N, .slice none 0 0, .string ⟨#[]⟩] TEv)
            have hb1 := hb.ext hxr1
            clear hp
            go_wp2_with fail
            go_loopw [10] (fun i wr => ∃ (j : Nat) (A7 : Option Addr) (n7 c7 : Nat), j ≤ N ∧ i = .int .i64 j ∧ wr.cell? ⟨w1.heap.size, 0, none⟩ = some (.int .i64 (evTo k N p j).k) ∧ wr.cell? ⟨w1.heap.size, 1, none⟩ = some (.int .i64 (evTo k N p j).o) ∧ wr.cell? ⟨w1.heap.size, 2, none⟩ = some (.int .i64 (evTo k N p j).m) ∧ wr.cell? ⟨w1.heap.size, 3, none⟩ = some (.slice A7 n7 c7) ∧ wr.cell? ⟨w1.heap.size, 4, none⟩ = some (.string (evTo k N p j).s) ∧ Fsl wr w1.heap.size A7 n7 c7 (evTo k N p j).l ∧ (∀ q, wr.frozen? ⟨w1.heap.size, q, none⟩ = false) ∧ w1.heap.size < wr.heap.size ∧ Ext w1 wr) (fun i _ => N - (intOf i).toNat)
            case atStart => exact ⟨0, none, 0, 0, by omega, rfl, by rw [z0]; exact c0, by rw [z0]; exact c1, by rw [z0]; exact c2, c3, by rw [z0]; exact c4, by rw [z0]; exact Fsl.nil _ _, f0, hs0, hg0⟩
            case round =>
              obtain ⟨j, A7, n7, c7, hj, rfl, d0, d1, d2, d3, d4, h7, ff, hsz, hz⟩ := hrel
              clear c0 c1 c2 c3 c4 f0 hs0 hg0 z0
              by_cases hjN : j < N
              · have hkj : k + j < nb := by omega
                obtain ⟨gb, ob, e2, ab⟩ := hb.at2 hkj
                cases e2
                replace ab := hz.cell (hxr1.cell ab)
                have hpb : p.getD j 0 = b.getD (k + j) 0 := by
                  rw [← HP.out]
                  simp only [List.getD_eq_getElem?_getD, List.getElem?_take, List.getElem?_drop]
                  rw [if_pos hjN]
                obtain ⟨pb, hpb2⟩ : ∃ q, b.getD (k + j) 0 = q := ⟨_, rfl⟩
                rw [hpb2] at ab hpb
                by_cases hz0 : pb = 0
                · have he := evTo_same (k := k) (N := N) (p := p) (j := j) (by omega) (by rw [hpb]; exact hz0)
                  rw [← he] at d0 d1 d2 d4 h7
                  have q1 : ((pb.toNat : Int) != 0) = false := by rw [hz0]; rfl
                  clear he hpb hpb2 hz0
                  go_wp2_with fail
                  go_roundw
                  case rel => exact ⟨j + 1, A7, n7, c7, by omega, by go_num, d0, d1, d2, d3, d4, h7, ff, hsz, hz⟩
                  case measure => simp [intOf]; omega
                · have he := evTo_other (k := k) (N := N) (p := p) (j := j) (by omega) (by rw [hpb]; exact hz0)
                  have q1 : ((pb.toNat : Int) != 0) = true := by
                    have : pb.toNat ≠ 0 := fun e => hz0 (UInt8.toNat_inj.1 e)
                    simp; omega
                  have hbz := hb1.ext hz
                  obtain ⟨A9, c9, hcut, l9⟩ := cut_mid hbz k N (k : Int) ((k : Int) + (N : Int)) rfl (by omega) hNb
                  rw [HP.out] at l9
                  obtain ⟨j0, hj0, hy0, hy1, hy2⟩ := info_parts info_u8
                  clear hpb hpb2 hz0
                  go_wp2_with (at_builtin; refine wpList_append_mine _ rfl _ _ _ _ rfl (w1.heap.size + 1) U8 j0 _ 1 1 under_bytes hj0 hy0 hy1 hy2 rfl _ 0 0 _ rfl (Own.nil _ _ _ _ _) _ rfl N (p.map bv) ((l9.ext (Ext.alloc _ _)).src under_bytes) (by simp only [maxLen]; omega) (by omega) (Nat.le_trans hsz (Ext.alloc _ _).size) ?_; intro A6 c6 w6 hown6 hg6 _; have hb6 : Byt U8 w6 (w1.heap.size + 1) A6 N c6 p := ⟨hpl, by simpa using hown6⟩; have hx6 := (Ext.alloc _ _).trans (grown_nil hg6); have e0 := hx6.cell d0; have e1 := hx6.cell d1; have e2 := hx6.cell d2; have e3 := hx6.cell d3; have e4 := hx6.cell d4; have k0 := hx6.frozenD d0 (ff 0); have k1 := hx6.frozenD d1 (ff 1); have k2 := hx6.frozenD d2 (ff 2); have k3 := hx6.frozenD d3 (ff 3); have k4 := hx6.frozenD d4 (ff 4))
                  obtain ⟨W, hW, s0, s1, s2, s3, s4⟩ := set5 e0 e1 e2 e3 e4 (.int .i64 1) (.int .i64 k) (.int .i64 0) (.slice A6 N c6) (.string ⟨#[]⟩)
                  have hfW : ∀ q, W.frozen? ⟨w1.heap.size, q, none⟩ = false := fun q => by
                    rw [hW, set5_frozen]
                    have e : w6.frozen? ⟨w1.heap.size, q, none⟩ = wr.frozen? ⟨w1.heap.size, q, none⟩ := Below.frozen hx6 hsz
                    rw [e]
                    exact ff q
                  have hxW : Ext w1 W := by
                    rw [hW]
                    exact (((((hz.trans hx6).sets (Nat.le_refl _) _).sets (Nat.le_refl _) _).sets (Nat.le_refl _) _).sets (Nat.le_refl _) _).sets (Nat.le_refl _) _
                  have h7W : Fsl W w1.heap.size A6 N c6 p := by
                    rw [hW]
                    exact (((((hb6.fsl.sets (Nat.lt_succ_self _) _).sets (Nat.lt_succ_self _) _).sets (Nat.lt_succ_self _) _).sets (Nat.lt_succ_self _) _).sets (Nat.lt_succ_self _) _).low (Nat.le_succ _)
                  have hsW : w1.heap.size < W.heap.size := by
                    have := hx6.size
                    rw [hW]
                    simp [World.setCell]
                    omega
                  rw [← hW]
                  go_roundw
                  case rel => exact ⟨j + 1, A6, N, c6, by omega, by go_num, by rw [he]; exact s0, by rw [he]; exact s1, by rw [he]; exact s2, s3, by rw [he]; exact s4, by rw [he]; exact h7W, hfW, hsW, hxW⟩
                  case measure => simp [intOf]; omega
              · obtain rfl : N = j := by omega
                rw [evTo_end HP.out hpl] at d0 d1 d2 d4 h7
                obtain ⟨ek, eo, em, el, es, hE⟩ : ∃ ek eo em el es, evAt b k N = ⟨ek, eo, em, el, es⟩ := ⟨_, _, _, _, _, rfl⟩
                have hEs : es.size ≤ maxLen := by
                  have : es = (evAt b k N).s := by rw [hE]
                  rw [this]
                  unfold evAt
                  split <;> exact Nat.zero_le _
                rw [hE] at d0 d1 d2 d4 h7 HN
                simp only at d0 d1 d2 d4 h7
                have hown3 := hown1.ext (fr_rep ev_rep w.heap.size) hz
                have hfd := Feed.lit (P := Try.prog) (e := 28) (tx := 23) (A := Ak) (c := ck) (fr_rep ev_rep w.heap.size) #[.int .i64 ek, .int .i64 eo, .int .i64 em, .slice A7 n7 c7, .string es] ⟨ek, eo, em, el, es⟩ ⟨⟨A7, n7, c7, rfl, h7.sl, hEs⟩, fun j hj => by
                  obtain ⟨ad, q1, q2, q3⟩ := pts_ev hj
                  have h4 := h7.fr ad q1 q2
                  have h5 := hxr1.size
                  omega⟩ under_evs (fun j hj e => by
                  obtain ⟨ad, q1, q2, q3⟩ := pts_ev hj
                  have h4 := h7.fr ad q1 q2
                  have h5 := (hown1.row_lt j e).2
                  omega) rfl
                have hx9 := hxr1.trans hz
                clear hE ff
                go_wp2_with (
                  at_builtin
                  refine wpList_append_lst3 (w0 := w) (fr_rep ev_rep w.heap.size) rfl _ _ _ _ rfl TEv i0 _ 64 under_evs hi0 hz0 hz1 hz2 rfl Ak m ck _ rfl (hown3.ext (fr_rep ev_rep w.heap.size) (Ext.alloc _ _)) _ 1 [⟨ek, eo, em, el, es⟩] rfl hfd (m + 1) rfl _ rfl (by simp only [maxLen]; omega) (by omega) (hx9.allocs _) ?_
                  intro A3 c3 w5 hb5 hx5 hg5 hr5)
                have hbk4 := (hbk1.ext hz).ext (Ext.alloc wr (.cells #[.int .i64 ek, .int .i64 eo, .int .i64 em, .slice A7 n7 c7, .string es] TEv))
                have hbk5 : Byt U8 w5 w.heap.size As nb cs x := ⟨hbk4.len, hbk4.own.grown hg5 fun g hg e => hne.out g hg e.symm⟩
                have hne5 : Hid (∀ g, rowOf As cs = some g → rowOf A3 c3 ≠ some g) := fun g hg e => by
                  rcases hr5 with hr5 | hr5
                  · rw [hr5] at e; exact hne.out g hg e
                  · rw [hr5] at e
                    have h8 := ((hbk1.ext hz).own.row_ge g hg).2
                    simp at e
                    omega
                have HN2 : Hid ((out ++ [⟨ek, eo, em, el, es⟩]) ++ wayL x b (k + N) = R) := by unfold Hid; rw [List.append_assoc]; exact HN.out
                go_wp2_with fail
                go_roundw
                case rel => exact ⟨k + N, m + 1, A3, c3, _, by omega, by omega, rfl, by go_num, hb5, hbk5, hne5, HN2, hx5⟩
                case measure => simp [intOf]; omega
        have q3 : decide ((N : Int) < 64) = true := by simp; omega
        have q3' : decide (N < 64) = true := by simp; omega
        have r2 := runF_end (x := x) (b := b) 64 k (by rw [HRN.out]; exact hN4) (by rw [HRN.out]; omega)
        rw [HRN.out] at r2
        obtain ⟨gx, ox, rfl, ax⟩ := hbk.sl.at2 hkN
        obtain ⟨gb', ob', hbe, ab⟩ := hb.at2 hkN
        subst hbe
        replace ab := hy.cell (hxr.cell ab)
        replace ax := hy.cell ax
        obtain ⟨px, hpx⟩ : ∃ p, x.getD (k + N) 0 = p := ⟨_, rfl⟩
        obtain ⟨pb, hpb⟩ : ∃ p, b.getD (k + N) 0 = p := ⟨_, rfl⟩
        rw [hpx] at ax
        rw [hpb] at ab
        rw [hpx, hpb] at r2
        have q1 : ((px.toNat : Int) != (pb.toNat : Int)) = false := by rw [r2]; simp
        clear r2 hpx hpb
        go_wp2_with fail
        refine wp_region_typed Ext.steady rfl 102 rfl (by kernel_rfl) ?_
        -- 0: Op.move t7
        apply Stage.step (Is _) [] (Is.keeps _) (by kernel_rfl)
        · intro w1 h1
          simp only [Given]
          go_wp2_with fail
          exact Post.isv (Ext.refl _) rfl rfl rfl
        -- 1: Op.move t8
        apply Stage.step (Is _) [] (Is.keeps _) (by kernel_rfl)
        · intro w1 h1
          simp only [Given]
          go_wp2_with fail
          exact Post.isv (Ext.refl _) rfl rfl rfl
        -- 2: Op.binOp BinOp.add 3 t38 t39 3
        apply Stage.step (Is _) [true, true] (Is.keeps _) (by kernel_rfl)
        · intro w1 h1
          simp only [List.nil_append, List.cons_append, Given]
          rintro _ rfl
          rintro _ rfl
          go_wp2_with fail
          exact Post.isv (Ext.refl _) rfl rfl rfl
        -- 3: Op.move t1
        apply Stage.step (Is _) [] (Is.keeps _) (by kernel_rfl)
        · intro w1 h1
          simp only [Given]
          go_wp2_with fail
          exact Post.isv (Ext.refl _) rfl rfl rfl
        -- 4: Op.call { builtin len, args := #[t41], argTypes := #[22] }
        apply Stage.step (Is _) [false, false, false, true] (Is.keeps _) (by kernel_rfl)
        · intro w1 h1
          simp only [List.nil_append, List.cons_append, Given]
          rintro _ rfl
          go_wp2_with fail
          exact Post.isv (Ext.refl _) rfl rfl rfl
        -- 5: Op.binOp BinOp.lss 3 t40 t42 3
        apply Stage.step (Is _) [false, false, true, false, true] (Is.keeps _) (by kernel_rfl)
        · intro w1 h1
          simp only [List.nil_append, List.cons_append, Given]
          rintro _ rfl
          rintro _ rfl
          go_wp2_with fail
          exact Post.isv (Ext.refl _) rfl rfl rfl
        -- 6: Op.move t43
        apply Stage.step (Is _) [false, false, false, false, false, true] (Is.keeps _) (by kernel_rfl)
        · intro w1 h1
          simp only [List.nil_append, List.cons_append, Given]
          rintro _ rfl
          go_wp2_with fail
          exact Post.isv (Ext.refl _) rfl rfl rfl
        -- 7: Op.move t8   [guarded: some (6, true)]
        apply Stage.step (Is _) [false, false, false, false, false, false, true] (Is.keeps _) (by kernel_rfl)
        · intro w1 h1
          simp only [List.nil_append, List.cons_append, Given]
          rintro _ rfl
          go_wp2_with fail
          exact Post.isv (Ext.refl _) rfl rfl rfl
        -- 8: Op.binOp BinOp.lss 3 t45 (const (64:i64)) 3   [guarded: some (6, true)]
        apply Stage.step (Is _) [false, false, false, false, false, false, true, true] (Is.keeps _) (by kernel_rfl)
        · intro w1 h1
          simp only [List.nil_append, List.cons_append, Given]
          rintro _ rfl
          rintro _ rfl
          go_wp2_with fail
          exact Post.isv (Ext.refl _) rfl rfl rfl
        -- 9: Op.pick t44 t46 (const (Value.bool false))
        apply Stage.step (Is _) [false, false, false, false, false, false, true, false, true] (Is.keeps _) (by kernel_rfl)
        · intro w1 h1
          simp only [List.nil_append, List.cons_append, Given]
          rintro _ rfl
          rintro _ rfl
          go_wp2_with fail
          exact Post.isv (Ext.refl _) rfl rfl rfl
        -- 10: Op.move t47
        apply Stage.step (Is _) [false, false, false, false, false, false, false, false, false, true] (Is.keeps _) (by kernel_rfl)
        · intro w1 h1
          simp only [List.nil_append, List.cons_append, Given]
          rintro _ rfl
          go_wp2_with fail
          exact Post.isv (Ext.refl _) rfl rfl rfl
        -- 11: Op.move t6   [guarded: some (10, true)]
        apply Stage.step (Is _) [false, false, false, false, false, false, false, false, false, false, true] (Is.keeps _) (by kernel_rfl)
        · intro w1 h1
          simp only [List.nil_append, List.cons_append, Given]
          rintro _ rfl
          go_wp2_with fail
          exact Post.isv (Ext.refl _) rfl rfl rfl
        -- 12: Op.move t7   [guarded: some (10, true)]
        apply Stage.step (Is _) [false, false, false, false, false, false, false, false, false, false, true] (Is.keeps _) (by kernel_rfl)
        · intro w1 h1
          simp only [List.nil_append, List.cons_append, Given]
          rintro _ rfl
          go_wp2_with fail
          exact Post.isv (Ext.refl _) rfl rfl rfl
        -- 13: Op.move t8   [guarded: some (10, true)]
        apply Stage.step (Is _) [false, false, false, false, false, false, false, false, false, false, true] (Is.keeps _) (by kernel_rfl)
        · intro w1 h1
          simp only [List.nil_append, List.cons_append, Given]
          rintro _ rfl
          go_wp2_with fail
          exact Post.isv (Ext.refl _) rfl rfl rfl
        -- 14: Op.binOp BinOp.add 3 t50 t51 3   [guarded: some (10, true)]
        apply Stage.step (Is _) [false, false, false, false, false, false, false, false, false, false, true, false, true, true] (Is.keeps _) (by kernel_rfl)
        · intro w1 h1
          simp only [List.nil_append, List.cons_append, Given]
          rintro _ rfl
          rintro _ rfl
          rintro _ rfl
          go_wp2_with fail
          exact Post.isv (Ext.refl _) rfl rfl rfl
        -- 15: Op.indexAddr 22 t49 t52   [guarded: some (10, true)]
        apply Stage.step (Is _) [false, false, false, false, false, false, false, false, false, false, true, true, false, false, true] (Is.keeps _) (by kernel_rfl)
        · intro w1 h1
          simp only [List.nil_append, List.cons_append, Given]
          rintro _ rfl
          rintro _ rfl
          rintro _ rfl
          go_wp2_with fail
          exact Post.isv (Ext.refl _) rfl rfl rfl
        -- 16: Op.load 5 t53   [guarded: some (10, true)]
        apply Stage.step (Is _) [false, false, false, false, false, false, false, false, false, false, true, false, false, false, false, true] (Is.keeps _) (by kernel_rfl)
        · intro w1 h1
          simp only [List.nil_append, List.cons_append, Given]
          rintro _ rfl
          rintro _ rfl
          have hq := h1.cell ax
          go_wp2_with fail
          exact Post.isv (Ext.refl _) rfl rfl rfl
        -- 17: Op.move t1   [guarded: some (10, true)]
        apply Stage.step (Is _) [false, false, false, false, false, false, false, false, false, false, true] (Is.keeps _) (by kernel_rfl)
        · intro w1 h1
          simp only [List.nil_append, List.cons_append, Given]
          rintro _ rfl
          go_wp2_with fail
          exact Post.isv (Ext.refl _) rfl rfl rfl
        -- 18: Op.move t7   [guarded: some (10, true)]
        apply Stage.step (Is _) [false, false, false, false, false, false, false, false, false, false, true] (Is.keeps _) (by kernel_rfl)
        · intro w1 h1
          simp only [List.nil_append, List.cons_append, Given]
          rintro _ rfl
          go_wp2_with fail
          exact Post.isv (Ext.refl _) rfl rfl rfl
        -- 19: Op.move t8   [guarded: some (10, true)]
        apply Stage.step (Is _) [false, false, false, false, false, false, false, false, false, false, true] (Is.keeps _) (by kernel_rfl)
        · intro w1 h1
          simp only [List.nil_append, List.cons_append, Given]
          rintro _ rfl
          go_wp2_with fail
          exact Post.isv (Ext.refl _) rfl rfl rfl
        -- 20: Op.binOp BinOp.add 3 t56 t57 3   [guarded: some (10, true)]
        apply Stage.step (Is _) [false, false, false, false, false, false, false, false, false, false, true, false, false, false, false, false, false, false, true, true] (Is.keeps _) (by kernel_rfl)
        · intro w1 h1
          simp only [List.nil_append, List.cons_append, Given]
          rintro _ rfl
          rintro _ rfl
          rintro _ rfl
          go_wp2_with fail
          exact Post.isv (Ext.refl _) rfl rfl rfl
        -- 21: Op.indexAddr 22 t55 t58   [guarded: some (10, true)]
        apply Stage.step (Is _) [false, false, false, false, false, false, false, false, false, false, true, false, false, false, false, false, false, true, false, false, true] (Is.keeps _) (by kernel_rfl)
        · intro w1 h1
          simp only [List.nil_append, List.cons_append, Given]
          rintro _ rfl
          rintro _ rfl
          rintro _ rfl
          go_wp2_with fail
          exact Post.isv (Ext.refl _) rfl rfl rfl
        -- 22: Op.load 5 t59   [guarded: some (10, true)]
        apply Stage.step (Is _) [false, false, false, false, false, false, false, false, false, false, true, false, false, false, false, false, false, false, false, false, false, true] (Is.keeps _) (by kernel_rfl)
        · intro w1 h1
          simp only [List.nil_append, List.cons_append, Given]
          rintro _ rfl
          rintro _ rfl
          have hq := h1.cell ab
          go_wp2_with fail
          exact Post.isv (Ext.refl _) rfl rfl rfl
        -- 23: Op.binOp BinOp.neq 5 t54 t60 5   [guarded: some (10, true)]
        apply Stage.step (Is _) [false, false, false, false, false, false, false, false, false, false, true, false, false, false, false, false, true, false, false, false, false, false, true] (Is.keeps _) (by kernel_rfl)
        · intro w1 h1
          simp only [List.nil_append, List.cons_append, Given]
          rintro _ rfl
          rintro _ rfl
          rintro _ rfl
          go_wp2_with fail
          exact Post.isv (Ext.refl _) rfl rfl rfl
        -- 24: Op.pick t48 t61 (const (Value.bool false))
        apply Stage.step (Is _) [false, false, false, false, false, false, false, false, false, false, true, false, false, false, false, false, false, false, false, false, false, false, false, true] (Is.keeps _) (by kernel_rfl)
        · intro w1 h1
          simp only [List.nil_append, List.cons_append, Given]
          rintro _ rfl
          rintro _ rfl
          go_wp2_with fail
          exact Post.isv (Ext.refl _) rfl rfl rfl
        apply Stage.nil
        intro w1 h1
        simp only [List.nil_append, List.cons_append]
        refine Fin.is_ ?_
        refine Fin.is_ ?_
        refine Fin.is_ ?_
        refine Fin.is_ ?_
        refine Fin.is_ ?_
        refine Fin.is_ ?_
        refine Fin.is_ ?_
        refine Fin.is_ ?_
        refine Fin.is_ ?_
        refine Fin.is_ ?_
        refine Fin.is_ ?_
        refine Fin.is_ ?_
        refine Fin.is_ ?_
        refine Fin.is_ ?_
        refine Fin.is_ ?_
        refine Fin.is_ ?_
        refine Fin.is_ ?_
        refine Fin.is_ ?_
        refine Fin.is_ ?_
        refine Fin.is_ ?_
        refine Fin.is_ ?_
        refine Fin.is_ ?_
        refine Fin.is_ ?_
        refine Fin.is_ ?_
        refine Fin.is_ ?_
        refine Fin.nil_ ?_
        go_simp
        replace hy := hy.trans h1
        clear h1
        by_cases hN0 : N = 0
        · subst hN0
          have hpp : x.getD k 0 = b.getD k 0 := by
            by_cases e : x.getD k 0 = b.getD k 0
            · exact e
            · have := runF_pos64 (x := x) (b := b) (i := k) (by omega) e
              rw [HRN.out] at this
              omega
          have HN := hrk.out
          rw [way_same (by omega) hpp] at HN
          have HN := Lib.hid HN
          clear hpp hrk
          go_wp2_with fail
          go_roundw
          case rel => exact ⟨k + 1, m, Ak, ck, out, by omega, by omega, rfl, by go_num, hown.ext (fr_rep ev_rep w.heap.size) hy, hbk.ext hy, hne, HN, hxr.trans hy⟩
          case measure => simp [intOf]; omega
        · have hpp : x.getD k 0 ≠ b.getD k 0 := fun e => hN0 (by rw [← HRN.out]; exact runF_no fun _ => e)
          have HN := hrk.out
          rw [way_diff (by omega) hpp, HRN.out] at HN
          have HN := Lib.hid HN
          have qN : ((N : Int) == 0) = false := by simp; omega
          have hN1 : 1 ≤ N := by omega
          have hown1 := hown.ext (fr_rep ev_rep w.heap.size) hy
          have hbk1 := hbk.ext hy
          have hxr1 := hxr.trans hy
          clear hpp hrk hN0
          obtain ⟨p, hp⟩ : ∃ p, (b.drop k).take N = p := ⟨_, rfl⟩
          have hpl : p.length = N := by rw [← hp, List.length_take, List.length_drop]; omega
          have HP := Lib.hid hp
          have z0 := evTo_zero k N p
          have c0 : (w1.alloc (.cells #[.int .i64 3, .int .i64 k, .int .i64 N, .slice none 0 0, .string ⟨#[]⟩] TEv)).cell? ⟨w1.heap.size, 0, none⟩ = some (.int .i64 3) := cell_new w1 _ _ 0
          have c1 : (w1.alloc (.cells #[.int .i64 3, .int .i64 k, .int .i64 N, .slice none 0 0, .string ⟨#[]⟩] TEv)).cell? ⟨w1.heap.size, 1, none⟩ = some (.int .i64 k) := cell_new w1 _ _ 1
          have c2 : (w1.alloc (.cells #[.int .i64 3, .int .i64 k, .int .i64 N, .slice none 0 0, .string ⟨#[]⟩] TEv)).cell? ⟨w1.heap.size, 2, none⟩ = some (.int .i64 N) := cell_new w1 _ _ 2
          have c3 : (w1.alloc (.cells #[.int .i64 3, .int .i64 k, .int .i64 N, .slice none 0 0, .string ⟨#[]⟩] TEv)).cell? ⟨w1.heap.size, 3, none⟩ = some (.slice none 0 0) := cell_new w1 _ _ 3
          have c4 : (w1.alloc (.cells #[.int .i64 3, .int .i64 k, .int .i64 N, .slice none 0 0, .string ⟨#[]⟩] TEv)).cell? ⟨w1.heap.size, 4, none⟩ = some (.string ⟨#[]⟩) := cell_new w1 _ _ 4
          have f0 : ∀ q, (w1.alloc (.cells #[.int .i64 3, .int .i64 k, .int .i64 N, .slice none 0 0, .string ⟨#[]⟩] TEv)).frozen? ⟨w1.heap.size, q, none⟩ = false := fun q => fr_newD w1 _ _ q
          have hs0 : w1.heap.size < (w1.alloc (.cells #[.int .i64 3, .int .i64 k, .int .i64 N, .slice none 0 0, .string ⟨#[]⟩] TEv)).heap.size := by simp
          have hg0 := Ext.alloc w1 (.cells #[.int .i64 3, .int .i64 k, .int .i64 N, .slice none 0 0, .string ⟨#[]⟩] TEv)
          have hb1 := hb.ext hxr1
          clear hp
          go_wp2_with fail
          go_loopw [10] (fun i wr => ∃ (j : Nat) (A7 : Option Addr) (n7 c7 : Nat), j ≤ N ∧ i = .int .i64 j ∧ wr.cell? ⟨w1.heap.size, 0, none⟩ = some (.int .i64 (evTo k N p j).k) ∧ wr.cell? ⟨w1.heap.size, 1, none⟩ = some (.int .i64 (evTo k N p j).o) ∧ wr.cell? ⟨w1.heap.size, 2, none⟩ = some (.int .i64 (evTo k N p j).m) ∧ wr.cell? ⟨w1.heap.size, 3, none⟩ = some (.slice A7 n7 c7) ∧ wr.cell? ⟨w1.heap.size, 4, none⟩ = some (.string (evTo k N p j).s) ∧ Fsl wr w1.heap.size A7 n7 c7 (evTo k N p j).l ∧ (∀ q, wr.frozen? ⟨w1.heap.size, q, none⟩ = false) ∧ w1.heap.size < wr.heap.size ∧ Ext w1 wr) (fun i _ => N - (intOf i).toNat)
          case atStart => exact ⟨0, none, 0, 0, by omega, rfl, by rw [z0]; exact c0, by rw [z0]; exact c1, by rw [z0]; exact c2, c3, by rw [z0]; exact c4, by rw [z0]; exact Fsl.nil _ _, f0, hs0, hg0⟩
          case round =>
            obtain ⟨j, A7, n7, c7, hj, rfl, d0, d1, d2, d3, d4, h7, ff, hsz, hz⟩ := hrel
            clear c0 c1 c2 c3 c4 f0 hs0 hg0 z0
            by_cases hjN : j < N
            · have hkj : k + j < nb := by omega
              obtain ⟨gb, ob, e2, ab⟩ := hb.at2 hkj
              cases e2
              replace ab := hz.cell (hxr1.cell ab)
              have hpb : p.getD j 0 = b.getD (k + j) 0 := by
                rw [← HP.out]
                simp only [List.getD_eq_getElem?_getD, List.getElem?_take, List.getElem?_drop]
                rw [if_pos hjN]
              obtain ⟨pb, hpb2⟩ : ∃ q, b.getD (k + j) 0 = q := ⟨_, rfl⟩
              rw [hpb2] at ab hpb
              by_cases hz0 : pb = 0
              · have he := evTo_same (k := k) (N := N) (p := p) (j := j) (by omega) (by rw [hpb]; exact hz0)
                rw [← he] at d0 d1 d2 d4 h7
                have q1 : ((pb.toNat : Int) != 0) = false := by rw [hz0]; rfl
                clear he hpb hpb2 hz0
                go_wp2_with fail
                go_roundw
                case rel => exact ⟨j + 1, A7, n7, c7, by omega, by go_num, d0, d1, d2, d3, d4, h7, ff, hsz, hz⟩
                case measure => simp [intOf]; omega
              · have he := evTo_other (k := k) (N := N) (p := p) (j := j) (by omega) (by rw [hpb]; exact hz0)
                have q1 : ((pb.toNat : Int) != 0) = true := by
                  have : pb.toNat ≠ 0 := fun e => hz0 (UInt8.toNat_inj.1 e)
                  simp; omega
                have hbz := hb1.ext hz
                obtain ⟨A9, c9, hcut, l9⟩ := cut_mid hbz k N (k : Int) ((k : Int) + (N : Int)) rfl (by omega) hNb
                rw [HP.out] at l9
                obtain ⟨j0, hj0, hy0, hy1, hy2⟩ := info_parts info_u8
                clear hpb hpb2 hz0
                go_wp2_with (at_builtin; refine wpList_append_mine _ rfl _ _ _ _ rfl (w1.heap.size + 1) U8 j0 _ 1 1 under_bytes hj0 hy0 hy1 hy2 rfl _ 0 0 _ rfl (Own.nil _ _ _ _ _) _ rfl N (p.map bv) ((l9.ext (Ext.alloc _ _)).src under_bytes) (by simp only [maxLen]; omega) (by omega) (Nat.le_trans hsz (Ext.alloc _ _).size) ?_; intro A6 c6 w6 hown6 hg6 _; have hb6 : Byt U8 w6 (w1.heap.size + 1) A6 N c6 p := ⟨hpl, by simpa using hown6⟩; have hx6 := (Ext.alloc _ _).trans (grown_nil hg6); have e0 := hx6.cell d0; have e1 := hx6.cell d1; have e2 := hx6.cell d2; have e3 := hx6.cell d3; have e4 := hx6.cell d4; have k0 := hx6.frozenD d0 (ff 0); have k1 := hx6.frozenD d1 (ff 1); have k2 := hx6.frozenD d2 (ff 2); have k3 := hx6.frozenD d3 (ff 3); have k4 := hx6.frozenD d4 (ff 4))
                obtain ⟨W, hW, s0, s1, s2, s3, s4⟩ := set5 e0 e1 e2 e3 e4 (.int .i64 1) (.int .i64 k) (.int .i64 0) (.slice A6 N c6) (.string ⟨#[]⟩)
                have hfW : ∀ q, W.frozen? ⟨w1.heap.size, q, none⟩ = false := fun q => by
                  rw [hW, set5_frozen]
                  have e : w6.frozen? ⟨w1.heap.size, q, none⟩ = wr.frozen? ⟨w1.heap.size, q, none⟩ := Below.frozen hx6 hsz
                  rw [e]
                  exact ff q
                have hxW : Ext w1 W := by
                  rw [hW]
                  exact (((((hz.trans hx6).sets (Nat.le_refl _) _).sets (Nat.le_refl _) _).sets (Nat.le_refl _) _).sets (Nat.le_refl _) _).sets (Nat.le_refl _) _
                have h7W : Fsl W w1.heap.size A6 N c6 p := by
                  rw [hW]
                  exact (((((hb6.fsl.sets (Nat.lt_succ_self _) _).sets (Nat.lt_succ_self _) _).sets (Nat.lt_succ_self _) _).sets (Nat.lt_succ_self _) _).sets (Nat.lt_succ_self _) _).low (Nat.le_succ _)
                have hsW : w1.heap.size < W.heap.size := by
                  have := hx6.size
                  rw [hW]
                  simp [World.setCell]
                  omega
                rw [← hW]
                go_roundw
                case rel => exact ⟨j + 1, A6, N, c6, by omega, by go_num, by rw [he]; exact s0, by rw [he]; exact s1, by rw [he]; exact s2, s3, by rw [he]; exact s4, by rw [he]; exact h7W, hfW, hsW, hxW⟩
                case measure => simp [intOf]; omega
            · obtain rfl : N = j := by omega
              rw [evTo_end HP.out hpl] at d0 d1 d2 d4 h7
              obtain ⟨ek, eo, em, el, es, hE⟩ : ∃ ek eo em el es, evAt b k N = ⟨ek, eo, em, el, es⟩ := ⟨_, _, _, _, _, rfl⟩
              have hEs : es.size ≤ maxLen := by
                have : es = (evAt b k N).s := by rw [hE]
                rw [this]
                unfold evAt
                split <;> exact Nat.zero_le _
              rw [hE] at d0 d1 d2 d4 h7 HN
              simp only at d0 d1 d2 d4 h7
              have hown3 := hown1.ext (fr_rep ev_rep w.heap.size) hz
              have hfd := Feed.lit (P := Try.prog) (e := 28) (tx := 23) (A := Ak) (c := ck) (fr_rep ev_rep w.heap.size) #[.int .i64 ek, .int .i64 eo, .int .i64 em, .slice A7 n7 c7, .string es] ⟨ek, eo, em, el, es⟩ ⟨⟨A7, n7, c7, rfl, h7.sl, hEs⟩, fun j hj => by
                obtain ⟨ad, q1, q2, q3⟩ := pts_ev hj
                have h4 := h7.fr ad q1 q2
                have h5 := hxr1.size
                omega⟩ under_evs (fun j hj e => by
                obtain ⟨ad, q1, q2, q3⟩ := pts_ev hj
                have h4 := h7.fr ad q1 q2
                have h5 := (hown1.row_lt j e).2
                omega) rfl
              have hx9 := hxr1.trans hz
              clear hE ff
              go_wp2_with (
                at_builtin
                refine wpList_append_lst3 (w0 := w) (fr_rep ev_rep w.heap.size) rfl _ _ _ _ rfl TEv i0 _ 64 under_evs hi0 hz0 hz1 hz2 rfl Ak m ck _ rfl (hown3.ext (fr_rep ev_rep w.heap.size) (Ext.alloc _ _)) _ 1 [⟨ek, eo, em, el, es⟩] rfl hfd (m + 1) rfl _ rfl (by simp only [maxLen]; omega) (by omega) (hx9.allocs _) ?_
                intro A3 c3 w5 hb5 hx5 hg5 hr5)
              have hbk4 := (hbk1.ext hz).ext (Ext.alloc wr (.cells #[.int .i64 ek, .int .i64 eo, .int .i64 em, .slice A7 n7 c7, .string es] TEv))
              have hbk5 : Byt U8 w5 w.heap.size (some ⟨gx, ox, none⟩) nb cs x := ⟨hbk4.len, hbk4.own.grown hg5 fun g hg e => hne.out g hg e.symm⟩
              have hne5 : Hid (∀ g, rowOf (some ⟨gx, ox, none⟩) cs = some g → rowOf A3 c3 ≠ some g) := fun g hg e => by
                rcases hr5 with hr5 | hr5
                · rw [hr5] at e; exact hne.out g hg e
                · rw [hr5] at e
                  have h8 := ((hbk1.ext hz).own.row_ge g hg).2
                  simp at e
                  omega
              have HN2 : Hid ((out ++ [⟨ek, eo, em, el, es⟩]) ++ wayL x b (k + N) = R) := by unfold Hid; rw [List.append_assoc]; exact HN.out
              go_wp2_with fail
              go_roundw
              case rel => exact ⟨k + N, m + 1, A3, c3, _, by omega, by omega, rfl, by go_num, hb5, hbk5, hne5, HN2, hx5⟩
              case measure => simp [intOf]; omega
  · have hR2 := hR.out
    rw [bytes_other (by omega) (by omega) (by omega)] at hR2
    rw [hbl, hxx] at hR2
    have HR2 := Lib.hid hR2
    have qn : ((na : Int) != (nb : Int)) = true := by simp; omega
    clear hR hR2 hnn
    have hfd0 := Feed.lit (P := Try.prog) (e := 28) (tx := 23) (A := (none : Option Addr)) (c := 0) (fr_rep ev_rep w.heap.size) #[.int .i64 4, .int .i64 0, .int .i64 nb, .slice none 0 0, .string ⟨#[]⟩] ⟨4, 0, nb, [], ⟨#[]⟩⟩ ⟨⟨none, 0, 0, rfl, Sl.nil w, Nat.zero_le _⟩, fun j hj => by
      obtain ⟨ad, q1, _⟩ := pts_ev hj
      cases q1⟩ under_evs (fun j hj e => by simp [rowOf] at e) rfl
    go_enter Try.func30, Try.ntmps30
    go_wp2_with (
      at_builtin
      refine wpList_append_lst (w0 := w) (fr_rep ev_rep w.heap.size) rfl (.tmp 24) (.tmp 28) _ _ rfl TEv i0 _ 64 under_evs hi0 hz0 hz1 hz2 rfl none 0 0 [] rfl (OwnL.nil _ _ _ _) _ 1 [⟨4, 0, nb, [], ⟨#[]⟩⟩] rfl hfd0 1 (Nat.zero_add _) _ rfl (by simp only [maxLen]; omega) (by omega) (Ext.alloc _ _) ?_
      intro A0 c0 w3 hb3 hx3)
    refine (ref_Sized A na ca a nb w3 (ha.ext hx3) (by omega) (by omega)).mono ?_
    rintro e w2 ⟨As, cs, rfl, hbx, hx2⟩
    rw [hxx] at hbx
    have hx0 : Ext w w2 := hx3.trans hx2
    have hown0 : OwnL TEv 5 (frR evR w.heap.size) w2 w.heap.size A0 1 c0 [⟨4, 0, nb, [], ⟨#[]⟩⟩] := (hb3).ext (fr_rep ev_rep w.heap.size) hx2
    have hne0 : Hid (∀ g, rowOf As cs = some g → rowOf A0 c0 ≠ some g) := fun g hg => by
      have := (hbx.own.row_ge g hg).1
      intro e; have := (hb3.row_lt g e).2; omega
    replace hbx := hbx.low (B' := w.heap.size) (by exact hx3.size)
    clear hx2
    go_wp2_with fail
    go_loopw [5, 7] (fun v i wr => ∃ (k m : Nat) (Ak : Option Addr) (ck : Nat) (out : List Ev), k ≤ nb ∧ m ≤ k + 1 ∧ v = .slice Ak m ck ∧ i = .int .i64 k ∧ OwnL TEv 5 (frR evR w.heap.size) wr w.heap.size Ak m ck out ∧ Byt U8 wr w.heap.size As nb cs x ∧ Hid (∀ g, rowOf As cs = some g → rowOf Ak ck ≠ some g) ∧ Hid (out ++ wayL x b k = R) ∧ Ext w wr) (fun _ i _ => nb - (intOf i).toNat)
    case atStart => exact ⟨0, _, _, _, _, by omega, by omega, rfl, rfl, hown0, hbx, hne0, HR2, hx0⟩
    case round =>
      obtain ⟨k, m, Ak, ck, out, hk, hm, rfl, rfl, hown, hbk, hne, hrk, hxr⟩ := hrel
      clear hown0 HR2 hbx hne0 hx0
      by_cases hlt : k < nb
      case neg =>
        obtain rfl : out = R := by
          have := hrk.out
          rw [way_end (by omega), List.append_nil] at this
          exact this
        clear hrk
        go_wp2_with fail
        go_ret
        exact ⟨_, _, _, rfl, hown, hxr⟩
      have hrl := runF_le x b 64 k
      obtain ⟨N, hN⟩ : ∃ N, runF 64 x b k = N := ⟨_, rfl⟩
      rw [hN] at hrl
      have hN64 : N ≤ 64 := hrl.1
      have hNb : k + N ≤ nb := by have := hrl.2 (by omega); omega
      have HRN := Lib.hid hN
      clear hrl hN
      obtain ⟨w1, hw1⟩ : ∃ w1, w1 = wr := ⟨_, rfl⟩
      rw [← hw1] at hown hxr hbk
      go_wp2_with fail
      rw [← hw1]
      go_loopw [8] (fun i wr => ∃ j : Nat, j ≤ N ∧ i = .int .i64 j ∧ Ext w1 wr) (fun i _ => N - (intOf i).toNat)
      case atStart => exact ⟨0, by omega, rfl, Ext.refl _⟩
      case round =>
        obtain ⟨j, hj, rfl, hy⟩ := hrel
        clear hw1
        by_cases hjN : j < N
        · obtain ⟨r1, r2⟩ := runF_in (x := x) (b := b) 64 k j (by rw [HRN.out]; exact hjN)
          have hkj : k + j < nb := by omega
          obtain ⟨gx, ox, rfl, ax⟩ := hbk.sl.at2 hkj
          obtain ⟨gb, ob, rfl, ab⟩ := hb.at2 hkj
          replace ab := hy.cell (hxr.cell ab)
          replace ax := hy.cell ax
          obtain ⟨px, hpx⟩ : ∃ p, x.getD (k + j) 0 = p := ⟨_, rfl⟩
          obtain ⟨pb, hpb⟩ : ∃ p, b.getD (k + j) 0 = p := ⟨_, rfl⟩
          rw [hpx] at ax
          rw [hpb] at ab
          rw [hpx, hpb] at r2
          have q1 : ((px.toNat : Int) != (pb.toNat : Int)) = true := by
            have : px.toNat ≠ pb.toNat := fun e => r2 (UInt8.toNat_inj.1 e)
            simp; omega
          have q2 : decide ((k : Int) + (j : Int) < (nb : Int)) = true := by simp; omega
          have q2' : decide (k + j < nb) = true := by simp; omega
          have q3 : decide ((j : Int) < 64) = true := by simp; omega
          have q3' : decide (j < 64) = true := by simp; omega
          clear r1 r2 hpx hpb
          go_wp2_with fail
          refine wp_region_typed Ext.steady rfl 102 rfl (by kernel_rfl) ?_
          -- 0: Op.move t7
          apply Stage.step (Is _) [] (Is.keeps _) (by kernel_rfl)
          · intro w1 h1
            simp only [Given]
            go_wp2_with fail
            exact Post.isv (Ext.refl _) rfl rfl rfl
          -- 1: Op.move t8
          apply Stage.step (Is _) [] (Is.keeps _) (by kernel_rfl)
          · intro w1 h1
            simp only [Given]
            go_wp2_with fail
            exact Post.isv (Ext.refl _) rfl rfl rfl
          -- 2: Op.binOp BinOp.add 3 t38 t39 3
          apply Stage.step (Is _) [true, true] (Is.keeps _) (by kernel_rfl)
          · intro w1 h1
            simp only [List.nil_append, List.cons_append, Given]
            rintro _ rfl
            rintro _ rfl
            go_wp2_with fail
            exact Post.isv (Ext.refl _) rfl rfl rfl
          -- 3: Op.move t1
          apply Stage.step (Is _) [] (Is.keeps _) (by kernel_rfl)
          · intro w1 h1
            simp only [Given]
            go_wp2_with fail
            exact Post.isv (Ext.refl _) rfl rfl rfl
          -- 4: Op.call { builtin len, args := #[t41], argTypes := #[22] }
          apply Stage.step (Is _) [false, false, false, true] (Is.keeps _) (by kernel_rfl)
          · intro w1 h1
            simp only [List.nil_append, List.cons_append, Given]
            rintro _ rfl
            go_wp2_with fail
            exact Post.isv (Ext.refl _) rfl rfl rfl
          -- 5: Op.binOp BinOp.lss 3 t40 t42 3
          apply Stage.step (Is _) [false, false, true, false, true] (Is.keeps _) (by kernel_rfl)
          · intro w1 h1
            simp only [List.nil_append, List.cons_append, Given]
            rintro _ rfl
            rintro _ rfl
            go_wp2_with fail
            exact Post.isv (Ext.refl _) rfl rfl rfl
          -- 6: Op.move t43
          apply Stage.step (Is _) [false, false, false, false, false, true] (Is.keeps _) (by kernel_rfl)
          · intro w1 h1
            simp only [List.nil_append, List.cons_append, Given]
            rintro _ rfl
            go_wp2_with fail
            exact Post.isv (Ext.refl _) rfl rfl rfl
          -- 7: Op.move t8   [guarded: some (6, true)]
          apply Stage.step (Is _) [false, false, false, false, false, false, true] (Is.keeps _) (by kernel_rfl)
          · intro w1 h1
            simp only [List.nil_append, List.cons_append, Given]
            rintro _ rfl
            go_wp2_with fail
            exact Post.isv (Ext.refl _) rfl rfl rfl
          -- 8: Op.binOp BinOp.lss 3 t45 (const (64:i64)) 3   [guarded: some (6, true)]
          apply Stage.step (Is _) [false, false, false, false, false, false, true, true] (Is.keeps _) (by kernel_rfl)
          · intro w1 h1
            simp only [List.nil_append, List.cons_append, Given]
            rintro _ rfl
            rintro _ rfl
            go_wp2_with fail
            exact Post.isv (Ext.refl _) rfl rfl rfl
          -- 9: Op.pick t44 t46 (const (Value.bool false))
          apply Stage.step (Is _) [false, false, false, false, false, false, true, false, true] (Is.keeps _) (by kernel_rfl)
          · intro w1 h1
            simp only [List.nil_append, List.cons_append, Given]
            rintro _ rfl
            rintro _ rfl
            go_wp2_with fail
            exact Post.isv (Ext.refl _) rfl rfl rfl
          -- 10: Op.move t47
          apply Stage.step (Is _) [false, false, false, false, false, false, false, false, false, true] (Is.keeps _) (by kernel_rfl)
          · intro w1 h1
            simp only [List.nil_append, List.cons_append, Given]
            rintro _ rfl
            go_wp2_with fail
            exact Post.isv (Ext.refl _) rfl rfl rfl
          -- 11: Op.move t6   [guarded: some (10, true)]
          apply Stage.step (Is _) [false, false, false, false, false, false, false, false, false, false, true] (Is.keeps _) (by kernel_rfl)
          · intro w1 h1
            simp only [List.nil_append, List.cons_append, Given]
            rintro _ rfl
            go_wp2_with fail
            exact Post.isv (Ext.refl _) rfl rfl rfl
          -- 12: Op.move t7   [guarded: some (10, true)]
          apply Stage.step (Is _) [false, false, false, false, false, false, false, false, false, false, true] (Is.keeps _) (by kernel_rfl)
          · intro w1 h1
            simp only [List.nil_append, List.cons_append, Given]
            rintro _ rfl
            go_wp2_with fail
            exact Post.isv (Ext.refl _) rfl rfl rfl
          -- 13: Op.move t8   [guarded: some (10, true)]
          apply Stage.step (Is _) [false, false, false, false, false, false, false, false, false, false, true] (Is.keeps _) (by kernel_rfl)
          · intro w1 h1
            simp only [List.nil_append, List.cons_append, Given]
            rintro _ rfl
            go_wp2_with fail
            exact Post.isv (Ext.refl _) rfl rfl rfl
          -- 14: Op.binOp BinOp.add 3 t50 t51 3   [guarded: some (10, true)]
          apply Stage.step (Is _) [false, false, false, false, false, false, false, false, false, false, true, false, true, true] (Is.keeps _) (by kernel_rfl)
          · intro w1 h1
            simp only [List.nil_append, List.cons_append, Given]
            rintro _ rfl
            rintro _ rfl
            rintro _ rfl
            go_wp2_with fail
            exact Post.isv (Ext.refl _) rfl rfl rfl
          -- 15: Op.indexAddr 22 t49 t52   [guarded: some (10, true)]
          apply Stage.step (Is _) [false, false, false, false, false, false, false, false, false, false, true, true, false, false, true] (Is.keeps _) (by kernel_rfl)
          · intro w1 h1
            simp only [List.nil_append, List.cons_append, Given]
            rintro _ rfl
            rintro _ rfl
            rintro _ rfl
            go_wp2_with fail
            exact Post.isv (Ext.refl _) rfl rfl rfl
          -- 16: Op.load 5 t53   [guarded: some (10, true)]
          apply Stage.step (Is _) [false, false, false, false, false, false, false, false, false, false, true, false, false, false, false, true] (Is.keeps _) (by kernel_rfl)
          · intro w1 h1
            simp only [List.nil_append, List.cons_append, Given]
            rintro _ rfl
            rintro _ rfl
            have hq := h1.cell ax
            go_wp2_with fail
            exact Post.isv (Ext.refl _) rfl rfl rfl
          -- 17: Op.move t1   [guarded: some (10, true)]
          apply Stage.step (Is _) [false, false, false, false, false, false, false, false, false, false, true] (Is.keeps _) (by kernel_rfl)
          · intro w1 h1
            simp only [List.nil_append, List.cons_append, Given]
            rintro _ rfl
            go_wp2_with fail
            exact Post.isv (Ext.refl _) rfl rfl rfl
          -- 18: Op.move t7   [guarded: some (10, true)]
          apply Stage.step (Is _) [false, false, false, false, false, false, false, false, false, false, true] (Is.keeps _) (by kernel_rfl)
          · intro w1 h1
            simp only [List.nil_append, List.cons_append, Given]
            rintro _ rfl
            go_wp2_with fail
            exact Post.isv (Ext.refl _) rfl rfl rfl
          -- 19: Op.move t8   [guarded: some (10, true)]
          apply Stage.step (Is _) [false, false, false, false, false, false, false, false, false, false, true] (Is.keeps _) (by kernel_rfl)
          · intro w1 h1
            simp only [List.nil_append, List.cons_append, Given]
            rintro _ rfl
            go_wp2_with fail
            exact Post.isv (Ext.refl _) rfl rfl rfl
          -- 20: Op.binOp BinOp.add 3 t56 t57 3   [guarded: some (10, true)]
          apply Stage.step (Is _) [false, false, false, false, false, false, false, false, false, false, true, false, false, false, false, false, false, false, true, true] (Is.keeps _) (by kernel_rfl)
          · intro w1 h1
            simp only [List.nil_append, List.cons_append, Given]
            rintro _ rfl
            rintro _ rfl
            rintro _ rfl
            go_wp2_with fail
            exact Post.isv (Ext.refl _) rfl rfl rfl
          -- 21: Op.indexAddr 22 t55 t58   [guarded: some (10, true)]
          apply Stage.step (Is _) [false, false, false, false, false, false, false, false, false, false, true, false, false, false, false, false, false, true, false, false, true] (Is.keeps _) (by kernel_rfl)
          · intro w1 h1
            simp only [List.nil_append, List.cons_append, Given]
            rintro _ rfl
            rintro _ rfl
            rintro _ rfl
            go_wp2_with fail
            exact Post.isv (Ext.refl _) rfl rfl rfl
          -- 22: Op.load 5 t59   [guarded: some (10, true)]
          apply Stage.step (Is _) [false, false, false, false, false, false, false, false, false, false, true, false, false, false, false, false, false, false, false, false, false, true] (Is.keeps _) (by kernel_rfl)
          · intro w1 h1
            simp only [List.nil_append, List.cons_append, Given]
            rintro _ rfl
            rintro _ rfl
            have hq := h1.cell ab
            go_wp2_with fail
            exact Post.isv (Ext.refl _) rfl rfl rfl
          -- 23: Op.binOp BinOp.neq 5 t54 t60 5   [guarded: some (10, true)]
          apply Stage.step (Is _) [false, false, false, false, false, false, false, false, false, false, true, false, false, false, false, false, true, false, false, false, false, false, true] (Is.keeps _) (by kernel_rfl)
          · intro w1 h1
            simp only [List.nil_append, List.cons_append, Given]
            rintro _ rfl
            rintro _ rfl
            rintro _ rfl
            go_wp2_with fail
            exact Post.isv (Ext.refl _) rfl rfl rfl
          -- 24: Op.pick t48 t61 (const (Value.bool false))
          apply Stage.step (Is _) [false, false, false, false, false, false, false, false, false, false, true, false, false, false, false, false, false, false, false, false, false, false, false, true] (Is.keeps _) (by kernel_rfl)
          · intro w1 h1
            simp only [List.nil_append, List.cons_append, Given]
            rintro _ rfl
            rintro _ rfl
            go_wp2_with fail
            exact Post.isv (Ext.refl _) rfl rfl rfl
          apply Stage.nil
          intro w1 h1
          simp only [List.nil_append, List.cons_append]
          refine Fin.is_ ?_
          refine Fin.is_ ?_
          refine Fin.is_ ?_
          refine Fin.is_ ?_
          refine Fin.is_ ?_
          refine Fin.is_ ?_
          refine Fin.is_ ?_
          refine Fin.is_ ?_
          refine Fin.is_ ?_
          refine Fin.is_ ?_
          refine Fin.is_ ?_
          refine Fin.is_ ?_
          refine Fin.is_ ?_
          refine Fin.is_ ?_
          refine Fin.is_ ?_
          refine Fin.is_ ?_
          refine Fin.is_ ?_
          refine Fin.is_ ?_
          refine Fin.is_ ?_
          refine Fin.is_ ?_
          refine Fin.is_ ?_
          refine Fin.is_ ?_
          refine Fin.is_ ?_
          refine Fin.is_ ?_
          refine Fin.is_ ?_
          refine Fin.nil_ ?_
          go_simp
          go_wp2_with fail
          go_roundw
          case rel => exact ⟨j + 1, by omega, by go_num, hy.trans h1⟩
          case measure => simp [intOf]; omega
        obtain rfl : N = j := by omega
        by_cases hkN : k + N < nb
        case neg =>
          have q2 : decide ((k : Int) + (N : Int) < (nb : Int)) = false := by simp; omega
          have q2' : decide (k + N < nb) = false := by simp; omega
          go_wp2_with fail
          refine wp_region_typed Ext.steady rfl 102 rfl (by kernel_rfl) ?_
          -- 0: Op.move t7
          apply Stage.step (Is _) [] (Is.keeps _) (by kernel_rfl)
          · intro w1 h1
            simp only [Given]
            go_wp2_with fail
            exact Post.isv (Ext.refl _) rfl rfl rfl
          -- 1: Op.move t8
          apply Stage.step (Is _) [] (Is.keeps _) (by kernel_rfl)
          · intro w1 h1
            simp only [Given]
            go_wp2_with fail
            exact Post.isv (Ext.refl _) rfl rfl rfl
          -- 2: Op.binOp BinOp.add 3 t38 t39 3
          apply Stage.step (Is _) [true, true] (Is.keeps _) (by kernel_rfl)
          · intro w1 h1
            simp only [List.nil_append, List.cons_append, Given]
            rintro _ rfl
            rintro _ rfl
            go_wp2_with fail
            exact Post.isv (Ext.refl _) rfl rfl rfl
          -- 3: Op.move t1
          apply Stage.step (Is _) [] (Is.keeps _) (by kernel_rfl)
          · intro w1 h1
            simp only [Given]
            go_wp2_with fail
            exact Post.isv (Ext.refl _) rfl rfl rfl
          -- 4: Op.call { builtin len, args := #[t41], argTypes := #[22] }
          apply Stage.step (Is _) [false, false, false, true] (Is.keeps _) (by kernel_rfl)
          · intro w1 h1
            simp only [List.nil_append, List.cons_append, Given]
            rintro _ rfl
            go_wp2_with fail
            exact Post.isv (Ext.refl _) rfl rfl rfl
          -- 5: Op.binOp BinOp.lss 3 t40 t42 3
          apply Stage.step (Is _) [false, false, true, false, true] (Is.keeps _) (by kernel_rfl)
          · intro w1 h1
            simp only [List.nil_append, List.cons_append, Given]
            rintro _ rfl
            rintro _ rfl
            go_wp2_with fail
            exact Post.isv (Ext.refl _) rfl rfl rfl
          -- 6: Op.move t43
          apply Stage.step (Is _) [false, false, false, false, false, true] (Is.keeps _) (by kernel_rfl)
          · intro w1 h1
            simp only [List.nil_append, List.cons_append, Given]
            rintro _ rfl
            go_wp2_with fail
            exact Post.isv (Ext.refl _) rfl rfl rfl
          -- 7: Op.move t8   [guarded: some (6, true)]
          apply Stage.step (Is _) [false, false, false, false, false, false, true] (Is.keeps _) (by kernel_rfl)
          · intro w1 h1
            simp only [List.nil_append, List.cons_append, Given]
            rintro _ rfl
            go_wp2_with fail
            exact Post.isv (Ext.refl _) rfl rfl rfl
          -- 8: Op.binOp BinOp.lss 3 t45 (const (64:i64)) 3   [guarded: some (6, true)]
          apply Stage.step (Is _) [false, false, false, false, false, false, true, true] (Is.keeps _) (by kernel_rfl)
          · intro w1 h1
            simp only [List.nil_append, List.cons_append, Given]
            rintro _ rfl
            rintro _ rfl
            go_wp2_with fail
            exact Post.isv (Ext.refl _) rfl rfl rfl
          -- 9: Op.pick t44 t46 (const (Value.bool false))
          apply Stage.step (Is _) [false, false, false, false, false, false, true, false, true] (Is.keeps _) (by kernel_rfl)
          · intro w1 h1
            simp only [List.nil_append, List.cons_append, Given]
            rintro _ rfl
            rintro _ rfl
            go_wp2_with fail
            exact Post.isv (Ext.refl _) rfl rfl rfl
          -- 10: Op.move t47
          apply Stage.step (Is _) [false, false, false, false, false, false, false, false, false, true] (Is.keeps _) (by kernel_rfl)
          · intro w1 h1
            simp only [List.nil_append, List.cons_append, Given]
            rintro _ rfl
            go_wp2_with fail
            exact Post.isv (Ext.refl _) rfl rfl rfl
          -- 11: Op.move t6   [guarded: some (10, true)]
          apply Stage.step (Is _) [false, false, false, false, false, false, false, false, false, false, true] (Is.keeps _) (by kernel_rfl)
          · intro w1 h1
            simp only [List.nil_append, List.cons_append, Given]
            rintro _ rfl
            go_wp2_with fail
            exact Post.isv (Ext.refl _) rfl rfl rfl
          -- 12: Op.move t7   [guarded: some (10, true)]
          apply Stage.step (Is _) [false, false, false, false, false, false, false, false, false, false, true] (Is.keeps _) (by kernel_rfl)
          · intro w1 h1
            simp only [List.nil_append, List.cons_append, Given]
            rintro _ rfl
            go_wp2_with fail
            exact Post.isv (Ext.refl _) rfl rfl rfl
          -- 13: Op.move t8   [guarded: some (10, true)]
          apply Stage.step (Is _) [false, false, false, false, false, false, false, false, false, false, true] (Is.keeps _) (by kernel_rfl)
          · intro w1 h1
            simp only [List.nil_append, List.cons_append, Given]
            rintro _ rfl
            go_wp2_with fail
            exact Post.isv (Ext.refl _) rfl rfl rfl
          -- 14: Op.binOp BinOp.add 3 t50 t51 3   [guarded: some (10, true)]
          apply Stage.step (Is _) [false, false, false, false, false, false, false, false, false, false, true, false, true, true] (Is.keeps _) (by kernel_rfl)
          · intro w1 h1
            simp only [List.nil_append, List.cons_append, Given]
            rintro _ rfl
            rintro _ rfl
            rintro _ rfl
            go_wp2_with fail
            exact Post.isv (Ext.refl _) rfl rfl rfl
          -- 15: Op.indexAddr 22 t49 t52   [guarded: some (10, true)]
          apply Stage.step (Is _) [false, false, false, false, false, false, false, false, false, false, true, true, false, false, true] (Is.keeps _) (by kernel_rfl)
          · intro w1 h1
            simp only [List.nil_append, List.cons_append, Given]
            rintro _ rfl
            rintro _ rfl
            rintro _ rfl
            go_wp2_with fail
            exact Post.isv (Ext.refl _) rfl rfl rfl
          -- 16: Op.load 5 t53   [guarded: some (10, true)]
          apply Stage.step (Is _) [false, false, false, false, false, false, false, false, false, false, true, false, false, false, false, true] (Is.keeps _) (by kernel_rfl)
          · intro w1 h1
            simp only [List.nil_append, List.cons_append, Given]
            rintro _ rfl
            rintro _ rfl
            skip
            go_wp2_with fail
            exact Post.isv (Ext.refl _) rfl rfl rfl
          -- 17: Op.move t1   [guarded: some (10, true)]
          apply Stage.step (Is _) [false, false, false, false, false, false, false, false, false, false, true] (Is.keeps _) (by kernel_rfl)
          · intro w1 h1
            simp only [List.nil_append, List.cons_append, Given]
            rintro _ rfl
            go_wp2_with fail
            exact Post.isv (Ext.refl _) rfl rfl rfl
          -- 18: Op.move t7   [guarded: some (10, true)]
          apply Stage.step (Is _) [false, false, false, false, false, false, false, false, false, false, true] (Is.keeps _) (by kernel_rfl)
          · intro w1 h1
            simp only [List.nil_append, List.cons_append, Given]
            rintro _ rfl
            go_wp2_with fail
            exact Post.isv (Ext.refl _) rfl rfl rfl
          -- 19: Op.move t8   [guarded: some (10, true)]
          apply Stage.step (Is _) [false, false, false, false, false, false, false, false, false, false, true] (Is.keeps _) (by kernel_rfl)
          · intro w1 h1
            simp only [List.nil_append, List.cons_append, Given]
            rintro _ rfl
            go_wp2_with fail
            exact Post.isv (Ext.refl _) rfl rfl rfl
          -- 20: Op.binOp BinOp.add 3 t56 t57 3   [guarded: some (10, true)]
          apply Stage.step (Is _) [false, false, false, false, false, false, false, false, false, false, true, false, false, false, false, false, false, false, true, true] (Is.keeps _) (by kernel_rfl)
          · intro w1 h1
            simp only [List.nil_append, List.cons_append, Given]
            rintro _ rfl
            rintro _ rfl
            rintro _ rfl
            go_wp2_with fail
            exact Post.isv (Ext.refl _) rfl rfl rfl
          -- 21: Op.indexAddr 22 t55 t58   [guarded: some (10, true)]
          apply Stage.step (Is _) [false, false, false, false, false, false, false, false, false, false, true, false, false, false, false, false, false, true, false, false, true] (Is.keeps _) (by kernel_rfl)
          · intro w1 h1
            simp only [List.nil_append, List.cons_append, Given]
            rintro _ rfl
            rintro _ rfl
            rintro _ rfl
            go_wp2_with fail
            exact Post.isv (Ext.refl _) rfl rfl rfl
          -- 22: Op.load 5 t59   [guarded: some (10, true)]
          apply Stage.step (Is _) [false, false, false, false, false, false, false, false, false, false, true, false, false, false, false, false, false, false, false, false, false, true] (Is.keeps _) (by kernel_rfl)
          · intro w1 h1
            simp only [List.nil_append, List.cons_append, Given]
            rintro _ rfl
            rintro _ rfl
            skip
            go_wp2_with fail
            exact Post.isv (Ext.refl _) rfl rfl rfl
          -- 23: Op.binOp BinOp.neq 5 t54 t60 5   [guarded: some (10, true)]
          apply Stage.step (Is _) [false, false, false, false, false, false, false, false, false, false, true, false, false, false, false, false, true, false, false, false, false, false, true] (Is.keeps _) (by kernel_rfl)
          · intro w1 h1
            simp only [List.nil_append, List.cons_append, Given]
            rintro _ rfl
            rintro _ rfl
            rintro _ rfl
            go_wp2_with fail
            exact Post.isv (Ext.refl _) rfl rfl rfl
          -- 24: Op.pick t48 t61 (const (Value.bool false))
          apply Stage.step (Is _) [false, false, false, false, false, false, false, false, false, false, true, false, false, false, false, false, false, false, false, false, false, false, false, true] (Is.keeps _) (by kernel_rfl)
          · intro w1 h1
            simp only [List.nil_append, List.cons_append, Given]
            rintro _ rfl
            rintro _ rfl
            go_wp2_with fail
            exact Post.isv (Ext.refl _) rfl rfl rfl
          apply Stage.nil
          intro w1 h1
          simp only [List.nil_append, List.cons_append]
          refine Fin.is_ ?_
          refine Fin.is_ ?_
          refine Fin.is_ ?_
          refine Fin.is_ ?_
          refine Fin.is_ ?_
          refine Fin.is_ ?_
          refine Fin.is_ ?_
          refine Fin.is_ ?_
          refine Fin.is_ ?_
          refine Fin.is_ ?_
          refine Fin.is_ ?_
          refine Fin.is_ ?_
          refine Fin.is_ ?_
          refine Fin.is_ ?_
          refine Fin.is_ ?_
          refine Fin.is_ ?_
          refine Fin.is_ ?_
          refine Fin.is_ ?_
          refine Fin.is_ ?_
          refine Fin.is_ ?_
          refine Fin.is_ ?_
          refine Fin.is_ ?_
          refine Fin.is_ ?_
          refine Fin.is_ ?_
          refine Fin.is_ ?_
          refine Fin.nil_ ?_
          go_simp
          replace hy := hy.trans h1
          clear h1
          by_cases hN0 : N = 0
          · subst hN0
            have hpp : x.getD k 0 = b.getD k 0 := by
              by_cases e : x.getD k 0 = b.getD k 0
              · exact e
              · have := runF_pos64 (x := x) (b := b) (i := k) (by omega) e
                rw [HRN.out] at this
                omega
            have HN := hrk.out
            rw [way_same (by omega) hpp] at HN
            have HN := Lib.hid HN
            clear hpp hrk
            go_wp2_with fail
            go_roundw
            case rel => exact ⟨k + 1, m, Ak, ck, out, by omega, by omega, rfl, by go_num, hown.ext (fr_rep ev_rep w.heap.size) hy, hbk.ext hy, hne, HN, hxr.trans hy⟩
            case measure => simp [intOf]; omega
          · have hpp : x.getD k 0 ≠ b.getD k 0 := fun e => hN0 (by rw [← HRN.out]; exact runF_no fun _ => e)
            have HN := hrk.out
            rw [way_diff (by omega) hpp, HRN.out] at HN
            have HN := Lib.hid HN
            have qN : ((N : Int) == 0) = false := by simp; omega
            have hN1 : 1 ≤ N := by omega
            have hown1 := hown.ext (fr_rep ev_rep w.heap.size) hy
            have hbk1 := hbk.ext hy
            have hxr1 := hxr.trans hy
            clear hpp hrk hN0
            obtain ⟨p, hp⟩ : ∃ p, (b.drop k).take N = p := ⟨_, rfl⟩
            have hpl : p.length = N := by rw [← hp, List.length_take, List.length_drop]; omega
            have HP := Lib.hid hp
            have z0 := evTo_zero k N p
            have c0 : (w1.alloc (.cells #[.int .i64 3, .int .i64 k, .int .i64 N, .slice none 0 0, .string ⟨#[]⟩] TEv)).cell? ⟨w1.heap.size, 0, none⟩ = some (.int .i64 3) := cell_new w1 _ _ 0
            have c1 : (w1.alloc (.cells #[.int .i64 3, .int .i64 k, .int .i64 N, .slice none 0 0, .string ⟨#[]⟩] TEv)).cell? ⟨w1.heap.size, 1, none⟩ = some (.int .i64 k) := cell_new w1 _ _ 1
            have c2 : (w1.alloc (.cells #[.int .i64 3, .int .i64 k, .int .i64 N, .slice none 0 0, .string ⟨#[]⟩] TEv)).cell? ⟨w1.heap.size, 2, none⟩ = some (.int .i64 N) := cell_new w1 _ _ 2
            have c3 : (w1.alloc (.cells #[.int .i64 3, .int .i64 k, .int .i64 N, .slice none 0 0, .string ⟨#[]⟩] TEv)).cell? ⟨w1.heap.size, 3, none⟩ = some (.slice none 0 0) := cell_new w1 _ _ 3
            have c4 : (w1.alloc (.cells #[.int .i64 3, .int .i64 k, .int .i64 N, .slice none 0 0, .string ⟨#[]⟩] TEv)).cell? ⟨w1.heap.size, 4, none⟩ = some (.string ⟨#[]⟩) := cell_new w1 _ _ 4
            have f0 : ∀ q, (w1.alloc (.cells #[.int .i64 3, .int .i64 k, .int .i64 N, .slice none 0 0, .string ⟨#[]⟩] TEv)).frozen? ⟨w1.heap.size, q, none⟩ = false := fun q => fr_newD w1 _ _ q
            have hs0 : w1.heap.size < (w1.alloc (.cells #[.int .i64 3, .int .i64 k, .int .i64 N, .slice none 0 0, .string ⟨#[]⟩] TEv)).heap.size := by simp
            have hg0 := Ext.alloc w1 (.cells #[.int .i64 3, .int .i64 k, .int .i64 N, .slice none 0 0, .string ⟨#[]⟩] TEv)
            have hb1 := hb.ext hxr1
            clear hp
            go_wp2_with fail
            go_loopw [10] (fun i wr => ∃ (j : Nat) (A7 : Option Addr) (n7 c7 : Nat), j ≤ N ∧ i = .int .i64 j ∧ wr.cell? ⟨w1.heap.size, 0, none⟩ = some (.int .i64 (evTo k N p j).k) ∧ wr.cell? ⟨w1.heap.size, 1, none⟩ = some (.int .i64 (evTo k N p j).o) ∧ wr.cell? ⟨w1.heap.size, 2, none⟩ = some (.int .i64 (evTo k N p j).m) ∧ wr.cell? ⟨w1.heap.size, 3, none⟩ = some (.slice A7 n7 c7) ∧ wr.cell? ⟨w1.heap.size, 4, none⟩ = some (.string (evTo k N p j).s) ∧ Fsl wr w1.heap.size A7 n7 c7 (evTo k N p j).l ∧ (∀ q, wr.frozen? ⟨w1.heap.size, q, none⟩ = false) ∧ w1.heap.size < wr.heap.size ∧ Ext w1 wr) (fun i _ => N - (intOf i).toNat)
            case atStart => exact ⟨0, none, 0, 0, by omega, rfl, by rw [z0]; exact c0, by rw [z0]; exact c1, by rw [z0]; exact c2, c3, by rw [z0]; exact c4, by rw [z0]; exact Fsl.nil _ _, f0, hs0, hg0⟩
            case round =>
              obtain ⟨j, A7, n7, c7, hj, rfl, d0, d1, d2, d3, d4, h7, ff, hsz, hz⟩ := hrel
              clear c0 c1 c2 c3 c4 f0 hs0 hg0 z0
              by_cases hjN : j < N
              · have hkj : k + j < nb := by omega
                obtain ⟨gb, ob, e2, ab⟩ := hb.at2 hkj
                cases e2
                replace ab := hz.cell (hxr1.cell ab)
                have hpb : p.getD j 0 = b.getD (k + j) 0 := by
                  rw [← HP.out]
                  simp only [List.getD_eq_getElem?_getD, List.getElem?_take, List.getElem?_drop]
                  rw [if_pos hjN]
                obtain ⟨pb, hpb2⟩ : ∃ q, b.getD (k + j) 0 = q := ⟨_, rfl⟩
                rw [hpb2] at ab hpb
                by_cases hz0 : pb = 0
                · have he := evTo_same (k := k) (N := N) (p := p) (j := j) (by omega) (by rw [hpb]; exact hz0)
                  rw [← he] at d0 d1 d2 d4 h7
                  have q1 : ((pb.toNat : Int) != 0) = false := by rw [hz0]; rfl
                  clear he hpb hpb2 hz0
                  go_wp2_with fail
                  go_roundw
                  case rel => exact ⟨j + 1, A7, n7, c7, by omega, by go_num, d0, d1, d2, d3, d4, h7, ff, hsz, hz⟩
                  case measure => simp [intOf]; omega
                · have he := evTo_other (k := k) (N := N) (p := p) (j := j) (by omega) (by rw [hpb]; exact hz0)
                  have q1 : ((pb.toNat : Int) != 0) = true := by
                    have : pb.toNat ≠ 0 := fun e => hz0 (UInt8.toNat_inj.1 e)
                    simp; omega
                  have hbz := hb1.ext hz
                  obtain ⟨A9, c9, hcut, l9⟩ := cut_mid hbz k N (k : Int) ((k : Int) + (N : Int)) rfl (by omega) hNb
                  rw [HP.out] at l9
                  obtain ⟨j0, hj0, hy0, hy1, hy2⟩ := info_parts info_u8
                  clear hpb hpb2 hz0
                  go_wp2_with (at_builtin; refine wpList_append_mine _ rfl _ _ _ _ rfl (w1.heap.size + 1) U8 j0 _ 1 1 under_bytes hj0 hy0 hy1 hy2 rfl _ 0 0 _ rfl (Own.nil _ _ _ _ _) _ rfl N (p.map bv) ((l9.ext (Ext.alloc _ _)).src under_bytes) (by simp only [maxLen]; omega) (by omega) (Nat.le_trans hsz (Ext.alloc _ _).size) ?_; intro A6 c6 w6 hown6 hg6 _; have hb6 : Byt U8 w6 (w1.heap.size + 1) A6 N c6 p := ⟨hpl, by simpa using hown6⟩; have hx6 := (Ext.alloc _ _).trans (grown_nil hg6); have e0 := hx6.cell d0; have e1 := hx6.cell d1; have e2 := hx6.cell d2; have e3 := hx6.cell d3; have e4 := hx6.cell d4; have k0 := hx6.frozenD d0 (ff 0); have k1 := hx6.frozenD d1 (ff 1); have k2 := hx6.frozenD d2 (ff 2); have k3 := hx6.frozenD d3 (ff 3); have k4 := hx6.frozenD d4 (ff 4))
                  obtain ⟨W, hW, s0, s1, s2, s3, s4⟩ := set5 e0 e1 e2 e3 e4 (.int .i64 1) (.int .i64 k) (.int .i64 0) (.slice A6 N c6) (.string ⟨#[]⟩)
                  have hfW : ∀ q, W.frozen? ⟨w1.heap.size, q, none⟩ = false := fun q => by
                    rw [hW, set5_frozen]
                    have e : w6.frozen? ⟨w1.heap.size, q, none⟩ = wr.frozen? ⟨w1.heap.size, q, none⟩ := Below.frozen hx6 hsz
                    rw [e]
                    exact ff q
                  have hxW : Ext w1 W := by
                    rw [hW]
                    exact (((((hz.trans hx6).sets (Nat.le_refl _) _).sets (Nat.le_refl _) _).sets (Nat.le_refl _) _).sets (Nat.le_refl _) _).sets (Nat.le_refl _) _
                  have h7W : Fsl W w1.heap.size A6 N c6 p := by
                    rw [hW]
                    exact (((((hb6.fsl.sets (Nat.lt_succ_self _) _).sets (Nat.lt_succ_self _) _).sets (Nat.lt_succ_self _) _).sets (Nat.lt_succ_self _) _).sets (Nat.lt_succ_self _) _).low (Nat.le_succ _)
                  have hsW : w1.heap.size < W.heap.size := by
                    have := hx6.size
                    rw [hW]
                    simp [World.setCell]
                    omega
                  rw [← hW]
                  go_roundw
                  case rel => exact ⟨j + 1, A6, N, c6, by omega, by go_num, by rw [he]; exact s0, by rw [he]; exact s1, by rw [he]; exact s2, s3, by rw [he]; exact s4, by rw [he]; exact h7W, hfW, hsW, hxW⟩
                  case measure => simp [intOf]; omega
              · obtain rfl : N = j := by omega
                rw [evTo_end HP.out hpl] at d0 d1 d2 d4 h7
                obtain ⟨ek, eo, em, el, es, hE⟩ : ∃ ek eo em el es, evAt b k N = ⟨ek, eo, em, el, es⟩ := ⟨_, _, _, _, _, rfl⟩
                have hEs : es.size ≤ maxLen := by
                  have : es = (evAt b k N).s := by rw [hE]
                  rw [this]
                  unfold evAt
                  split <;> exact Nat.zero_le _
                rw [hE] at d0 d1 d2 d4 h7 HN
                simp only at d0 d1 d2 d4 h7
                have hown3 := hown1.ext (fr_rep ev_rep w.heap.size) hz
                have hfd := Feed.lit (P := Try.prog) (e := 28) (tx := 23) (A := Ak) (c := ck) (fr_rep ev_rep w.heap.size) #[.int .i64 ek, .int .i64 eo, .int .i64 em, .slice A7 n7 c7, .string es] ⟨ek, eo, em, el, es⟩ ⟨⟨A7, n7, c7, rfl, h7.sl, hEs⟩, fun j hj => by
                  obtain ⟨ad, q1, q2, q3⟩ := pts_ev hj
                  have h4 := h7.fr ad q1 q2
                  have h5 := hxr1.size
                  omega⟩ under_evs (fun j hj e => by
                  obtain ⟨ad, q1, q2, q3⟩ := pts_ev hj
                  have h4 := h7.fr ad q1 q2
                  have h5 := (hown1.row_lt j e).2
                  omega) rfl
                have hx9 := hxr1.trans hz
                clear hE ff
                go_wp2_with (
                  at_builtin
                  refine wpList_append_lst3 (w0 := w) (fr_rep ev_rep w.heap.size) rfl _ _ _ _ rfl TEv i0 _ 64 under_evs hi0 hz0 hz1 hz2 rfl Ak m ck _ rfl (hown3.ext (fr_rep ev_rep w.heap.size) (Ext.alloc _ _)) _ 1 [⟨ek, eo, em, el, es⟩] rfl hfd (m + 1) rfl _ rfl (by simp only [maxLen]; omega) (by omega) (hx9.allocs _) ?_
                  intro A3 c3 w5 hb5 hx5 hg5 hr5)
                have hbk4 := (hbk1.ext hz).ext (Ext.alloc wr (.cells #[.int .i64 ek, .int .i64 eo, .int .i64 em, .slice A7 n7 c7, .string es] TEv))
                have hbk5 : Byt U8 w5 w.heap.size As nb cs x := ⟨hbk4.len, hbk4.own.grown hg5 fun g hg e => hne.out g hg e.symm⟩
                have hne5 : Hid (∀ g, rowOf As cs = some g → rowOf A3 c3 ≠ some g) := fun g hg e => by
                  rcases hr5 with hr5 | hr5
                  · rw [hr5] at e; exact hne.out g hg e
                  · rw [hr5] at e
                    have h8 := ((hbk1.ext hz).own.row_ge g hg).2
                    simp at e
                    omega
                have HN2 : Hid ((out ++ [⟨ek, eo, em, el, es⟩]) ++ wayL x b (k + N) = R) := by unfold Hid; rw [List.append_assoc]; exact HN.out
                go_wp2_with fail
                go_roundw
                case rel => exact ⟨k + N, m + 1, A3, c3, _, by omega, by omega, rfl, by go_num, hb5, hbk5, hne5, HN2, hx5⟩
                case measure => simp [intOf]; omega
        have q2 : decide ((k : Int) + (N : Int) < (nb : Int)) = true := by simp; omega
        have q2' : decide (k + N < nb) = true := by simp; omega
        by_cases hN4 : N < 64
        case neg =>
          have q3 : decide ((N : Int) < 64) = false := by simp; omega
          have q3' : decide (N < 64) = false := by simp; omega
          go_wp2_with fail
          refine wp_region_typed Ext.steady rfl 102 rfl (by kernel_rfl) ?_
          -- 0: Op.move t7
          apply Stage.step (Is _) [] (Is.keeps _) (by kernel_rfl)
          · intro w1 h1
            simp only [Given]
            go_wp2_with fail
            exact Post.isv (Ext.refl _) rfl rfl rfl
          -- 1: Op.move t8
          apply Stage.step (Is _) [] (Is.keeps _) (by kernel_rfl)
          · intro w1 h1
            simp only [Given]
            go_wp2_with fail
            exact Post.isv (Ext.refl _) rfl rfl rfl
          -- 2: Op.binOp BinOp.add 3 t38 t39 3
          apply Stage.step (Is _) [true, true] (Is.keeps _) (by kernel_rfl)
          · intro w1 h1
            simp only [List.nil_append, List.cons_append, Given]
            rintro _ rfl
            rintro _ rfl
            go_wp2_with fail
            exact Post.isv (Ext.refl _) rfl rfl rfl
          -- 3: Op.move t1
          apply Stage.step (Is _) [] (Is.keeps _) (by kernel_rfl)
          · intro w1 h1
            simp only [Given]
            go_wp2_with fail
            exact Post.isv (Ext.refl _) rfl rfl rfl
          -- 4: Op.call { builtin len, args := #[t41], argTypes := #[22] }
          apply Stage.step (Is _) [false, false, false, true] (Is.keeps _) (by kernel_rfl)
          · intro w1 h1
            simp only [List.nil_append, List.cons_append, Given]
            rintro _ rfl
            go_wp2_with fail
            exact Post.isv (Ext.refl _) rfl rfl rfl
          -- 5: Op.binOp BinOp.lss 3 t40 t42 3
          apply Stage.step (Is _) [false, false, true, false, true] (Is.keeps _) (by kernel_rfl)
          · intro w1 h1
            simp only [List.nil_append, List.cons_append, Given]
            rintro _ rfl
            rintro _ rfl
            go_wp2_with fail
            exact Post.isv (Ext.refl _) rfl rfl rfl
          -- 6: Op.move t43
          apply Stage.step (Is _) [false, false, false, false, false, true] (Is.keeps _) (by kernel_rfl)
          · intro w1 h1
            simp only [List.nil_append, List.cons_append, Given]
            rintro _ rfl
            go_wp2_with fail
            exact Post.isv (Ext.refl _) rfl rfl rfl
          -- 7: Op.move t8   [guarded: some (6, true)]
          apply Stage.step (Is _) [false, false, false, false, false, false, true] (Is.keeps _) (by kernel_rfl)
          · intro w1 h1
            simp only [List.nil_append, List.cons_append, Given]
            rintro _ rfl
            go_wp2_with fail
            exact Post.isv (Ext.refl _) rfl rfl rfl
          -- 8: Op.binOp BinOp.lss 3 t45 (const (64:i64)) 3   [guarded: some (6, true)]
          apply Stage.step (Is _) [false, false, false, false, false, false, true, true] (Is.keeps _) (by kernel_rfl)
          · intro w1 h1
            simp only [List.nil_append, List.cons_append, Given]
            rintro _ rfl
            rintro _ rfl
            go_wp2_with fail
            exact Post.isv (Ext.refl _) rfl rfl rfl
          -- 9: Op.pick t44 t46 (const (Value.bool false))
          apply Stage.step (Is _) [false, false, false, false, false, false, true, false, true] (Is.keeps _) (by kernel_rfl)
          · intro w1 h1
            simp only [List.nil_append, List.cons_append, Given]
            rintro _ rfl
            rintro _ rfl
            go_wp2_with fail
            exact Post.isv (Ext.refl _) rfl rfl rfl
          -- 10: Op.move t47
          apply Stage.step (Is _) [false, false, false, false, false, false, false, false, false, true] (Is.keeps _) (by kernel_rfl)
          · intro w1 h1
            simp only [List.nil_append, List.cons_append, Given]
            rintro _ rfl
            go_wp2_with fail
            exact Post.isv (Ext.refl _) rfl rfl rfl
          -- 11: Op.move t6   [guarded: some (10, true)]
          apply Stage.step (Is _) [false, false, false, false, false, false, false, false, false, false, true] (Is.keeps _) (by kernel_rfl)
          · intro w1 h1
            simp only [List.nil_append, List.cons_append, Given]
            rintro _ rfl
            go_wp2_with fail
            exact Post.isv (Ext.refl _) rfl rfl rfl
          -- 12: Op.move t7   [guarded: some (10, true)]
          apply Stage.step (Is _) [false, false, false, false, false, false, false, false, false, false, true] (Is.keeps _) (by kernel_rfl)
          · intro w1 h1
            simp only [List.nil_append, List.cons_append, Given]
            rintro _ rfl
            go_wp2_with fail
            exact Post.isv (Ext.refl _) rfl rfl rfl
          -- 13: Op.move t8   [guarded: some (10, true)]
          apply Stage.step (Is _) [false, false, false, false, false, false, false, false, false, false, true] (Is.keeps _) (by kernel_rfl)
          · intro w1 h1
            simp only [List.nil_append, List.cons_append, Given]
            rintro _ rfl
            go_wp2_with fail
            exact Post.isv (Ext.refl _) rfl rfl rfl
          -- 14: Op.binOp BinOp.add 3 t50 t51 3   [guarded: some (10, true)]
          apply Stage.step (Is _) [false, false, false, false, false, false, false, false, false, false, true, false, true, true] (Is.keeps _) (by kernel_rfl)
          · intro w1 h1
            simp only [List.nil_append, List.cons_append, Given]
            rintro _ rfl
            rintro _ rfl
            rintro _ rfl
            go_wp2_with fail
            exact Post.isv (Ext.refl _) rfl rfl rfl
          -- 15: Op.indexAddr 22 t49 t52   [guarded: some (10, true)]
          apply Stage.step (Is _) [false, false, false, false, false, false, false, false, false, false, true, true, false, false, true] (Is.keeps _) (by kernel_rfl)
          · intro w1 h1
            simp only [List.nil_append, List.cons_append, Given]
            rintro _ rfl
            rintro _ rfl
            rintro _ rfl
            go_wp2_with fail
            exact Post.isv (Ext.refl _) rfl rfl rfl
          -- 16: Op.load 5 t53   [guarded: some (10, true)]
          apply Stage.step (Is _) [false, false, false, false, false, false, false, false, false, false, true, false, false, false, false, true] (Is.keeps _) (by kernel_rfl)
          · intro w1 h1
            simp only [List.nil_append, List.cons_append, Given]
            rintro _ rfl
            rintro _ rfl
            skip
            go_wp2_with fail
            exact Post.isv (Ext.refl _) rfl rfl rfl
          -- 17: Op.move t1   [guarded: some (10, true)]
          apply Stage.step (Is _) [false, false, false, false, false, false, false, false, false, false, true] (Is.keeps _) (by kernel_rfl)
          · intro w1 h1
            simp only [List.nil_append, List.cons_append, Given]
            rintro _ rfl
            go_wp2_with fail
            exact Post.isv (Ext.refl _) rfl rfl rfl
          -- 18: Op.move t7   [guarded: some (10, true)]
          apply Stage.step (Is _) [false, false, false, false, false, false, false, false, false, false, true] (Is.keeps _) (by kernel_rfl)
          · intro w1 h1
            simp only [List.nil_append, List.cons_append, Given]
            rintro _ rfl
            go_wp2_with fail
            exact Post.isv (Ext.refl _) rfl rfl rfl
          -- 19: Op.move t8   [guarded: some (10, true)]
          apply Stage.step (Is _) [false, false, false, false, false, false, false, false, false, false, true] (Is.keeps _) (by kernel_rfl)
          · intro w1 h1
            simp only [List.nil_append, List.cons_append, Given]
            rintro _ rfl
            go_wp2_with fail
            exact Post.isv (Ext.refl _) rfl rfl rfl
          -- 20: Op.binOp BinOp.add 3 t56 t57 3   [guarded: some (10, true)]
          apply Stage.step (Is _) [false, false, false, false, false, false, false, false, false, false, true, false, false, false, false, false, false, false, true, true] (Is.keeps _) (by kernel_rfl)
          · intro w1 h1
            simp only [List.nil_append, List.cons_append, Given]
            rintro _ rfl
            rintro _ rfl
            rintro _ rfl
            go_wp2_with fail
            exact Post.isv (Ext.refl _) rfl rfl rfl
          -- 21: Op.indexAddr 22 t55 t58   [guarded: some (10, true)]
          apply Stage.step (Is _) [false, false, false, false, false, false, false, false, false, false, true, false, false, false, false, false, false, true, false, false, true] (Is.keeps _) (by kernel_rfl)
          · intro w1 h1
            simp only [List.nil_append, List.cons_append, Given]
            rintro _ rfl
            rintro _ rfl
            rintro _ rfl
            go_wp2_with fail
            exact Post.isv (Ext.refl _) rfl rfl rfl
          -- 22: Op.load 5 t59   [guarded: some (10, true)]
          apply Stage.step (Is _) [false, false, false, false, false, false, false, false, false, false, true, false, false, false, false, false, false, false, false, false, false, true] (Is.keeps _) (by kernel_rfl)
          · intro w1 h1
            simp only [List.nil_append, List.cons_append, Given]
            rintro _ rfl
            rintro _ rfl
            skip
            go_wp2_with fail
            exact Post.isv (Ext.refl _) rfl rfl rfl
          -- 23: Op.binOp BinOp.neq 5 t54 t60 5   [guarded: some (10, true)]
          apply Stage.step (Is _) [false, false, false, false, false, false, false, false, false, false, true, false, false, false, false, false, true, false, false, false, false, false, true] (Is.keeps _) (by kernel_rfl)
          · intro w1 h1
            simp only [List.nil_append, List.cons_append, Given]
            rintro _ rfl
            rintro _ rfl
            rintro _ rfl
            go_wp2_with fail
            exact Post.isv (Ext.refl _) rfl rfl rfl
          -- 24: Op.pick t48 t61 (const (Value.bool false))
          apply Stage.step (Is _) [false, false, false, false, false, false, false, false, false, false, true, false, false, false, false, false, false, false, false, false, false, false, false, true] (Is.keeps _) (by kernel_rfl)
          · intro w1 h1
            simp only [List.nil_append, List.cons_append, Given]
            rintro _ rfl
            rintro _ rfl
            go_wp2_with fail
            exact Post.isv (Ext.refl _) rfl rfl rfl
          apply Stage.nil
          intro w1 h1
          simp only [List.nil_append, List.cons_append]
          refine Fin.is_ ?_
          refine Fin.is_ ?_
          refine Fin.is_ ?_
          refine Fin.is_ ?_
          refine Fin.is_ ?_
          refine Fin.is_ ?_
          refine Fin.is_ ?_
          refine Fin.is_ ?_
          refine Fin.is_ ?_
          refine Fin.is_ ?_
          refine Fin.is_ ?_
          refine Fin.is_ ?_
          refine Fin.is_ ?_
          refine Fin.is_ ?_
          refine Fin.is_ ?_
          refine Fin.is_ ?_
          refine Fin.is_ ?_
          refine Fin.is_ ?_
          refine Fin.is_ ?_
          refine Fin.is_ ?_
          refine Fin.is_ ?_
          refine Fin.is_ ?_
          refine Fin.is_ ?_
          refine Fin.is_ ?_
          refine Fin.is_ ?_
          refine Fin.nil_ ?_
          go_simp
          replace hy := hy.trans h1
          clear h1
          by_cases hN0 : N = 0
          · subst hN0
            have hpp : x.getD k 0 = b.getD k 0 := by
              by_cases e : x.getD k 0 = b.getD k 0
              · exact e
              · have := runF_pos64 (x := x) (b := b) (i := k) (by omega) e
                rw [HRN.out] at this
                omega
            have HN := hrk.out
            rw [way_same (by omega) hpp] at HN
            have HN := Lib.hid HN
            clear hpp hrk
            go_wp2_with fail
            go_roundw
            case rel => exact ⟨k + 1, m, Ak, ck, out, by omega, by omega, rfl, by go_num, hown.ext (fr_rep ev_rep w.heap.size) hy, hbk.ext hy, hne, HN, hxr.trans hy⟩
            case measure => simp [intOf]; omega
          · have hpp : x.getD k 0 ≠ b.getD k 0 := fun e => hN0 (by rw [← HRN.out]; exact runF_no fun _ => e)
            have HN := hrk.out
            rw [way_diff (by omega) hpp, HRN.out] at HN
            have HN := Lib.hid HN
            have qN : ((N : Int) == 0) = false := by simp; omega
            have hN1 : 1 ≤ N := by omega
            have hown1 := hown.ext (fr_rep ev_rep w.heap.size) hy
            have hbk1 := hbk.ext hy
            have hxr1 := hxr.trans hy
            clear hpp hrk hN0
            obtain ⟨p, hp⟩ : ∃ p, (b.drop k).take N = p := ⟨_, rfl⟩
            have hpl : p.length = N := by rw [← hp, List.length_take, List.length_drop]; omega
            have HP := Lib.hid hp
            have z0 := evTo_zero k N p
            have c0 : (w1.alloc (.cells #[.int .i64 3, .int .i64 k, .int .i64 N, .slice none 0 0, .string ⟨#[]⟩] TEv)).cell? ⟨w1.heap.size, 0, none⟩ = some (.int .i64 3) := cell_new w1 _ _ 0
            have c1 : (w1.alloc (.cells #[.int .i64 3, .int .i64 k, .int .i64 N, .slice none 0 0, .string ⟨#[]⟩] TEv)).cell? ⟨w1.heap.size, 1, none⟩ = some (.int .i64 k) := cell_new w1 _ _ 1
            have c2 : (w1.alloc (.cells #[.int .i64 3, .int .i64 k, .int .i64 N, .slice none 0 0, .string ⟨#[]⟩] TEv)).cell? ⟨w1.heap.size, 2, none⟩ = some (.int .i64 N) := cell_new w1 _ _ 2
            have c3 : (w1.alloc (.cells #[.int .i64 3, .int .i64 k, .int .i64 N, .slice none 0 0, .string ⟨#[]⟩] TEv)).cell? ⟨w1.heap.size, 3, none⟩ = some (.slice none 0 0) := cell_new w1 _ _ 3
            have c4 : (w1.alloc (.cells #[.int .i64 3, .int .i64 k, .int .i64 N, .slice none 0 0, .string ⟨#[]⟩] TEv)).cell? ⟨w1.heap.size, 4, none⟩ = some (.string ⟨#[]⟩) := cell_new w1 _ _ 4
            have f0 : ∀ q, (w1.alloc (.cells #[.int .i64 3, .int .i64 k, .int .i64 N, .slice none 0 0, .string ⟨#[]⟩] TEv)).frozen? ⟨w1.heap.size, q, none⟩ = false := fun q => fr_newD w1 _ _ q
            have hs0 : w1.heap.size < (w1.alloc (.cells #[.int .i64 3, .int .i64 k, .int .i64 N, .slice none 0 0, .string ⟨#[]⟩] TEv)).heap.size := by simp
            have hg0 := Ext.alloc w1 (.cells #[.int .i64 3, .int .i64 k, .int .i64 N, .slice none 0 0, .string ⟨#[]⟩] TEv)
            have hb1 := hb.ext hxr1
            clear hp
            go_wp2_with fail
            go_loopw [10] (fun i wr => ∃ (j : Nat) (A7 : Option Addr) (n7 c7 : Nat), j ≤ N ∧ i = .int .i64 j ∧ wr.cell? ⟨w1.heap.size, 0, none⟩ = some (.int .i64 (evTo k N p j).k) ∧ wr.cell? ⟨w1.heap.size, 1, none⟩ = some (.int .i64 (evTo k N p j).o) ∧ wr.cell? ⟨w1.heap.size, 2, none⟩ = some (.int .i64 (evTo k N p j).m) ∧ wr.cell? ⟨w1.heap.size, 3, none⟩ = some (.slice A7 n7 c7) ∧ wr.cell? ⟨w1.heap.size, 4, none⟩ = some (.string (evTo k N p j).s) ∧ Fsl wr w1.heap.size A7 n7 c7 (evTo k N p j).l ∧ (∀ q, wr.frozen? ⟨w1.heap.size, q, none⟩ = false) ∧ w1.heap.size < wr.heap.size ∧ Ext w1 wr) (fun i _ => N - (intOf i).toNat)
            case atStart => exact ⟨0, none, 0, 0, by omega, rfl, by rw [z0]; exact c0, by rw [z0]; exact c1, by rw [z0]; exact c2, c3, by rw [z0]; exact c4, by rw [z0]; exact Fsl.nil _ _, f0, hs0, hg0⟩
            case round =>
              obtain ⟨j, A7, n7, c7, hj, rfl, d0, d1, d2, d3, d4, h7, ff, hsz, hz⟩ := hrel
              clear c0 c1 c2 c3 c4 f0 hs0 hg0 z0
              by_cases hjN : j < N
              · have hkj : k + j < nb := by omega
                obtain ⟨gb, ob, e2, ab⟩ := hb.at2 hkj
                cases e2
                replace ab := hz.cell (hxr1.cell ab)
                have hpb : p.getD j 0 = b.getD (k + j) 0 := by
                  rw [← HP.out]
                  simp only [List.getD_eq_getElem?_getD, List.getElem?_take, List.getElem?_drop]
                  rw [if_pos hjN]
                obtain ⟨pb, hpb2⟩ : ∃ q, b.getD (k + j) 0 = q := ⟨_, rfl⟩
                rw [hpb2] at ab hpb
                by_cases hz0 : pb = 0
                · have he := evTo_same (k := k) (N := N) (p := p) (j := j) (by omega) (by rw [hpb]; exact hz0)
                  rw [← he] at d0 d1 d2 d4 h7
                  have q1 : ((pb.toNat : Int) != 0) = false := by rw [hz0]; rfl
                  clear he hpb hpb2 hz0
                  go_wp2_with fail
                  go_roundw
                  case rel => exact ⟨j + 1, A7, n7, c7, by omega, by go_num, d0, d1, d2, d3, d4, h7, ff, hsz, hz⟩
                  case measure => simp [intOf]; omega
                · have he := evTo_other (k := k) (N := N) (p := p) (j := j) (by omega) (by rw [hpb]; exact hz0)
                  have q1 : ((pb.toNat : Int) != 0) = true := by
                    have : pb.toNat ≠ 0 := fun e => hz0 (UInt8.toNat_inj.1 e)
                    simp; omega
                  have hbz := hb1.ext hz
                  obtain ⟨A9, c9, hcut, l9⟩ := cut_mid hbz k N (k : Int) ((k : Int) + (N : Int)) rfl (by omega) hNb
                  rw [HP.out] at l9
                  obtain ⟨j0, hj0, hy0, hy1, hy2⟩ := info_parts info_u8
                  clear hpb hpb2 hz0
                  go_wp2_with (at_builtin; refine wpList_append_mine _ rfl _ _ _ _ rfl (w1.heap.size + 1) U8 j0 _ 1 1 under_bytes hj0 hy0 hy1 hy2 rfl _ 0 0 _ rfl (Own.nil _ _ _ _ _) _ rfl N (p.map bv) ((l9.ext (Ext.alloc _ _)).src under_bytes) (by simp only [maxLen]; omega) (by omega) (Nat.le_trans hsz (Ext.alloc _ _).size) ?_; intro A6 c6 w6 hown6 hg6 _; have hb6 : Byt U8 w6 (w1.heap.size + 1) A6 N c6 p := ⟨hpl, by simpa using hown6⟩; have hx6 := (Ext.alloc _ _).trans (grown_nil hg6); have e0 := hx6.cell d0; have e1 := hx6.cell d1; have e2 := hx6.cell d2; have e3 := hx6.cell d3; have e4 := hx6.cell d4; have k0 := hx6.frozenD d0 (ff 0); have k1 := hx6.frozenD d1 (ff 1); have k2 := hx6.frozenD d2 (ff 2); have k3 := hx6.frozenD d3 (ff 3); have k4 := hx6.frozenD d4 (ff 4))
                  obtain ⟨W, hW, s0, s1, s2, s3, s4⟩ := set5 e0 e1 e2 e3 e4 (.int .i64 1) (.int .i64 k) (.int .i64 0) (.slice A6 N c6) (.string ⟨#[]⟩)
                  have hfW : ∀ q, W.frozen? ⟨w1.heap.size, q, none⟩ = false := fun q => by
                    rw [hW, set5_frozen]
                    have e : w6.frozen? ⟨w1.heap.size, q, none⟩ = wr.frozen? ⟨w1.heap.size, q, none⟩ := Below.frozen hx6 hsz
                    rw [e]
                    exact ff q
                  have hxW : Ext w1 W := by
                    rw [hW]
                    exact (((((hz.trans hx6).sets (Nat.le_refl _) _).sets (Nat.le_refl _) _).sets (Nat.le_refl _) _).sets (Nat.le_refl _) _).sets (Nat.le_refl _) _
                  have h7W : Fsl W w1.heap.size A6 N c6 p := by
                    rw [hW]
                    exact (((((hb6.fsl.sets (Nat.lt_succ_self _) _).sets (Nat.lt_succ_self _) _).sets (Nat.lt_succ_self _) _).sets (Nat.lt_succ_self _) _).sets (Nat.lt_succ_self _) _).low (Nat.le_succ _)
                  have hsW : w1.heap.size < W.heap.size := by
                    have := hx6.size
                    rw [hW]
                    simp [World.setCell]
                    omega
                  rw [← hW]
                  go_roundw
                  case rel => exact ⟨j + 1, A6, N, c6, by omega, by go_num, by rw [he]; exact s0, by rw [he]; exact s1, by rw [he]; exact s2, s3, by rw [he]; exact s4, by rw [he]; exact h7W, hfW, hsW, hxW⟩
                  case measure => simp [intOf]; omega
              · obtain rfl : N = j := by omega
                rw [evTo_end HP.out hpl] at d0 d1 d2 d4 h7
                obtain ⟨ek, eo, em, el, es, hE⟩ : ∃ ek eo em el es, evAt b k N = ⟨ek, eo, em, el, es⟩ := ⟨_, _, _, _, _, rfl⟩
                have hEs : es.size ≤ maxLen := by
                  have : es = (evAt b k N).s := by rw [hE]
                  rw [this]
                  unfold evAt
                  split <;> exact Nat.zero_le _
                rw [hE] at d0 d1 d2 d4 h7 HN
                simp only at d0 d1 d2 d4 h7
                have hown3 := hown1.ext (fr_rep ev_rep w.heap.size) hz
                have hfd := Feed.lit (P := Try.prog) (e := 28) (tx := 23) (A := Ak) (c := ck) (fr_rep ev_rep w.heap.size) #[.int .i64 ek, .int .i64 eo, .int .i64 em, .slice A7 n7 c7, .string es] ⟨ek, eo, em, el, es⟩ ⟨⟨A7, n7, c7, rfl, h7.sl, hEs⟩, fun j hj => by
                  obtain ⟨ad, q1, q2, q3⟩ := pts_ev hj
                  have h4 := h7.fr ad q1 q2
                  have h5 := hxr1.size
                  omega⟩ under_evs (fun j hj e => by
                  obtain ⟨ad, q1, q2, q3⟩ := pts_ev hj
                  have h4 := h7.fr ad q1 q2
                  have h5 := (hown1.row_lt j e).2
                  omega) rfl
                have hx9 := hxr1.trans hz
                clear hE ff
                go_wp2_with (
                  at_builtin
                  refine wpList_append_lst3 (w0 := w) (fr_rep ev_rep w.heap.size) rfl _ _ _ _ rfl TEv i0 _ 64 under_evs hi0 hz0 hz1 hz2 rfl Ak m ck _ rfl (hown3.ext (fr_rep ev_rep w.heap.size) (Ext.alloc _ _)) _ 1 [⟨ek, eo, em, el, es⟩] rfl hfd (m + 1) rfl _ rfl (by simp only [maxLen]; omega) (by omega) (hx9.allocs _) ?_
                  intro A3 c3 w5 hb5 hx5 hg5 hr5)
                have hbk4 := (hbk1.ext hz).ext (Ext.alloc wr (.cells #[.int .i64 ek, .int .i64 eo, .int .i64 em, .slice A7 n7 c7, .string es] TEv))
                have hbk5 : Byt U8 w5 w.heap.size As nb cs x := ⟨hbk4.len, hbk4.own.grown hg5 fun g hg e => hne.out g hg e.symm⟩
                have hne5 : Hid (∀ g, rowOf As cs = some g → rowOf A3 c3 ≠ some g) := fun g hg e => by
                  rcases hr5 with hr5 | hr5
                  · rw [hr5] at e; exact hne.out g hg e
                  · rw [hr5] at e
                    have h8 := ((hbk1.ext hz).own.row_ge g hg).2
                    simp at e
                    omega
                have HN2 : Hid ((out ++ [⟨ek, eo, em, el, es⟩]) ++ wayL x b (k + N) = R) := by unfold Hid; rw [List.append_assoc]; exact HN.out
                go_wp2_with fail
                go_roundw
                case rel => exact ⟨k + N, m + 1, A3, c3, _, by omega, by omega, rfl, by go_num, hb5, hbk5, hne5, HN2, hx5⟩
                case measure => simp [intOf]; omega
        have q3 : decide ((N : Int) < 64) = true := by simp; omega
        have q3' : decide (N < 64) = true := by simp; omega
        have r2 := runF_end (x := x) (b := b) 64 k (by rw [HRN.out]; exact hN4) (by rw [HRN.out]; omega)
        rw [HRN.out] at r2
        obtain ⟨gx, ox, rfl, ax⟩ := hbk.sl.at2 hkN
        obtain ⟨gb', ob', hbe, ab⟩ := hb.at2 hkN
        subst hbe
        replace ab := hy.cell (hxr.cell ab)
        replace ax := hy.cell ax
        obtain ⟨px, hpx⟩ : ∃ p, x.getD (k + N) 0 = p := ⟨_, rfl⟩
        obtain ⟨pb, hpb⟩ : ∃ p, b.getD (k + N) 0 = p := ⟨_, rfl⟩
        rw [hpx] at ax
        rw [hpb] at ab
        rw [hpx, hpb] at r2
        have q1 : ((px.toNat : Int) != (pb.toNat : Int)) = false := by rw [r2]; simp
        clear r2 hpx hpb
        go_wp2_with fail
        refine wp_region_typed Ext.steady rfl 102 rfl (by kernel_rfl) ?_
        -- 0: Op.move t7
        apply Stage.step (Is _) [] (Is.keeps _) (by kernel_rfl)
        · intro w1 h1
          simp only [Given]
          go_wp2_with fail
          exact Post.isv (Ext.refl _) rfl rfl rfl
        -- 1: Op.move t8
        apply Stage.step (Is _) [] (Is.keeps _) (by kernel_rfl)
        · intro w1 h1
          simp only [Given]
          go_wp2_with fail
          exact Post.isv (Ext.refl _) rfl rfl rfl
        -- 2: Op.binOp BinOp.add 3 t38 t39 3
        apply Stage.step (Is _) [true, true] (Is.keeps _) (by kernel_rfl)
        · intro w1 h1
          simp only [List.nil_append, List.cons_append, Given]
          rintro _ rfl
          rintro _ rfl
          go_wp2_with fail
          exact Post.isv (Ext.refl _) rfl rfl rfl
        -- 3: Op.move t1
        apply Stage.step (Is _) [] (Is.keeps _) (by kernel_rfl)
        · intro w1 h1
          simp only [Given]
          go_wp2_with fail
          exact Post.isv (Ext.refl _) rfl rfl rfl
        -- 4: Op.call { builtin len, args := #[t41], argTypes := #[22] }
        apply Stage.step (Is _) [false, false, false, true] (Is.keeps _) (by kernel_rfl)
        · intro w1 h1
          simp only [List.nil_append, List.cons_append, Given]
          rintro _ rfl
          go_wp2_with fail
          exact Post.isv (Ext.refl _) rfl rfl rfl
        -- 5: Op.binOp BinOp.lss 3 t40 t42 3
        apply Stage.step (Is _) [false, false, true, false, true] (Is.keeps _) (by kernel_rfl)
        · intro w1 h1
          simp only [List.nil_append, List.cons_append, Given]
          rintro _ rfl
          rintro _ rfl
          go_wp2_with fail
          exact Post.isv (Ext.refl _) rfl rfl rfl
        -- 6: Op.move t43
        apply Stage.step (Is _) [false, false, false, false, false, true] (Is.keeps _) (by kernel_rfl)
        · intro w1 h1
          simp only [List.nil_append, List.cons_append, Given]
          rintro _ rfl
          go_wp2_with fail
          exact Post.isv (Ext.refl _) rfl rfl rfl
        -- 7: Op.move t8   [guarded: some (6, true)]
        apply Stage.step (Is _) [false, false, false, false, false, false, true] (Is.keeps _) (by kernel_rfl)
        · intro w1 h1
          simp only [List.nil_append, List.cons_append, Given]
          rintro _ rfl
          go_wp2_with fail
          exact Post.isv (Ext.refl _) rfl rfl rfl
        -- 8: Op.binOp BinOp.lss 3 t45 (const (64:i64)) 3   [guarded: some (6, true)]
        apply Stage.step (Is _) [false, false, false, false, false, false, true, true] (Is.keeps _) (by kernel_rfl)
        · intro w1 h1
          simp only [List.nil_append, List.cons_append, Given]
          rintro _ rfl
          rintro _ rfl
          go_wp2_with fail
          exact Post.isv (Ext.refl _) rfl rfl rfl
        -- 9: Op.pick t44 t46 (const (Value.bool false))
        apply Stage.step (Is _) [false, false, false, false, false, false, true, false, true] (Is.keeps _) (by kernel_rfl)
        · intro w1 h1
          simp only [List.nil_append, List.cons_append, Given]
          rintro _ rfl
          rintro _ rfl
          go_wp2_with fail
          exact Post.isv (Ext.refl _) rfl rfl rfl
        -- 10: Op.move t47
        apply Stage.step (Is _) [false, false, false, false, false, false, false, false, false, true] (Is.keeps _) (by kernel_rfl)
        · intro w1 h1
          simp only [List.nil_append, List.cons_append, Given]
          rintro _ rfl
          go_wp2_with fail
          exact Post.isv (Ext.refl _) rfl rfl rfl
        -- 11: Op.move t6   [guarded: some (10, true)]
        apply Stage.step (Is _) [false, false, false, false, false, false, false, false, false, false, true] (Is.keeps _) (by kernel_rfl)
        · intro w1 h1
          simp only [List.nil_append, List.cons_append, Given]
          rintro _ rfl
          go_wp2_with fail
          exact Post.isv (Ext.refl _) rfl rfl rfl
        -- 12: Op.move t7   [guarded: some (10, true)]
        apply Stage.step (Is _) [false, false, false, false, false, false, false, false, false, false, true] (Is.keeps _) (by kernel_rfl)
        · intro w1 h1
          simp only [List.nil_append, List.cons_append, Given]
          rintro _ rfl
          go_wp2_with fail
          exact Post.isv (Ext.refl _) rfl rfl rfl
        -- 13: Op.move t8   [guarded: some (10, true)]
        apply Stage.step (Is _) [false, false, false, false, false, false, false, false, false, false, true] (Is.keeps _) (by kernel_rfl)
        · intro w1 h1
          simp only [List.nil_append, List.cons_append, Given]
          rintro _ rfl
          go_wp2_with fail
          exact Post.isv (Ext.refl _) rfl rfl rfl
        -- 14: Op.binOp BinOp.add 3 t50 t51 3   [guarded: some (10, true)]
        apply Stage.step (Is _) [false, false, false, false, false, false, false, false, false, false, true, false, true, true] (Is.keeps _) (by kernel_rfl)
        · intro w1 h1
          simp only [List.nil_append, List.cons_append, Given]
          rintro _ rfl
          rintro _ rfl
          rintro _ rfl
          go_wp2_with fail
          exact Post.isv (Ext.refl _) rfl rfl rfl
        -- 15: Op.indexAddr 22 t49 t52   [guarded: some (10, true)]
        apply Stage.step (Is _) [false, false, false, false, false, false, false, false, false, false, true, true, false, false, true] (Is.keeps _) (by kernel_rfl)
        · intro w1 h1
          simp only [List.nil_append, List.cons_append, Given]
          rintro _ rfl
          rintro _ rfl
          rintro _ rfl
          go_wp2_with fail
          exact Post.isv (Ext.refl _) rfl rfl rfl
        -- 16: Op.load 5 t53   [guarded: some (10, true)]
        apply Stage.step (Is _) [false, false, false, false, false, false, false, false, false, false, true, false, false, false, false, true] (Is.keeps _) (by kernel_rfl)
        · intro w1 h1
          simp only [List.nil_append, List.cons_append, Given]
          rintro _ rfl
          rintro _ rfl
          have hq := h1.cell ax
          go_wp2_with fail
          exact Post.isv (Ext.refl _) rfl rfl rfl
        -- 17: Op.move t1   [guarded: some (10, true)]
        apply Stage.step (Is _) [false, false, false, false, false, false, false, false, false, false, true] (Is.keeps _) (by kernel_rfl)
        · intro w1 h1
          simp only [List.nil_append, List.cons_append, Given]
          rintro _ rfl
          go_wp2_with fail
          exact Post.isv (Ext.refl _) rfl rfl rfl
        -- 18: Op.move t7   [guarded: some (10, true)]
        apply Stage.step (Is _) [false, false, false, false, false, false, false, false, false, false, true] (Is.keeps _) (by kernel_rfl)
        · intro w1 h1
          simp only [List.nil_append, List.cons_append, Given]
          rintro _ rfl
          go_wp2_with fail
          exact Post.isv (Ext.refl _) rfl rfl rfl
        -- 19: Op.move t8   [guarded: some (10, true)]
        apply Stage.step (Is _) [false, false, false, false, false, false, false, false, false, false, true] (Is.keeps _) (by kernel_rfl)
        · intro w1 h1
          simp only [List.nil_append, List.cons_append, Given]
          rintro _ rfl
          go_wp2_with fail
          exact Post.isv (Ext.refl _) rfl rfl rfl
        -- 20: Op.binOp BinOp.add 3 t56 t57 3   [guarded: some (10, true)]
        apply Stage.step (Is _) [false, false, false, false, false, false, false, false, false, false, true, false, false, false, false, false, false, false, true, true] (Is.keeps _) (by kernel_rfl)
        · intro w1 h1
          simp only [List.nil_append, List.cons_append, Given]
          rintro _ rfl
          rintro _ rfl
          rintro _ rfl
          go_wp2_with fail
          exact Post.isv (Ext.refl _) rfl rfl rfl
        -- 21: Op.indexAddr 22 t55 t58   [guarded: some (10, true)]
        apply Stage.step (Is _) [false, false, false, false, false, false, false, false, false, false, true, false, false, false, false, false, false, true, false, false, true] (Is.keeps _) (by kernel_rfl)
        · intro w1 h1
          simp only [List.nil_append, List.cons_append, Given]
          rintro _ rfl
          rintro _ rfl
          rintro _ rfl
          go_wp2_with fail
          exact Post.isv (Ext.refl _) rfl rfl rfl
        -- 22: Op.load 5 t59   [guarded: some (10, true)]
        apply Stage.step (Is _) [false, false, false, false, false, false, false, false, false, false, true, false, false, false, false, false, false, false, false, false, false, true] (Is.keeps _) (by kernel_rfl)
        · intro w1 h1
          simp only [List.nil_append, List.cons_append, Given]
          rintro _ rfl
          rintro _ rfl
          have hq := h1.cell ab
          go_wp2_with fail
          exact Post.isv (Ext.refl _) rfl rfl rfl
        -- 23: Op.binOp BinOp.neq 5 t54 t60 5   [guarded: some (10, true)]
        apply Stage.step (Is _) [false, false, false, false, false, false, false, false, false, false, true, false, false, false, false, false, true, false, false, false, false, false, true] (Is.keeps _) (by kernel_rfl)
        · intro w1 h1
          simp only [List.nil_append, List.cons_append, Given]
          rintro _ rfl
          rintro _ rfl
          rintro _ rfl
          go_wp2_with fail
          exact Post.isv (Ext.refl _) rfl rfl rfl
        -- 24: Op.pick t48 t61 (const (Value.bool false))
        apply Stage.step (Is _) [false, false, false, false, false, false, false, false, false, false, true, false, false, false, false, false, false, false, false, false, false, false, false, true] (Is.keeps _) (by kernel_rfl)
        · intro w1 h1
          simp only [List.nil_append, List.cons_append, Given]
          rintro _ rfl
          rintro _ rfl
          go_wp2_with fail
          exact Post.isv (Ext.refl _) rfl rfl rfl
        apply Stage.nil
        intro w1 h1
        simp only [List.nil_append, List.cons_append]
        refine Fin.is_ ?_
        refine Fin.is_ ?_
        refine Fin.is_ ?_
        refine Fin.is_ ?_
        refine Fin.is_ ?_
        refine Fin.is_ ?_
        refine Fin.is_ ?_
        refine Fin.is_ ?_
        refine Fin.is_ ?_
        refine Fin.is_ ?_
        refine Fin.is_ ?_
        refine Fin.is_ ?_
        refine Fin.is_ ?_
        refine Fin.is_ ?_
        refine Fin.is_ ?_
        refine Fin.is_ ?_
        refine Fin.is_ ?_
        refine Fin.is_ ?_
        refine Fin.is_ ?_
        refine Fin.is_ ?_
        refine Fin.is_ ?_
        refine Fin.is_ ?_
        refine Fin.is_ ?_
        refine Fin.is_ ?_
        refine Fin.is_ ?_
        refine Fin.nil_ ?_
        go_simp
        replace hy := hy.trans h1
        clear h1
        by_cases hN0 : N = 0
        · subst hN0
          have hpp : x.getD k 0 = b.getD k 0 := by
            by_cases e : x.getD k 0 = b.getD k 0
            · exact e
            · have := runF_pos64 (x := x) (b := b) (i := k) (by omega) e
              rw [HRN.out] at this
              omega
          have HN := hrk.out
          rw [way_same (by omega) hpp] at HN
          have HN := Lib.hid HN
          clear hpp hrk
          go_wp2_with fail
          go_roundw
          case rel => exact ⟨k + 1, m, Ak, ck, out, by omega, by omega, rfl, by go_num, hown.ext (fr_rep ev_rep w.heap.size) hy, hbk.ext hy, hne, HN, hxr.trans hy⟩
          case measure => simp [intOf]; omega
        · have hpp : x.getD k 0 ≠ b.getD k 0 := fun e => hN0 (by rw [← HRN.out]; exact runF_no fun _ => e)
          have HN := hrk.out
          rw [way_diff (by omega) hpp, HRN.out] at HN
          have HN := Lib.hid HN
          have qN : ((N : Int) == 0) = false := by simp; omega
          have hN1 : 1 ≤ N := by omega
          have hown1 := hown.ext (fr_rep ev_rep w.heap.size) hy
          have hbk1 := hbk.ext hy
          have hxr1 := hxr.trans hy
          clear hpp hrk hN0
          obtain ⟨p, hp⟩ : ∃ p, (b.drop k).take N = p := ⟨_, rfl⟩
          have hpl : p.length = N := by rw [← hp, List.length_take, List.length_drop]; omega
          have HP := Lib.hid hp
          have z0 := evTo_zero k N p
          have c0 : (w1.alloc (.cells #[.int .i64 3, .int .i64 k, .int .i64 N, .slice none 0 0, .string ⟨#[]⟩] TEv)).cell? ⟨w1.heap.size, 0, none⟩ = some (.int .i64 3) := cell_new w1 _ _ 0
          have c1 : (w1.alloc (.cells #[.int .i64 3, .int .i64 k, .int .i64 N, .slice none 0 0, .string ⟨#[]⟩] TEv)).cell? ⟨w1.heap.size, 1, none⟩ = some (.int .i64 k) := cell_new w1 _ _ 1
          have c2 : (w1.alloc (.cells #[.int .i64 3, .int .i64 k, .int .i64 N, .slice none 0 0, .string ⟨#[]⟩] TEv)).cell? ⟨w1.heap.size, 2, none⟩ = some (.int .i64 N) := cell_new w1 _ _ 2
          have c3 : (w1.alloc (.cells #[.int .i64 3, .int .i64 k, .int .i64 N, .slice none 0 0, .string ⟨#[]⟩] TEv)).cell? ⟨w1.heap.size, 3, none⟩ = some (.slice none 0 0) := cell_new w1 _ _ 3
          have c4 : (w1.alloc (.cells #[.int .i64 3, .int .i64 k, .int .i64 N, .slice none 0 0, .string ⟨#[]⟩] TEv)).cell? ⟨w1.heap.size, 4, none⟩ = some (.string ⟨#[]⟩) := cell_new w1 _ _ 4
          have f0 : ∀ q, (w1.alloc (.cells #[.int .i64 3, .int .i64 k, .int .i64 N, .slice none 0 0, .string ⟨#[]⟩] TEv)).frozen? ⟨w1.heap.size, q, none⟩ = false := fun q => fr_newD w1 _ _ q
          have hs0 : w1.heap.size < (w1.alloc (.cells #[.int .i64 3, .int .i64 k, .int .i64 N, .slice none 0 0, .string ⟨#[]⟩] TEv)).heap.size := by simp
          have hg0 := Ext.alloc w1 (.cells #[.int .i64 3, .int .i64 k, .int .i64 N, .slice none 0 0, .string ⟨#[]⟩] TEv)
          have hb1 := hb.ext hxr1
          clear hp
          go_wp2_with fail
          go_loopw [10] (fun i wr => ∃ (j : Nat) (A7 : Option Addr) (n7 c7 : Nat), j ≤ N ∧ i = .int .i64 j ∧ wr.cell? ⟨w1.heap.size, 0, none⟩ = some (.int .i64 (evTo k N p j).k) ∧ wr.cell? ⟨w1.heap.size, 1, none⟩ = some (.int .i64 (evTo k N p j).o) ∧ wr.cell? ⟨w1.heap.size, 2, none⟩ = some (.int .i64 (evTo k N p j).m) ∧ wr.cell? ⟨w1.heap.size, 3, none⟩ = some (.slice A7 n7 c7) ∧ wr.cell? ⟨w1.heap.size, 4, none⟩ = some (.string (evTo k N p j).s) ∧ Fsl wr w1.heap.size A7 n7 c7 (evTo k N p j).l ∧ (∀ q, wr.frozen? ⟨w1.heap.size, q, none⟩ = false) ∧ w1.heap.size < wr.heap.size ∧ Ext w1 wr) (fun i _ => N - (intOf i).toNat)
          case atStart => exact ⟨0, none, 0, 0, by omega, rfl, by rw [z0]; exact c0, by rw [z0]; exact c1, by rw [z0]; exact c2, c3, by rw [z0]; exact c4, by rw [z0]; exact Fsl.nil _ _, f0, hs0, hg0⟩
          case round =>
            obtain ⟨j, A7, n7, c7, hj, rfl, d0, d1, d2, d3, d4, h7, ff, hsz, hz⟩ := hrel
            clear c0 c1 c2 c3 c4 f0 hs0 hg0 z0
            by_cases hjN : j < N
            · have hkj : k + j < nb := by omega
              obtain ⟨gb, ob, e2, ab⟩ := hb.at2 hkj
              cases e2
              replace ab := hz.cell (hxr1.cell ab)
              have hpb : p.getD j 0 = b.getD (k + j) 0 := by
                rw [← HP.out]
                simp only [List.getD_eq_getElem?_getD, List.getElem?_take, List.getElem?_drop]
                rw [if_pos hjN]
              obtain ⟨pb, hpb2⟩ : ∃ q, b.getD (k + j) 0 = q := ⟨_, rfl⟩
              rw [hpb2] at ab hpb
              by_cases hz0 : pb = 0
              · have he := evTo_same (k := k) (N := N) (p := p) (j := j) (by omega) (by rw [hpb]; exact hz0)
                rw [← he] at d0 d1 d2 d4 h7
                have q1 : ((pb.toNat : Int) != 0) = false := by rw [hz0]; rfl
                clear he hpb hpb2 hz0
                go_wp2_with fail
                go_roundw
                case rel => exact ⟨j + 1, A7, n7, c7, by omega, by go_num, d0, d1, d2, d3, d4, h7, ff, hsz, hz⟩
                case measure => simp [intOf]; omega
              · have he := evTo_other (k := k) (N := N) (p := p) (j := j) (by omega) (by rw [hpb]; exact hz0)
                have q1 : ((pb.toNat : Int) != 0) = true := by
                  have : pb.toNat ≠ 0 := fun e => hz0 (UInt8.toNat_inj.1 e)
                  simp; omega
                have hbz := hb1.ext hz
                obtain ⟨A9, c9, hcut, l9⟩ := cut_mid hbz k N (k : Int) ((k : Int) + (N : Int)) rfl (by omega) hNb
                rw [HP.out] at l9
                obtain ⟨j0, hj0, hy0, hy1, hy2⟩ := info_parts info_u8
                clear hpb hpb2 hz0
                go_wp2_with (at_builtin; refine wpList_append_mine _ rfl _ _ _ _ rfl (w1.heap.size + 1) U8 j0 _ 1 1 under_bytes hj0 hy0 hy1 hy2 rfl _ 0 0 _ rfl (Own.nil _ _ _ _ _) _ rfl N (p.map bv) ((l9.ext (Ext.alloc _ _)).src under_bytes) (by simp only [maxLen]; omega) (by omega) (Nat.le_trans hsz (Ext.alloc _ _).size) ?_; intro A6 c6 w6 hown6 hg6 _; have hb6 : Byt U8 w6 (w1.heap.size + 1) A6 N c6 p := ⟨hpl, by simpa using hown6⟩; have hx6 := (Ext.alloc _ _).trans (grown_nil hg6); have e0 := hx6.cell d0; have e1 := hx6.cell d1; have e2 := hx6.cell d2; have e3 := hx6.cell d3; have e4 := hx6.cell d4; have k0 := hx6.frozenD d0 (ff 0); have k1 := hx6.frozenD d1 (ff 1); have k2 := hx6.frozenD d2 (ff 2); have k3 := hx6.frozenD d3 (ff 3); have k4 := hx6.frozenD d4 (ff 4))
                obtain ⟨W, hW, s0, s1, s2, s3, s4⟩ := set5 e0 e1 e2 e3 e4 (.int .i64 1) (.int .i64 k) (.int .i64 0) (.slice A6 N c6) (.string ⟨#[]⟩)
                have hfW : ∀ q, W.frozen? ⟨w1.heap.size, q, none⟩ = false := fun q => by
                  rw [hW, set5_frozen]
                  have e : w6.frozen? ⟨w1.heap.size, q, none⟩ = wr.frozen? ⟨w1.heap.size, q, none⟩ := Below.frozen hx6 hsz
                  rw [e]
                  exact ff q
                have hxW : Ext w1 W := by
                  rw [hW]
                  exact (((((hz.trans hx6).sets (Nat.le_refl _) _).sets (Nat.le_refl _) _).sets (Nat.le_refl _) _).sets (Nat.le_refl _) _).sets (Nat.le_refl _) _
                have h7W : Fsl W w1.heap.size A6 N c6 p := by
                  rw [hW]
                  exact (((((hb6.fsl.sets (Nat.lt_succ_self _) _).sets (Nat.lt_succ_self _) _).sets (Nat.lt_succ_self _) _).sets (Nat.lt_succ_self _) _).sets (Nat.lt_succ_self _) _).low (Nat.le_succ _)
                have hsW : w1.heap.size < W.heap.size := by
                  have := hx6.size
                  rw [hW]
                  simp [World.setCell]
                  omega
                rw [← hW]
                go_roundw
                case rel => exact ⟨j + 1, A6, N, c6, by omega, by go_num, by rw [he]; exact s0, by rw [he]; exact s1, by rw [he]; exact s2, s3, by rw [he]; exact s4, by rw [he]; exact h7W, hfW, hsW, hxW⟩
                case measure => simp [intOf]; omega
            · obtain rfl : N = j := by omega
              rw [evTo_end HP.out hpl] at d0 d1 d2 d4 h7
              obtain ⟨ek, eo, em, el, es, hE⟩ : ∃ ek eo em el es, evAt b k N = ⟨ek, eo, em, el, es⟩ := ⟨_, _, _, _, _, rfl⟩
              have hEs : es.size ≤ maxLen := by
                have : es = (evAt b k N).s := by rw [hE]
                rw [this]
                unfold evAt
                split <;> exact Nat.zero_le _
              rw [hE] at d0 d1 d2 d4 h7 HN
              simp only at d0 d1 d2 d4 h7
              have hown3 := hown1.ext (fr_rep ev_rep w.heap.size) hz
              have hfd := Feed.lit (P := Try.prog) (e := 28) (tx := 23) (A := Ak) (c := ck) (fr_rep ev_rep w.heap.size) #[.int .i64 ek, .int .i64 eo, .int .i64 em, .slice A7 n7 c7, .string es] ⟨ek, eo, em, el, es⟩ ⟨⟨A7, n7, c7, rfl, h7.sl, hEs⟩, fun j hj => by
                obtain ⟨ad, q1, q2, q3⟩ := pts_ev hj
                have h4 := h7.fr ad q1 q2
                have h5 := hxr1.size
                omega⟩ under_evs (fun j hj e => by
                obtain ⟨ad, q1, q2, q3⟩ := pts_ev hj
                have h4 := h7.fr ad q1 q2
                have h5 := (hown1.row_lt j e).2
                omega) rfl
              have hx9 := hxr1.trans hz
              clear hE ff
              go_wp2_with (
                at_builtin
                refine wpList_append_lst3 (w0 := w) (fr_rep ev_rep w.heap.size) rfl _ _ _ _ rfl TEv i0 _ 64 under_evs hi0 hz0 hz1 hz2 rfl Ak m ck _ rfl (hown3.ext (fr_rep ev_rep w.heap.size) (Ext.alloc _ _)) _ 1 [⟨ek, eo, em, el, es⟩] rfl hfd (m + 1) rfl _ rfl (by simp only [maxLen]; omega) (by omega) (hx9.allocs _) ?_
                intro A3 c3 w5 hb5 hx5 hg5 hr5)
              have hbk4 := (hbk1.ext hz).ext (Ext.alloc wr (.cells #[.int .i64 ek, .int .i64 eo, .int .i64 em, .slice A7 n7 c7, .string es] TEv))
              have hbk5 : Byt U8 w5 w.heap.size (some ⟨gx, ox, none⟩) nb cs x := ⟨hbk4.len, hbk4.own.grown hg5 fun g hg e => hne.out g hg e.symm⟩
              have hne5 : Hid (∀ g, rowOf (some ⟨gx, ox, none⟩) cs = some g → rowOf A3 c3 ≠ some g) := fun g hg e => by
                rcases hr5 with hr5 | hr5
                · rw [hr5] at e; exact hne.out g hg e
                · rw [hr5] at e
                  have h8 := ((hbk1.ext hz).own.row_ge g hg).2
                  simp at e
                  omega
              have HN2 : Hid ((out ++ [⟨ek, eo, em, el, es⟩]) ++ wayL x b (k + N) = R) := by unfold Hid; rw [List.append_assoc]; exact HN.out
              go_wp2_with fail
              go_roundw
              case rel => exact ⟨k + N, m + 1, A3, c3, _, by omega, by omega, rfl, by go_num, hb5, hbk5, hne5, HN2, hx5⟩
              case measure => simp [intOf]; omega
end Go.Proofs.Ytcklkjklepmabaa
