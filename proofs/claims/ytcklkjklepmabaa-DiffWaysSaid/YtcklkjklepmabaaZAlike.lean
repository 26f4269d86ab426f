/-
  Two images with snapshots: how many of their snapshots are alike: contract of alike.
-/
import Derived.Test.YtcklkjklepmabaaZWayPlain
namespace Go.Proofs.Ytcklkjklepmabaa
open Go.RowKit
set_option linter.unusedVariables false
set_option linter.unusedSimpArgs false
set_option linter.unnecessarySimpa false
set_option maxRecDepth 100000

set_option maxHeartbeats 4000000 in
theorem diff_alike {A : Option Addr} {n c : Nat} {A2 : Option Addr} {n2 c2 : Nat} {s : St} {B : Option Addr} {m d : Nat} {B2 : Option Addr} {m2 d2 : Nat} {t : St} {w : World} (h1 : StR w A n c A2 n2 c2 s) (h2 : StR w B m d B2 m2 d2 t) {r : Nat} (hr : Hid (alikeL s.sn t.sn = r)) :
    Calls Try.prog 64 #[stV A n c A2 n2 c2, stV B m d B2 m2 d2] w fun e w' => e = .returned (.int .i64 r) ∧ Ext w w' := by
  obtain ⟨_, l1⟩ := h1
  obtain ⟨_, l2⟩ := h2
  have h63 := l1.n63
  have h63' := l2.n63
  obtain ⟨W, hW⟩ : ∃ W, (w.alloc (.cells #[.slice A n c, .slice A2 n2 c2] TSt)).alloc (.cells #[.slice B m d, .slice B2 m2 d2] TSt) = W := ⟨_, rfl⟩
  have gW : Ext w W := by rw [← hW]; exact (Ext.alloc _ _).trans (Ext.alloc _ _)
  have s1 : W.cell? ⟨w.heap.size, 1, none⟩ = some (.slice A2 n2 c2) := by rw [← hW]; exact (Ext.alloc _ _).cell (cell_new w _ _ 1)
  have u1 : W.cell? ⟨w.heap.size + 1, 1, none⟩ = some (.slice B2 m2 d2) := by rw [← hW]; have := cell_new (w.alloc (.cells #[.slice A n c, .slice A2 n2 c2] TSt)) #[.slice B m d, .slice B2 m2 d2] TSt 1; simpa using this
  have hr0 : Hid (0 + alikeL (s.sn.drop 0) (t.sn.drop 0) = r) := Lib.hid (by rw [List.drop_zero, List.drop_zero, Nat.zero_add]; exact hr.out)
  clear hr
  go_enter Try.func64, Try.ntmps64
  go_wp2_with fail
  clear hW
  go_loopw [5] (fun i wr => ∃ k : Nat, k ≤ n2 ∧ i = .int .i64 k ∧ Hid (k + alikeL (s.sn.drop k) (t.sn.drop k) = r) ∧ Ext W wr) (fun i _ => n2 - (intOf i).toNat)
  case atStart => exact ⟨0, by omega, rfl, hr0, Ext.refl _⟩
  case round =>
    obtain ⟨k, hk, rfl, hrk, hxr⟩ := hrel
    clear hr0
    replace s1 := hxr.cell s1
    replace u1 := hxr.cell u1
    have gx := gW.trans hxr
    by_cases hlt : k < n2
    · have k1 : decide ((k : Int) < (n2 : Int)) = true := by simp; omega
      by_cases hlt2 : k < m2
      · have k2 : decide ((k : Int) < (m2 : Int)) = true := by simp; omega
        obtain ⟨ga, oa, x, cs, rfl, hx, ⟨Aa, na, ca, rfl, sa0, hs⟩, ha⟩ := l1.at2 ol_rep (by omega) hlt
        obtain ⟨gb, ob, y, cs', rfl, hy, ⟨Ab, nb, cb, rfl, sb0, hs'⟩, hb⟩ := l2.at2 ol_rep (by omega) hlt2
        have a0 : wr.cell? ⟨ga, oa + k * 2, none⟩ = _ := gx.cell (ha 0 _ rfl)
        have a1 := gx.cell (ha 1 _ rfl)
        have b0 : wr.cell? ⟨gb, ob + k * 2, none⟩ = _ := gx.cell (hb 0 _ rfl)
        have b1 := gx.cell (hb 1 _ rfl)
        have sa := sa0.ext gx
        have sb := sb0.ext gx
        have e1 := drop_stepO hx
        have e2 := drop_stepO hy
        have hro := hrk.out
        rw [e1, e2, alikeL] at hro
        obtain ⟨xn, xd⟩ := x
        obtain ⟨yn, yd⟩ := y
        simp only at a0 a1 b0 b1 sa sb hs hs'
        clear ha hb hx hy sa0 sb0 e1 e2
        by_cases hn : xn = yn
        · have k3 : (xn.toList == yn.toList) = true := by rw [hn]; simp
          by_cases hd : xd = yd
          · rw [if_pos (by rw [hn, hd])] at hro
            replace hrk := Lib.hid (show (k + 1) + alikeL (s.sn.drop (k + 1)) (t.sn.drop (k + 1)) = r by omega)
            have k4 : (xd == yd) = true := by simpa using hd
            clear hro hn hd
            go_wp2_with fail
            refine wp_region_typed Ext.steady rfl 51 rfl (by kernel_rfl) ?_
            -- 0: Op.move t5
            apply Stage.step (Is _) [] (Is.keeps _) (by kernel_rfl)
            · intro w1 h1
              simp only [Given]
              go_wp2_with fail
              exact Post.isv (Ext.refl _) rfl rfl rfl
            -- 1: Op.fieldAddr 35 t2 1
            apply Stage.step (Is _) [] (Is.keeps _) (by kernel_rfl)
            · intro w1 h1
              simp only [Given]
              go_wp2_with fail
              exact Post.isv (Ext.refl _) rfl rfl rfl
            -- 2: Op.load 33 t7
            apply Stage.step (Is _) [false, true] (Is.keeps _) (by kernel_rfl)
            · intro w1 h1
              simp only [List.nil_append, List.cons_append, Given]
              rintro _ rfl
              have hq := h1.cell s1
              go_wp2_with fail
              exact Post.isv (Ext.refl _) rfl rfl rfl
            -- 3: Op.call { builtin len, args := #[t8], argTypes := #[33] }
            apply Stage.step (Is _) [false, false, true] (Is.keeps _) (by kernel_rfl)
            · intro w1 h1
              simp only [List.nil_append, List.cons_append, Given]
              rintro _ rfl
              go_wp2_with fail
              exact Post.isv (Ext.refl _) rfl rfl rfl
            -- 4: Op.binOp BinOp.lss 3 t6 t9 3
            apply Stage.step (Is _) [true, false, false, true] (Is.keeps _) (by kernel_rfl)
            · intro w1 h1
              simp only [List.nil_append, List.cons_append, Given]
              rintro _ rfl
              rintro _ rfl
              go_wp2_with fail
              exact Post.isv (Ext.refl _) rfl rfl rfl
            -- 5: Op.move t10
            apply Stage.step (Is _) [false, false, false, false, true] (Is.keeps _) (by kernel_rfl)
            · intro w1 h1
              simp only [List.nil_append, List.cons_append, Given]
              rintro _ rfl
              go_wp2_with fail
              exact Post.isv (Ext.refl _) rfl rfl rfl
            -- 6: Op.move t5   [guarded: some (5, true)]
            apply Stage.step (Is _) [false, false, false, false, false, true] (Is.keeps _) (by kernel_rfl)
            · intro w1 h1
              simp only [List.nil_append, List.cons_append, Given]
              rintro _ rfl
              go_wp2_with fail
              exact Post.isv (Ext.refl _) rfl rfl rfl
            -- 7: Op.fieldAddr 35 t3 1   [guarded: some (5, true)]
            apply Stage.step (Is _) [false, false, false, false, false, true] (Is.keeps _) (by kernel_rfl)
            · intro w1 h1
              simp only [List.nil_append, List.cons_append, Given]
              rintro _ rfl
              go_wp2_with fail
              exact Post.isv (Ext.refl _) rfl rfl rfl
            -- 8: Op.load 33 t13   [guarded: some (5, true)]
            apply Stage.step (Is _) [false, false, false, false, false, true, false, true] (Is.keeps _) (by kernel_rfl)
            · intro w1 h1
              simp only [List.nil_append, List.cons_append, Given]
              rintro _ rfl
              rintro _ rfl
              have hq := h1.cell u1
              go_wp2_with fail
              exact Post.isv (Ext.refl _) rfl rfl rfl
            -- 9: Op.call { builtin len, args := #[t14], argTypes := #[33] }   [guarded: some (5, true)]
            apply Stage.step (Is _) [false, false, false, false, false, true, false, false, true] (Is.keeps _) (by kernel_rfl)
            · intro w1 h1
              simp only [List.nil_append, List.cons_append, Given]
              rintro _ rfl
              rintro _ rfl
              go_wp2_with fail
              exact Post.isv (Ext.refl _) rfl rfl rfl
            -- 10: Op.binOp BinOp.lss 3 t12 t15 3   [guarded: some (5, true)]
            apply Stage.step (Is _) [false, false, false, false, false, true, true, false, false, true] (Is.keeps _) (by kernel_rfl)
            · intro w1 h1
              simp only [List.nil_append, List.cons_append, Given]
              rintro _ rfl
              rintro _ rfl
              rintro _ rfl
              go_wp2_with fail
              exact Post.isv (Ext.refl _) rfl rfl rfl
            -- 11: Op.pick t11 t16 (const (Value.bool false))
            apply Stage.step (Is _) [false, false, false, false, false, true, false, false, false, false, true] (Is.keeps _) (by kernel_rfl)
            · intro w1 h1
              simp only [List.nil_append, List.cons_append, Given]
              rintro _ rfl
              rintro _ rfl
              go_wp2_with fail
              exact Post.isv (Ext.refl _) rfl rfl rfl
            -- 12: Op.move t17
            apply Stage.step (Is _) [false, false, false, false, false, false, false, false, false, false, false, true] (Is.keeps _) (by kernel_rfl)
            · intro w1 h1
              simp only [List.nil_append, List.cons_append, Given]
              rintro _ rfl
              go_wp2_with fail
              exact Post.isv (Ext.refl _) rfl rfl rfl
            -- 13: Op.fieldAddr 35 t2 1   [guarded: some (12, true)]
            apply Stage.step (Is _) [false, false, false, false, false, false, false, false, false, false, false, false, true] (Is.keeps _) (by kernel_rfl)
            · intro w1 h1
              simp only [List.nil_append, List.cons_append, Given]
              rintro _ rfl
              go_wp2_with fail
              exact Post.isv (Ext.refl _) rfl rfl rfl
            -- 14: Op.load 33 t19   [guarded: some (12, true)]
            apply Stage.step (Is _) [false, false, false, false, false, false, false, false, false, false, false, false, true, true] (Is.keeps _) (by kernel_rfl)
            · intro w1 h1
              simp only [List.nil_append, List.cons_append, Given]
              rintro _ rfl
              rintro _ rfl
              have hq := h1.cell s1
              go_wp2_with fail
              exact Post.isv (Ext.refl _) rfl rfl rfl
            -- 15: Op.move t5   [guarded: some (12, true)]
            apply Stage.step (Is _) [false, false, false, false, false, false, false, false, false, false, false, false, true] (Is.keeps _) (by kernel_rfl)
            · intro w1 h1
              simp only [List.nil_append, List.cons_append, Given]
              rintro _ rfl
              go_wp2_with fail
              exact Post.isv (Ext.refl _) rfl rfl rfl
            -- 16: Op.indexAddr 33 t20 t21   [guarded: some (12, true)]
            apply Stage.step (Is _) [false, false, false, false, false, false, false, false, false, false, false, false, true, false, true, true] (Is.keeps _) (by kernel_rfl)
            · intro w1 h1
              simp only [List.nil_append, List.cons_append, Given]
              rintro _ rfl
              rintro _ rfl
              rintro _ rfl
              go_wp2_with fail
              exact Post.isv (Ext.refl _) rfl rfl rfl
            -- 17: Op.fieldAddr 42 t22 0   [guarded: some (12, true)]
            apply Stage.step (Is _) [false, false, false, false, false, false, false, false, false, false, false, false, true, false, false, false, true] (Is.keeps _) (by kernel_rfl)
            · intro w1 h1
              simp only [List.nil_append, List.cons_append, Given]
              rintro _ rfl
              rintro _ rfl
              go_wp2_with fail
              exact Post.isv (Ext.refl _) rfl rfl rfl
            -- 18: Op.load 9 t23   [guarded: some (12, true)]
            apply Stage.step (Is _) [false, false, false, false, false, false, false, false, false, false, false, false, true, false, false, false, false, true] (Is.keeps _) (by kernel_rfl)
            · intro w1 h1
              simp only [List.nil_append, List.cons_append, Given]
              rintro _ rfl
              rintro _ rfl
              have hq := h1.cell a0
              go_wp2_with fail
              exact Post.isv (Ext.refl _) rfl rfl rfl
            -- 19: Op.fieldAddr 35 t3 1   [guarded: some (12, true)]
            apply Stage.step (Is _) [false, false, false, false, false, false, false, false, false, false, false, false, true] (Is.keeps _) (by kernel_rfl)
            · intro w1 h1
              simp only [List.nil_append, List.cons_append, Given]
              rintro _ rfl
              go_wp2_with fail
              exact Post.isv (Ext.refl _) rfl rfl rfl
            -- 20: Op.load 33 t25   [guarded: some (12, true)]
            apply Stage.step (Is _) [false, false, false, false, false, false, false, false, false, false, false, false, true, false, false, false, false, false, false, true] (Is.keeps _) (by kernel_rfl)
            · intro w1 h1
              simp only [List.nil_append, List.cons_append, Given]
              rintro _ rfl
              rintro _ rfl
              have hq := h1.cell u1
              go_wp2_with fail
              exact Post.isv (Ext.refl _) rfl rfl rfl
            -- 21: Op.move t5   [guarded: some (12, true)]
            apply Stage.step (Is _) [false, false, false, false, false, false, false, false, false, false, false, false, true] (Is.keeps _) (by kernel_rfl)
            · intro w1 h1
              simp only [List.nil_append, List.cons_append, Given]
              rintro _ rfl
              go_wp2_with fail
              exact Post.isv (Ext.refl _) rfl rfl rfl
            -- 22: Op.indexAddr 33 t26 t27   [guarded: some (12, true)]
            apply Stage.step (Is _) [false, false, false, false, false, false, false, false, false, false, false, false, true, false, false, false, false, false, false, false, true, true] (Is.keeps _) (by kernel_rfl)
            · intro w1 h1
              simp only [List.nil_append, List.cons_append, Given]
              rintro _ rfl
              rintro _ rfl
              rintro _ rfl
              go_wp2_with fail
              exact Post.isv (Ext.refl _) rfl rfl rfl
            -- 23: Op.fieldAddr 42 t28 0   [guarded: some (12, true)]
            apply Stage.step (Is _) [false, false, false, false, false, false, false, false, false, false, false, false, true, false, false, false, false, false, false, false, false, false, true] (Is.keeps _) (by kernel_rfl)
            · intro w1 h1
              simp only [List.nil_append, List.cons_append, Given]
              rintro _ rfl
              rintro _ rfl
              go_wp2_with fail
              exact Post.isv (Ext.refl _) rfl rfl rfl
            -- 24: Op.load 9 t29   [guarded: some (12, true)]
            apply Stage.step (Is _) [false, false, false, false, false, false, false, false, false, false, false, false, true, false, false, false, false, false, false, false, false, false, false, true] (Is.keeps _) (by kernel_rfl)
            · intro w1 h1
              simp only [List.nil_append, List.cons_append, Given]
              rintro _ rfl
              rintro _ rfl
              have hq := h1.cell b0
              go_wp2_with fail
              exact Post.isv (Ext.refl _) rfl rfl rfl
            -- 25: Op.binOp BinOp.eql 9 t24 t30 9   [guarded: some (12, true)]
            apply Stage.step (Is _) [false, false, false, false, false, false, false, false, false, false, false, false, true, false, false, false, false, false, true, false, false, false, false, false, true] (Is.keeps _) (by kernel_rfl)
            · intro w1 h1
              simp only [List.nil_append, List.cons_append, Given]
              rintro _ rfl
              rintro _ rfl
              rintro _ rfl
              go_wp2_with fail
              exact Post.isv (Ext.refl _) rfl rfl rfl
            -- 26: Op.pick t18 t31 (const (Value.bool false))
            apply Stage.step (Is _) [false, false, false, false, false, false, false, false, false, false, false, false, true, false, false, false, false, false, false, false, false, false, false, false, false, true] (Is.keeps _) (by kernel_rfl)
            · intro w1 h1
              simp only [List.nil_append, List.cons_append, Given]
              rintro _ rfl
              rintro _ rfl
              go_wp2_with fail
              exact Post.isv (Ext.refl _) rfl rfl rfl
            -- 27: Op.move t32
            apply Stage.step (Is _) [false, false, false, false, false, false, false, false, false, false, false, false, false, false, false, false, false, false, false, false, false, false, false, false, false, false, true] (Is.keeps _) (by kernel_rfl)
            · intro w1 h1
              simp only [List.nil_append, List.cons_append, Given]
              rintro _ rfl
              go_wp2_with fail
              exact Post.isv (Ext.refl _) rfl rfl rfl
            -- 28: Op.fieldAddr 35 t2 1   [guarded: some (27, true)]
            apply Stage.step (Is _) [false, false, false, false, false, false, false, false, false, false, false, false, false, false, false, false, false, false, false, false, false, false, false, false, false, false, false, true] (Is.keeps _) (by kernel_rfl)
            · intro w1 h1
              simp only [List.nil_append, List.cons_append, Given]
              rintro _ rfl
              go_wp2_with fail
              exact Post.isv (Ext.refl _) rfl rfl rfl
            -- 29: Op.load 33 t34   [guarded: some (27, true)]
            apply Stage.step (Is _) [false, false, false, false, false, false, false, false, false, false, false, false, false, false, false, false, false, false, false, false, false, false, false, false, false, false, false, true, true] (Is.keeps _) (by kernel_rfl)
            · intro w1 h1
              simp only [List.nil_append, List.cons_append, Given]
              rintro _ rfl
              rintro _ rfl
              have hq := h1.cell s1
              go_wp2_with fail
              exact Post.isv (Ext.refl _) rfl rfl rfl
            -- 30: Op.move t5   [guarded: some (27, true)]
            apply Stage.step (Is _) [false, false, false, false, false, false, false, false, false, false, false, false, false, false, false, false, false, false, false, false, false, false, false, false, false, false, false, true] (Is.keeps _) (by kernel_rfl)
            · intro w1 h1
              simp only [List.nil_append, List.cons_append, Given]
              rintro _ rfl
              go_wp2_with fail
              exact Post.isv (Ext.refl _) rfl rfl rfl
            -- 31: Op.indexAddr 33 t35 t36   [guarded: some (27, true)]
            apply Stage.step (Is _) [false, false, false, false, false, false, false, false, false, false, false, false, false, false, false, false, false, false, false, false, false, false, false, false, false, false, false, true, false, true, true] (Is.keeps _) (by kernel_rfl)
            · intro w1 h1
              simp only [List.nil_append, List.cons_append, Given]
              rintro _ rfl
              rintro _ rfl
              rintro _ rfl
              go_wp2_with fail
              exact Post.isv (Ext.refl _) rfl rfl rfl
            -- 32: Op.fieldAddr 42 t37 1   [guarded: some (27, true)]
            apply Stage.step (Is _) [false, false, false, false, false, false, false, false, false, false, false, false, false, false, false, false, false, false, false, false, false, false, false, false, false, false, false, true, false, false, false, true] (Is.keeps _) (by kernel_rfl)
            · intro w1 h1
              simp only [List.nil_append, List.cons_append, Given]
              rintro _ rfl
              rintro _ rfl
              go_wp2_with fail
              exact Post.isv (Ext.refl _) rfl rfl rfl
            -- 33: Op.load 22 t38   [guarded: some (27, true)]
            apply Stage.step (Is _) [false, false, false, false, false, false, false, false, false, false, false, false, false, false, false, false, false, false, false, false, false, false, false, false, false, false, false, true, false, false, false, false, true] (Is.keeps _) (by kernel_rfl)
            · intro w1 h1
              simp only [List.nil_append, List.cons_append, Given]
              rintro _ rfl
              rintro _ rfl
              have hq := h1.cell a1
              go_wp2_with fail
              exact Post.isv (Ext.refl _) rfl rfl rfl
            -- 34: Op.fieldAddr 35 t3 1   [guarded: some (27, true)]
            apply Stage.step (Is _) [false, false, false, false, false, false, false, false, false, false, false, false, false, false, false, false, false, false, false, false, false, false, false, false, false, false, false, true] (Is.keeps _) (by kernel_rfl)
            · intro w1 h1
              simp only [List.nil_append, List.cons_append, Given]
              rintro _ rfl
              go_wp2_with fail
              exact Post.isv (Ext.refl _) rfl rfl rfl
            -- 35: Op.load 33 t40   [guarded: some (27, true)]
            apply Stage.step (Is _) [false, false, false, false, false, false, false, false, false, false, false, false, false, false, false, false, false, false, false, false, false, false, false, false, false, false, false, true, false, false, false, false, false, false, true] (Is.keeps _) (by kernel_rfl)
            · intro w1 h1
              simp only [List.nil_append, List.cons_append, Given]
              rintro _ rfl
              rintro _ rfl
              have hq := h1.cell u1
              go_wp2_with fail
              exact Post.isv (Ext.refl _) rfl rfl rfl
            -- 36: Op.move t5   [guarded: some (27, true)]
            apply Stage.step (Is _) [false, false, false, false, false, false, false, false, false, false, false, false, false, false, false, false, false, false, false, false, false, false, false, false, false, false, false, true] (Is.keeps _) (by kernel_rfl)
            · intro w1 h1
              simp only [List.nil_append, List.cons_append, Given]
              rintro _ rfl
              go_wp2_with fail
              exact Post.isv (Ext.refl _) rfl rfl rfl
            -- 37: Op.indexAddr 33 t41 t42   [guarded: some (27, true)]
            apply Stage.step (Is _) [false, false, false, false, false, false, false, false, false, false, false, false, false, false, false, false, false, false, false, false, false, false, false, false, false, false, false, true, false, false, false, false, false, false, false, true, true] (Is.keeps _) (by kernel_rfl)
            · intro w1 h1
              simp only [List.nil_append, List.cons_append, Given]
              rintro _ rfl
              rintro _ rfl
              rintro _ rfl
              go_wp2_with fail
              exact Post.isv (Ext.refl _) rfl rfl rfl
            -- 38: Op.fieldAddr 42 t43 1   [guarded: some (27, true)]
            apply Stage.step (Is _) [false, false, false, false, false, false, false, false, false, false, false, false, false, false, false, false, false, false, false, false, false, false, false, false, false, false, false, true, false, false, false, false, false, false, false, false, false, true] (Is.keeps _) (by kernel_rfl)
            · intro w1 h1
              simp only [List.nil_append, List.cons_append, Given]
              rintro _ rfl
              rintro _ rfl
              go_wp2_with fail
              exact Post.isv (Ext.refl _) rfl rfl rfl
            -- 39: Op.load 22 t44   [guarded: some (27, true)]
            apply Stage.step (Is _) [false, false, false, false, false, false, false, false, false, false, false, false, false, false, false, false, false, false, false, false, false, false, false, false, false, false, false, true, false, false, false, false, false, false, false, false, false, false, true] (Is.keeps _) (by kernel_rfl)
            · intro w1 h1
              simp only [List.nil_append, List.cons_append, Given]
              rintro _ rfl
              rintro _ rfl
              have hq := h1.cell b1
              go_wp2_with fail
              exact Post.isv (Ext.refl _) rfl rfl rfl
            -- 40: Op.call { value (Operand.func 68), args := #[t39, t45], argTypes := #[22, 22] }   [guarded: some (27
            apply Stage.step (Is _) [false, false, false, false, false, false, false, false, false, false, false, false, false, false, false, false, false, false, false, false, false, false, false, false, false, false, false, true, false, false, false, false, false, true, false, false, false, false, false, true] (Is.keeps _) (by kernel_rfl)
            · intro w1 h1
              simp only [List.nil_append, List.cons_append, Given]
              rintro _ rfl
              rintro _ rfl
              rintro _ rfl
              go_wp2_with fail
              refine (bytes_Equal Aa na ca xd Ab nb cb yd _ (sa.ext h1) (sb.ext h1)).mono ?_; rintro e w2 ⟨rfl, rfl⟩; rw [k4]; go_wp2_with fail; exact Post.isv (Ext.refl _) rfl rfl rfl
            -- 41: Op.pick t33 t46 (const (Value.bool false))
            apply Stage.step (Is _) [false, false, false, false, false, false, false, false, false, false, false, false, false, false, false, false, false, false, false, false, false, false, false, false, false, false, false, true, false, false, false, false, false, false, false, false, false, false, false, false, true] (Is.keeps _) (by kernel_rfl)
            · intro w1 h1
              simp only [List.nil_append, List.cons_append, Given]
              rintro _ rfl
              rintro _ rfl
              go_wp2_with fail
              exact Post.isv (Ext.refl _) rfl rfl rfl
            apply Stage.nil
            intro w1 h1
            simp only [List.nil_append, List.cons_append]
            refine Fin.is_ ?_
            refine Fin.is_ ?_
            refine Fin.is_ ?_
            refine Fin.is_ ?_
            refine Fin.is_ ?_
            refine Fin.is_ ?_
            refine Fin.is_ ?_
            refine Fin.is_ ?_
            refine Fin.is_ ?_
            refine Fin.is_ ?_
            refine Fin.is_ ?_
            refine Fin.is_ ?_
            refine Fin.is_ ?_
            refine Fin.is_ ?_
            refine Fin.is_ ?_
            refine Fin.is_ ?_
            refine Fin.is_ ?_
            refine Fin.is_ ?_
            refine Fin.is_ ?_
            refine Fin.is_ ?_
            refine Fin.is_ ?_
            refine Fin.is_ ?_
            refine Fin.is_ ?_
            refine Fin.is_ ?_
            refine Fin.is_ ?_
            refine Fin.is_ ?_
            refine Fin.is_ ?_
            refine Fin.is_ ?_
            refine Fin.is_ ?_
            refine Fin.is_ ?_
            refine Fin.is_ ?_
            refine Fin.is_ ?_
            refine Fin.is_ ?_
            refine Fin.is_ ?_
            refine Fin.is_ ?_
            refine Fin.is_ ?_
            refine Fin.is_ ?_
            refine Fin.is_ ?_
            refine Fin.is_ ?_
            refine Fin.is_ ?_
            refine Fin.is_ ?_
            refine Fin.is_ ?_
            refine Fin.nil_ ?_
            go_simp
            go_wp2_with fail
            go_roundw
            case rel => exact ⟨k + 1, by omega, by go_num, hrk, hxr.trans h1⟩
            case measure => simp [intOf]; omega
          · rw [if_neg (by intro e; injection e with e1 e2; exact hd e2)] at hro
            obtain rfl : k = r := by omega
            have k4 : (xd == yd) = false := by simpa using hd
            clear hro hn hd hrk
            go_wp2_with fail
            refine wp_region_typed Ext.steady rfl 51 rfl (by kernel_rfl) ?_
            -- 0: Op.move t5
            apply Stage.step (Is _) [] (Is.keeps _) (by kernel_rfl)
            · intro w1 h1
              simp only [Given]
              go_wp2_with fail
              exact Post.isv (Ext.refl _) rfl rfl rfl
            -- 1: Op.fieldAddr 35 t2 1
            apply Stage.step (Is _) [] (Is.keeps _) (by kernel_rfl)
            · intro w1 h1
              simp only [Given]
              go_wp2_with fail
              exact Post.isv (Ext.refl _) rfl rfl rfl
            -- 2: Op.load 33 t7
            apply Stage.step (Is _) [false, true] (Is.keeps _) (by kernel_rfl)
            · intro w1 h1
              simp only [List.nil_append, List.cons_append, Given]
              rintro _ rfl
              have hq := h1.cell s1
              go_wp2_with fail
              exact Post.isv (Ext.refl _) rfl rfl rfl
            -- 3: Op.call { builtin len, args := #[t8], argTypes := #[33] }
            apply Stage.step (Is _) [false, false, true] (Is.keeps _) (by kernel_rfl)
            · intro w1 h1
              simp only [List.nil_append, List.cons_append, Given]
              rintro _ rfl
              go_wp2_with fail
              exact Post.isv (Ext.refl _) rfl rfl rfl
            -- 4: Op.binOp BinOp.lss 3 t6 t9 3
            apply Stage.step (Is _) [true, false, false, true] (Is.keeps _) (by kernel_rfl)
            · intro w1 h1
              simp only [List.nil_append, List.cons_append, Given]
              rintro _ rfl
              rintro _ rfl
              go_wp2_with fail
              exact Post.isv (Ext.refl _) rfl rfl rfl
            -- 5: Op.move t10
            apply Stage.step (Is _) [false, false, false, false, true] (Is.keeps _) (by kernel_rfl)
            · intro w1 h1
              simp only [List.nil_append, List.cons_append, Given]
              rintro _ rfl
              go_wp2_with fail
              exact Post.isv (Ext.refl _) rfl rfl rfl
            -- 6: Op.move t5   [guarded: some (5, true)]
            apply Stage.step (Is _) [false, false, false, false, false, true] (Is.keeps _) (by kernel_rfl)
            · intro w1 h1
              simp only [List.nil_append, List.cons_append, Given]
              rintro _ rfl
              go_wp2_with fail
              exact Post.isv (Ext.refl _) rfl rfl rfl
            -- 7: Op.fieldAddr 35 t3 1   [guarded: some (5, true)]
            apply Stage.step (Is _) [false, false, false, false, false, true] (Is.keeps _) (by kernel_rfl)
            · intro w1 h1
              simp only [List.nil_append, List.cons_append, Given]
              rintro _ rfl
              go_wp2_with fail
              exact Post.isv (Ext.refl _) rfl rfl rfl
            -- 8: Op.load 33 t13   [guarded: some (5, true)]
            apply Stage.step (Is _) [false, false, false, false, false, true, false, true] (Is.keeps _) (by kernel_rfl)
            · intro w1 h1
              simp only [List.nil_append, List.cons_append, Given]
              rintro _ rfl
              rintro _ rfl
              have hq := h1.cell u1
              go_wp2_with fail
              exact Post.isv (Ext.refl _) rfl rfl rfl
            -- 9: Op.call { builtin len, args := #[t14], argTypes := #[33] }   [guarded: some (5, true)]
            apply Stage.step (Is _) [false, false, false, false, false, true, false, false, true] (Is.keeps _) (by kernel_rfl)
            · intro w1 h1
              simp only [List.nil_append, List.cons_append, Given]
              rintro _ rfl
              rintro _ rfl
              go_wp2_with fail
              exact Post.isv (Ext.refl _) rfl rfl rfl
            -- 10: Op.binOp BinOp.lss 3 t12 t15 3   [guarded: some (5, true)]
            apply Stage.step (Is _) [false, false, false, false, false, true, true, false, false, true] (Is.keeps _) (by kernel_rfl)
            · intro w1 h1
              simp only [List.nil_append, List.cons_append, Given]
              rintro _ rfl
              rintro _ rfl
              rintro _ rfl
              go_wp2_with fail
              exact Post.isv (Ext.refl _) rfl rfl rfl
            -- 11: Op.pick t11 t16 (const (Value.bool false))
            apply Stage.step (Is _) [false, false, false, false, false, true, false, false, false, false, true] (Is.keeps _) (by kernel_rfl)
            · intro w1 h1
              simp only [List.nil_append, List.cons_append, Given]
              rintro _ rfl
              rintro _ rfl
              go_wp2_with fail
              exact Post.isv (Ext.refl _) rfl rfl rfl
            -- 12: Op.move t17
            apply Stage.step (Is _) [false, false, false, false, false, false, false, false, false, false, false, true] (Is.keeps _) (by kernel_rfl)
            · intro w1 h1
              simp only [List.nil_append, List.cons_append, Given]
              rintro _ rfl
              go_wp2_with fail
              exact Post.isv (Ext.refl _) rfl rfl rfl
            -- 13: Op.fieldAddr 35 t2 1   [guarded: some (12, true)]
            apply Stage.step (Is _) [false, false, false, false, false, false, false, false, false, false, false, false, true] (Is.keeps _) (by kernel_rfl)
            · intro w1 h1
              simp only [List.nil_append, List.cons_append, Given]
              rintro _ rfl
              go_wp2_with fail
              exact Post.isv (Ext.refl _) rfl rfl rfl
            -- 14: Op.load 33 t19   [guarded: some (12, true)]
            apply Stage.step (Is _) [false, false, false, false, false, false, false, false, false, false, false, false, true, true] (Is.keeps _) (by kernel_rfl)
            · intro w1 h1
              simp only [List.nil_append, List.cons_append, Given]
              rintro _ rfl
              rintro _ rfl
              have hq := h1.cell s1
              go_wp2_with fail
              exact Post.isv (Ext.refl _) rfl rfl rfl
            -- 15: Op.move t5   [guarded: some (12, true)]
            apply Stage.step (Is _) [false, false, false, false, false, false, false, false, false, false, false, false, true] (Is.keeps _) (by kernel_rfl)
            · intro w1 h1
              simp only [List.nil_append, List.cons_append, Given]
              rintro _ rfl
              go_wp2_with fail
              exact Post.isv (Ext.refl _) rfl rfl rfl
            -- 16: Op.indexAddr 33 t20 t21   [guarded: some (12, true)]
            apply Stage.step (Is _) [false, false, false, false, false, false, false, false, false, false, false, false, true, false, true, true] (Is.keeps _) (by kernel_rfl)
            · intro w1 h1
              simp only [List.nil_append, List.cons_append, Given]
              rintro _ rfl
              rintro _ rfl
              rintro _ rfl
              go_wp2_with fail
              exact Post.isv (Ext.refl _) rfl rfl rfl
            -- 17: Op.fieldAddr 42 t22 0   [guarded: some (12, true)]
            apply Stage.step (Is _) [false, false, false, false, false, false, false, false, false, false, false, false, true, false, false, false, true] (Is.keeps _) (by kernel_rfl)
            · intro w1 h1
              simp only [List.nil_append, List.cons_append, Given]
              rintro _ rfl
              rintro _ rfl
              go_wp2_with fail
              exact Post.isv (Ext.refl _) rfl rfl rfl
            -- 18: Op.load 9 t23   [guarded: some (12, true)]
            apply Stage.step (Is _) [false, false, false, false, false, false, false, false, false, false, false, false, true, false, false, false, false, true] (Is.keeps _) (by kernel_rfl)
            · intro w1 h1
              simp only [List.nil_append, List.cons_append, Given]
              rintro _ rfl
              rintro _ rfl
              have hq := h1.cell a0
              go_wp2_with fail
              exact Post.isv (Ext.refl _) rfl rfl rfl
            -- 19: Op.fieldAddr 35 t3 1   [guarded: some (12, true)]
            apply Stage.step (Is _) [false, false, false, false, false, false, false, false, false, false, false, false, true] (Is.keeps _) (by kernel_rfl)
            · intro w1 h1
              simp only [List.nil_append, List.cons_append, Given]
              rintro _ rfl
              go_wp2_with fail
              exact Post.isv (Ext.refl _) rfl rfl rfl
            -- 20: Op.load 33 t25   [guarded: some (12, true)]
            apply Stage.step (Is _) [false, false, false, false, false, false, false, false, false, false, false, false, true, false, false, false, false, false, false, true] (Is.keeps _) (by kernel_rfl)
            · intro w1 h1
              simp only [List.nil_append, List.cons_append, Given]
              rintro _ rfl
              rintro _ rfl
              have hq := h1.cell u1
              go_wp2_with fail
              exact Post.isv (Ext.refl _) rfl rfl rfl
            -- 21: Op.move t5   [guarded: some (12, true)]
            apply Stage.step (Is _) [false, false, false, false, false, false, false, false, false, false, false, false, true] (Is.keeps _) (by kernel_rfl)
            · intro w1 h1
              simp only [List.nil_append, List.cons_append, Given]
              rintro _ rfl
              go_wp2_with fail
              exact Post.isv (Ext.refl _) rfl rfl rfl
            -- 22: Op.indexAddr 33 t26 t27   [guarded: some (12, true)]
            apply Stage.step (Is _) [false, false, false, false, false, false, false, false, false, false, false, false, true, false, false, false, false, false, false, false, true, true] (Is.keeps _) (by kernel_rfl)
            · intro w1 h1
              simp only [List.nil_append, List.cons_append, Given]
              rintro _ rfl
              rintro _ rfl
              rintro _ rfl
              go_wp2_with fail
              exact Post.isv (Ext.refl _) rfl rfl rfl
            -- 23: Op.fieldAddr 42 t28 0   [guarded: some (12, true)]
            apply Stage.step (Is _) [false, false, false, false, false, false, false, false, false, false, false, false, true, false, false, false, false, false, false, false, false, false, true] (Is.keeps _) (by kernel_rfl)
            · intro w1 h1
              simp only [List.nil_append, List.cons_append, Given]
              rintro _ rfl
              rintro _ rfl
              go_wp2_with fail
              exact Post.isv (Ext.refl _) rfl rfl rfl
            -- 24: Op.load 9 t29   [guarded: some (12, true)]
            apply Stage.step (Is _) [false, false, false, false, false, false, false, false, false, false, false, false, true, false, false, false, false, false, false, false, false, false, false, true] (Is.keeps _) (by kernel_rfl)
            · intro w1 h1
              simp only [List.nil_append, List.cons_append, Given]
              rintro _ rfl
              rintro _ rfl
              have hq := h1.cell b0
              go_wp2_with fail
              exact Post.isv (Ext.refl _) rfl rfl rfl
            -- 25: Op.binOp BinOp.eql 9 t24 t30 9   [guarded: some (12, true)]
            apply Stage.step (Is _) [false, false, false, false, false, false, false, false, false, false, false, false, true, false, false, false, false, false, true, false, false, false, false, false, true] (Is.keeps _) (by kernel_rfl)
            · intro w1 h1
              simp only [List.nil_append, List.cons_append, Given]
              rintro _ rfl
              rintro _ rfl
              rintro _ rfl
              go_wp2_with fail
              exact Post.isv (Ext.refl _) rfl rfl rfl
            -- 26: Op.pick t18 t31 (const (Value.bool false))
            apply Stage.step (Is _) [false, false, false, false, false, false, false, false, false, false, false, false, true, false, false, false, false, false, false, false, false, false, false, false, false, true] (Is.keeps _) (by kernel_rfl)
            · intro w1 h1
              simp only [List.nil_append, List.cons_append, Given]
              rintro _ rfl
              rintro _ rfl
              go_wp2_with fail
              exact Post.isv (Ext.refl _) rfl rfl rfl
            -- 27: Op.move t32
            apply Stage.step (Is _) [false, false, false, false, false, false, false, false, false, false, false, false, false, false, false, false, false, false, false, false, false, false, false, false, false, false, true] (Is.keeps _) (by kernel_rfl)
            · intro w1 h1
              simp only [List.nil_append, List.cons_append, Given]
              rintro _ rfl
              go_wp2_with fail
              exact Post.isv (Ext.refl _) rfl rfl rfl
            -- 28: Op.fieldAddr 35 t2 1   [guarded: some (27, true)]
            apply Stage.step (Is _) [false, false, false, false, false, false, false, false, false, false, false, false, false, false, false, false, false, false, false, false, false, false, false, false, false, false, false, true] (Is.keeps _) (by kernel_rfl)
            · intro w1 h1
              simp only [List.nil_append, List.cons_append, Given]
              rintro _ rfl
              go_wp2_with fail
              exact Post.isv (Ext.refl _) rfl rfl rfl
            -- 29: Op.load 33 t34   [guarded: some (27, true)]
            apply Stage.step (Is _) [false, false, false, false, false, false, false, false, false, false, false, false, false, false, false, false, false, false, false, false, false, false, false, false, false, false, false, true, true] (Is.keeps _) (by kernel_rfl)
            · intro w1 h1
              simp only [List.nil_append, List.cons_append, Given]
              rintro _ rfl
              rintro _ rfl
              have hq := h1.cell s1
              go_wp2_with fail
              exact Post.isv (Ext.refl _) rfl rfl rfl
            -- 30: Op.move t5   [guarded: some (27, true)]
            apply Stage.step (Is _) [false, false, false, false, false, false, false, false, false, false, false, false, false, false, false, false, false, false, false, false, false, false, false, false, false, false, false, true] (Is.keeps _) (by kernel_rfl)
            · intro w1 h1
              simp only [List.nil_append, List.cons_append, Given]
              rintro _ rfl
              go_wp2_with fail
              exact Post.isv (Ext.refl _) rfl rfl rfl
            -- 31: Op.indexAddr 33 t35 t36   [guarded: some (27, true)]
            apply Stage.step (Is _) [false, false, false, false, false, false, false, false, false, false, false, false, false, false, false, false, false, false, false, false, false, false, false, false, false, false, false, true, false, true, true] (Is.keeps _) (by kernel_rfl)
            · intro w1 h1
              simp only [List.nil_append, List.cons_append, Given]
              rintro _ rfl
              rintro _ rfl
              rintro _ rfl
              go_wp2_with fail
              exact Post.isv (Ext.refl _) rfl rfl rfl
            -- 32: Op.fieldAddr 42 t37 1   [guarded: some (27, true)]
            apply Stage.step (Is _) [false, false, false, false, false, false, false, false, false, false, false, false, false, false, false, false, false, false, false, false, false, false, false, false, false, false, false, true, false, false, false, true] (Is.keeps _) (by kernel_rfl)
            · intro w1 h1
              simp only [List.nil_append, List.cons_append, Given]
              rintro _ rfl
              rintro _ rfl
              go_wp2_with fail
              exact Post.isv (Ext.refl _) rfl rfl rfl
            -- 33: Op.load 22 t38   [guarded: some (27, true)]
            apply Stage.step (Is _) [false, false, false, false, false, false, false, false, false, false, false, false, false, false, false, false, false, false, false, false, false, false, false, false, false, false, false, true, false, false, false, false, true] (Is.keeps _) (by kernel_rfl)
            · intro w1 h1
              simp only [List.nil_append, List.cons_append, Given]
              rintro _ rfl
              rintro _ rfl
              have hq := h1.cell a1
              go_wp2_with fail
              exact Post.isv (Ext.refl _) rfl rfl rfl
            -- 34: Op.fieldAddr 35 t3 1   [guarded: some (27, true)]
            apply Stage.step (Is _) [false, false, false, false, false, false, false, false, false, false, false, false, false, false, false, false, false, false, false, false, false, false, false, false, false, false, false, true] (Is.keeps _) (by kernel_rfl)
            · intro w1 h1
              simp only [List.nil_append, List.cons_append, Given]
              rintro _ rfl
              go_wp2_with fail
              exact Post.isv (Ext.refl _) rfl rfl rfl
            -- 35: Op.load 33 t40   [guarded: some (27, true)]
            apply Stage.step (Is _) [false, false, false, false, false, false, false, false, false, false, false, false, false, false, false, false, false, false, false, false, false, false, false, false, false, false, false, true, false, false, false, false, false, false, true] (Is.keeps _) (by kernel_rfl)
            · intro w1 h1
              simp only [List.nil_append, List.cons_append, Given]
              rintro _ rfl
              rintro _ rfl
              have hq := h1.cell u1
              go_wp2_with fail
              exact Post.isv (Ext.refl _) rfl rfl rfl
            -- 36: Op.move t5   [guarded: some (27, true)]
            apply Stage.step (Is _) [false, false, false, false, false, false, false, false, false, false, false, false, false, false, false, false, false, false, false, false, false, false, false, false, false, false, false, true] (Is.keeps _) (by kernel_rfl)
            · intro w1 h1
              simp only [List.nil_append, List.cons_append, Given]
              rintro _ rfl
              go_wp2_with fail
              exact Post.isv (Ext.refl _) rfl rfl rfl
            -- 37: Op.indexAddr 33 t41 t42   [guarded: some (27, true)]
            apply Stage.step (Is _) [false, false, false, false, false, false, false, false, false, false, false, false, false, false, false, false, false, false, false, false, false, false, false, false, false, false, false, true, false, false, false, false, false, false, false, true, true] (Is.keeps _) (by kernel_rfl)
            · intro w1 h1
              simp only [List.nil_append, List.cons_append, Given]
              rintro _ rfl
              rintro _ rfl
              rintro _ rfl
              go_wp2_with fail
              exact Post.isv (Ext.refl _) rfl rfl rfl
            -- 38: Op.fieldAddr 42 t43 1   [guarded: some (27, true)]
            apply Stage.step (Is _) [false, false, false, false, false, false, false, false, false, false, false, false, false, false, false, false, false, false, false, false, false, false, false, false, false, false, false, true, false, false, false, false, false, false, false, false, false, true] (Is.keeps _) (by kernel_rfl)
            · intro w1 h1
              simp only [List.nil_append, List.cons_append, Given]
              rintro _ rfl
              rintro _ rfl
              go_wp2_with fail
              exact Post.isv (Ext.refl _) rfl rfl rfl
            -- 39: Op.load 22 t44   [guarded: some (27, true)]
            apply Stage.step (Is _) [false, false, false, false, false, false, false, false, false, false, false, false, false, false, false, false, false, false, false, false, false, false, false, false, false, false, false, true, false, false, false, false, false, false, false, false, false, false, true] (Is.keeps _) (by kernel_rfl)
            · intro w1 h1
              simp only [List.nil_append, List.cons_append, Given]
              rintro _ rfl
              rintro _ rfl
              have hq := h1.cell b1
              go_wp2_with fail
              exact Post.isv (Ext.refl _) rfl rfl rfl
            -- 40: Op.call { value (Operand.func 68), args := #[t39, t45], argTypes := #[22, 22] }   [guarded: some (27
            apply Stage.step (Is _) [false, false, false, false, false, false, false, false, false, false, false, false, false, false, false, false, false, false, false, false, false, false, false, false, false, false, false, true, false, false, false, false, false, true, false, false, false, false, false, true] (Is.keeps _) (by kernel_rfl)
            · intro w1 h1
              simp only [List.nil_append, List.cons_append, Given]
              rintro _ rfl
              rintro _ rfl
              rintro _ rfl
              go_wp2_with fail
              refine (bytes_Equal Aa na ca xd Ab nb cb yd _ (sa.ext h1) (sb.ext h1)).mono ?_; rintro e w2 ⟨rfl, rfl⟩; rw [k4]; go_wp2_with fail; exact Post.isv (Ext.refl _) rfl rfl rfl
            -- 41: Op.pick t33 t46 (const (Value.bool false))
            apply Stage.step (Is _) [false, false, false, false, false, false, false, false, false, false, false, false, false, false, false, false, false, false, false, false, false, false, false, false, false, false, false, true, false, false, false, false, false, false, false, false, false, false, false, false, true] (Is.keeps _) (by kernel_rfl)
            · intro w1 h1
              simp only [List.nil_append, List.cons_append, Given]
              rintro _ rfl
              rintro _ rfl
              go_wp2_with fail
              exact Post.isv (Ext.refl _) rfl rfl rfl
            apply Stage.nil
            intro w1 h1
            simp only [List.nil_append, List.cons_append]
            refine Fin.is_ ?_
            refine Fin.is_ ?_
            refine Fin.is_ ?_
            refine Fin.is_ ?_
            refine Fin.is_ ?_
            refine Fin.is_ ?_
            refine Fin.is_ ?_
            refine Fin.is_ ?_
            refine Fin.is_ ?_
            refine Fin.is_ ?_
            refine Fin.is_ ?_
            refine Fin.is_ ?_
            refine Fin.is_ ?_
            refine Fin.is_ ?_
            refine Fin.is_ ?_
            refine Fin.is_ ?_
            refine Fin.is_ ?_
            refine Fin.is_ ?_
            refine Fin.is_ ?_
            refine Fin.is_ ?_
            refine Fin.is_ ?_
            refine Fin.is_ ?_
            refine Fin.is_ ?_
            refine Fin.is_ ?_
            refine Fin.is_ ?_
            refine Fin.is_ ?_
            refine Fin.is_ ?_
            refine Fin.is_ ?_
            refine Fin.is_ ?_
            refine Fin.is_ ?_
            refine Fin.is_ ?_
            refine Fin.is_ ?_
            refine Fin.is_ ?_
            refine Fin.is_ ?_
            refine Fin.is_ ?_
            refine Fin.is_ ?_
            refine Fin.is_ ?_
            refine Fin.is_ ?_
            refine Fin.is_ ?_
            refine Fin.is_ ?_
            refine Fin.is_ ?_
            refine Fin.is_ ?_
            refine Fin.nil_ ?_
            go_simp
            go_wp2_with fail
            go_ret
            exact ⟨rfl, gW.trans (hxr.trans h1)⟩
        · have k3 := bs_ne hn
          rw [if_neg (by intro e; injection e with e1 e2; exact hn e1)] at hro
          obtain rfl : k = r := by omega
          clear hro hn hrk
          go_wp2_with fail
          refine wp_region_typed Ext.steady rfl 51 rfl (by kernel_rfl) ?_
          -- 0: Op.move t5
          apply Stage.step (Is _) [] (Is.keeps _) (by kernel_rfl)
          · intro w1 h1
            simp only [Given]
            go_wp2_with fail
            exact Post.isv (Ext.refl _) rfl rfl rfl
          -- 1: Op.fieldAddr 35 t2 1
          apply Stage.step (Is _) [] (Is.keeps _) (by kernel_rfl)
          · intro w1 h1
            simp only [Given]
            go_wp2_with fail
            exact Post.isv (Ext.refl _) rfl rfl rfl
          -- 2: Op.load 33 t7
          apply Stage.step (Is _) [false, true] (Is.keeps _) (by kernel_rfl)
          · intro w1 h1
            simp only [List.nil_append, List.cons_append, Given]
            rintro _ rfl
            have hq := h1.cell s1
            go_wp2_with fail
            exact Post.isv (Ext.refl _) rfl rfl rfl
          -- 3: Op.call { builtin len, args := #[t8], argTypes := #[33] }
          apply Stage.step (Is _) [false, false, true] (Is.keeps _) (by kernel_rfl)
          · intro w1 h1
            simp only [List.nil_append, List.cons_append, Given]
            rintro _ rfl
            go_wp2_with fail
            exact Post.isv (Ext.refl _) rfl rfl rfl
          -- 4: Op.binOp BinOp.lss 3 t6 t9 3
          apply Stage.step (Is _) [true, false, false, true] (Is.keeps _) (by kernel_rfl)
          · intro w1 h1
            simp only [List.nil_append, List.cons_append, Given]
            rintro _ rfl
            rintro _ rfl
            go_wp2_with fail
            exact Post.isv (Ext.refl _) rfl rfl rfl
          -- 5: Op.move t10
          apply Stage.step (Is _) [false, false, false, false, true] (Is.keeps _) (by kernel_rfl)
          · intro w1 h1
            simp only [List.nil_append, List.cons_append, Given]
            rintro _ rfl
            go_wp2_with fail
            exact Post.isv (Ext.refl _) rfl rfl rfl
          -- 6: Op.move t5   [guarded: some (5, true)]
          apply Stage.step (Is _) [false, false, false, false, false, true] (Is.keeps _) (by kernel_rfl)
          · intro w1 h1
            simp only [List.nil_append, List.cons_append, Given]
            rintro _ rfl
            go_wp2_with fail
            exact Post.isv (Ext.refl _) rfl rfl rfl
          -- 7: Op.fieldAddr 35 t3 1   [guarded: some (5, true)]
          apply Stage.step (Is _) [false, false, false, false, false, true] (Is.keeps _) (by kernel_rfl)
          · intro w1 h1
            simp only [List.nil_append, List.cons_append, Given]
            rintro _ rfl
            go_wp2_with fail
            exact Post.isv (Ext.refl _) rfl rfl rfl
          -- 8: Op.load 33 t13   [guarded: some (5, true)]
          apply Stage.step (Is _) [false, false, false, false, false, true, false, true] (Is.keeps _) (by kernel_rfl)
          · intro w1 h1
            simp only [List.nil_append, List.cons_append, Given]
            rintro _ rfl
            rintro _ rfl
            have hq := h1.cell u1
            go_wp2_with fail
            exact Post.isv (Ext.refl _) rfl rfl rfl
          -- 9: Op.call { builtin len, args := #[t14], argTypes := #[33] }   [guarded: some (5, true)]
          apply Stage.step (Is _) [false, false, false, false, false, true, false, false, true] (Is.keeps _) (by kernel_rfl)
          · intro w1 h1
            simp only [List.nil_append, List.cons_append, Given]
            rintro _ rfl
            rintro _ rfl
            go_wp2_with fail
            exact Post.isv (Ext.refl _) rfl rfl rfl
          -- 10: Op.binOp BinOp.lss 3 t12 t15 3   [guarded: some (5, true)]
          apply Stage.step (Is _) [false, false, false, false, false, true, true, false, false, true] (Is.keeps _) (by kernel_rfl)
          · intro w1 h1
            simp only [List.nil_append, List.cons_append, Given]
            rintro _ rfl
            rintro _ rfl
            rintro _ rfl
            go_wp2_with fail
            exact Post.isv (Ext.refl _) rfl rfl rfl
          -- 11: Op.pick t11 t16 (const (Value.bool false))
          apply Stage.step (Is _) [false, false, false, false, false, true, false, false, false, false, true] (Is.keeps _) (by kernel_rfl)
          · intro w1 h1
            simp only [List.nil_append, List.cons_append, Given]
            rintro _ rfl
            rintro _ rfl
            go_wp2_with fail
            exact Post.isv (Ext.refl _) rfl rfl rfl
          -- 12: Op.move t17
          apply Stage.step (Is _) [false, false, false, false, false, false, false, false, false, false, false, true] (Is.keeps _) (by kernel_rfl)
          · intro w1 h1
            simp only [List.nil_append, List.cons_append, Given]
            rintro _ rfl
            go_wp2_with fail
            exact Post.isv (Ext.refl _) rfl rfl rfl
          -- 13: Op.fieldAddr 35 t2 1   [guarded: some (12, true)]
          apply Stage.step (Is _) [false, false, false, false, false, false, false, false, false, false, false, false, true] (Is.keeps _) (by kernel_rfl)
          · intro w1 h1
            simp only [List.nil_append, List.cons_append, Given]
            rintro _ rfl
            go_wp2_with fail
            exact Post.isv (Ext.refl _) rfl rfl rfl
          -- 14: Op.load 33 t19   [guarded: some (12, true)]
          apply Stage.step (Is _) [false, false, false, false, false, false, false, false, false, false, false, false, true, true] (Is.keeps _) (by kernel_rfl)
          · intro w1 h1
            simp only [List.nil_append, List.cons_append, Given]
            rintro _ rfl
            rintro _ rfl
            have hq := h1.cell s1
            go_wp2_with fail
            exact Post.isv (Ext.refl _) rfl rfl rfl
          -- 15: Op.move t5   [guarded: some (12, true)]
          apply Stage.step (Is _) [false, false, false, false, false, false, false, false, false, false, false, false, true] (Is.keeps _) (by kernel_rfl)
          · intro w1 h1
            simp only [List.nil_append, List.cons_append, Given]
            rintro _ rfl
            go_wp2_with fail
            exact Post.isv (Ext.refl _) rfl rfl rfl
          -- 16: Op.indexAddr 33 t20 t21   [guarded: some (12, true)]
          apply Stage.step (Is _) [false, false, false, false, false, false, false, false, false, false, false, false, true, false, true, true] (Is.keeps _) (by kernel_rfl)
          · intro w1 h1
            simp only [List.nil_append, List.cons_append, Given]
            rintro _ rfl
            rintro _ rfl
            rintro _ rfl
            go_wp2_with fail
            exact Post.isv (Ext.refl _) rfl rfl rfl
          -- 17: Op.fieldAddr 42 t22 0   [guarded: some (12, true)]
          apply Stage.step (Is _) [false, false, false, false, false, false, false, false, false, false, false, false, true, false, false, false, true] (Is.keeps _) (by kernel_rfl)
          · intro w1 h1
            simp only [List.nil_append, List.cons_append, Given]
            rintro _ rfl
            rintro _ rfl
            go_wp2_with fail
            exact Post.isv (Ext.refl _) rfl rfl rfl
          -- 18: Op.load 9 t23   [guarded: some (12, true)]
          apply Stage.step (Is _) [false, false, false, false, false, false, false, false, false, false, false, false, true, false, false, false, false, true] (Is.keeps _) (by kernel_rfl)
          · intro w1 h1
            simp only [List.nil_append, List.cons_append, Given]
            rintro _ rfl
            rintro _ rfl
            have hq := h1.cell a0
            go_wp2_with fail
            exact Post.isv (Ext.refl _) rfl rfl rfl
          -- 19: Op.fieldAddr 35 t3 1   [guarded: some (12, true)]
          apply Stage.step (Is _) [false, false, false, false, false, false, false, false, false, false, false, false, true] (Is.keeps _) (by kernel_rfl)
          · intro w1 h1
            simp only [List.nil_append, List.cons_append, Given]
            rintro _ rfl
            go_wp2_with fail
            exact Post.isv (Ext.refl _) rfl rfl rfl
          -- 20: Op.load 33 t25   [guarded: some (12, true)]
          apply Stage.step (Is _) [false, false, false, false, false, false, false, false, false, false, false, false, true, false, false, false, false, false, false, true] (Is.keeps _) (by kernel_rfl)
          · intro w1 h1
            simp only [List.nil_append, List.cons_append, Given]
            rintro _ rfl
            rintro _ rfl
            have hq := h1.cell u1
            go_wp2_with fail
            exact Post.isv (Ext.refl _) rfl rfl rfl
          -- 21: Op.move t5   [guarded: some (12, true)]
          apply Stage.step (Is _) [false, false, false, false, false, false, false, false, false, false, false, false, true] (Is.keeps _) (by kernel_rfl)
          · intro w1 h1
            simp only [List.nil_append, List.cons_append, Given]
            rintro _ rfl
            go_wp2_with fail
            exact Post.isv (Ext.refl _) rfl rfl rfl
          -- 22: Op.indexAddr 33 t26 t27   [guarded: some (12, true)]
          apply Stage.step (Is _) [false, false, false, false, false, false, false, false, false, false, false, false, true, false, false, false, false, false, false, false, true, true] (Is.keeps _) (by kernel_rfl)
          · intro w1 h1
            simp only [List.nil_append, List.cons_append, Given]
            rintro _ rfl
            rintro _ rfl
            rintro _ rfl
            go_wp2_with fail
            exact Post.isv (Ext.refl _) rfl rfl rfl
          -- 23: Op.fieldAddr 42 t28 0   [guarded: some (12, true)]
          apply Stage.step (Is _) [false, false, false, false, false, false, false, false, false, false, false, false, true, false, false, false, false, false, false, false, false, false, true] (Is.keeps _) (by kernel_rfl)
          · intro w1 h1
            simp only [List.nil_append, List.cons_append, Given]
            rintro _ rfl
            rintro _ rfl
            go_wp2_with fail
            exact Post.isv (Ext.refl _) rfl rfl rfl
          -- 24: Op.load 9 t29   [guarded: some (12, true)]
          apply Stage.step (Is _) [false, false, false, false, false, false, false, false, false, false, false, false, true, false, false, false, false, false, false, false, false, false, false, true] (Is.keeps _) (by kernel_rfl)
          · intro w1 h1
            simp only [List.nil_append, List.cons_append, Given]
            rintro _ rfl
            rintro _ rfl
            have hq := h1.cell b0
            go_wp2_with fail
            exact Post.isv (Ext.refl _) rfl rfl rfl
          -- 25: Op.binOp BinOp.eql 9 t24 t30 9   [guarded: some (12, true)]
          apply Stage.step (Is _) [false, false, false, false, false, false, false, false, false, false, false, false, true, false, false, false, false, false, true, false, false, false, false, false, true] (Is.keeps _) (by kernel_rfl)
          · intro w1 h1
            simp only [List.nil_append, List.cons_append, Given]
            rintro _ rfl
            rintro _ rfl
            rintro _ rfl
            go_wp2_with fail
            exact Post.isv (Ext.refl _) rfl rfl rfl
          -- 26: Op.pick t18 t31 (const (Value.bool false))
          apply Stage.step (Is _) [false, false, false, false, false, false, false, false, false, false, false, false, true, false, false, false, false, false, false, false, false, false, false, false, false, true] (Is.keeps _) (by kernel_rfl)
          · intro w1 h1
            simp only [List.nil_append, List.cons_append, Given]
            rintro _ rfl
            rintro _ rfl
            go_wp2_with fail
            exact Post.isv (Ext.refl _) rfl rfl rfl
          -- 27: Op.move t32
          apply Stage.step (Is _) [false, false, false, false, false, false, false, false, false, false, false, false, false, false, false, false, false, false, false, false, false, false, false, false, false, false, true] (Is.keeps _) (by kernel_rfl)
          · intro w1 h1
            simp only [List.nil_append, List.cons_append, Given]
            rintro _ rfl
            go_wp2_with fail
            exact Post.isv (Ext.refl _) rfl rfl rfl
          -- 28: Op.fieldAddr 35 t2 1   [guarded: some (27, true)]
          apply Stage.step (Is _) [false, false, false, false, false, false, false, false, false, false, false, false, false, false, false, false, false, false, false, false, false, false, false, false, false, false, false, true] (Is.keeps _) (by kernel_rfl)
          · intro w1 h1
            simp only [List.nil_append, List.cons_append, Given]
            rintro _ rfl
            go_wp2_with fail
            exact Post.isv (Ext.refl _) rfl rfl rfl
          -- 29: Op.load 33 t34   [guarded: some (27, true)]
          apply Stage.step (Is _) [false, false, false, false, false, false, false, false, false, false, false, false, false, false, false, false, false, false, false, false, false, false, false, false, false, false, false, true, true] (Is.keeps _) (by kernel_rfl)
          · intro w1 h1
            simp only [List.nil_append, List.cons_append, Given]
            rintro _ rfl
            rintro _ rfl
            have hq := h1.cell s1
            go_wp2_with fail
            exact Post.isv (Ext.refl _) rfl rfl rfl
          -- 30: Op.move t5   [guarded: some (27, true)]
          apply Stage.step (Is _) [false, false, false, false, false, false, false, false, false, false, false, false, false, false, false, false, false, false, false, false, false, false, false, false, false, false, false, true] (Is.keeps _) (by kernel_rfl)
          · intro w1 h1
            simp only [List.nil_append, List.cons_append, Given]
            rintro _ rfl
            go_wp2_with fail
            exact Post.isv (Ext.refl _) rfl rfl rfl
          -- 31: Op.indexAddr 33 t35 t36   [guarded: some (27, true)]
          apply Stage.step (Is _) [false, false, false, false, false, false, false, false, false, false, false, false, false, false, false, false, false, false, false, false, false, false, false, false, false, false, false, true, false, true, true] (Is.keeps _) (by kernel_rfl)
          · intro w1 h1
            simp only [List.nil_append, List.cons_append, Given]
            rintro _ rfl
            rintro _ rfl
            rintro _ rfl
            go_wp2_with fail
            exact Post.isv (Ext.refl _) rfl rfl rfl
          -- 32: Op.fieldAddr 42 t37 1   [guarded: some (27, true)]
          apply Stage.step (Is _) [false, false, false, false, false, false, false, false, false, false, false, false, false, false, false, false, false, false, false, false, false, false, false, false, false, false, false, true, false, false, false, true] (Is.keeps _) (by kernel_rfl)
          · intro w1 h1
            simp only [List.nil_append, List.cons_append, Given]
            rintro _ rfl
            rintro _ rfl
            go_wp2_with fail
            exact Post.isv (Ext.refl _) rfl rfl rfl
          -- 33: Op.load 22 t38   [guarded: some (27, true)]
          apply Stage.step (Is _) [false, false, false, false, false, false, false, false, false, false, false, false, false, false, false, false, false, false, false, false, false, false, false, false, false, false, false, true, false, false, false, false, true] (Is.keeps _) (by kernel_rfl)
          · intro w1 h1
            simp only [List.nil_append, List.cons_append, Given]
            rintro _ rfl
            rintro _ rfl
            have hq := h1.cell a1
            go_wp2_with fail
            exact Post.isv (Ext.refl _) rfl rfl rfl
          -- 34: Op.fieldAddr 35 t3 1   [guarded: some (27, true)]
          apply Stage.step (Is _) [false, false, false, false, false, false, false, false, false, false, false, false, false, false, false, false, false, false, false, false, false, false, false, false, false, false, false, true] (Is.keeps _) (by kernel_rfl)
          · intro w1 h1
            simp only [List.nil_append, List.cons_append, Given]
            rintro _ rfl
            go_wp2_with fail
            exact Post.isv (Ext.refl _) rfl rfl rfl
          -- 35: Op.load 33 t40   [guarded: some (27, true)]
          apply Stage.step (Is _) [false, false, false, false, false, false, false, false, false, false, false, false, false, false, false, false, false, false, false, false, false, false, false, false, false, false, false, true, false, false, false, false, false, false, true] (Is.keeps _) (by kernel_rfl)
          · intro w1 h1
            simp only [List.nil_append, List.cons_append, Given]
            rintro _ rfl
            rintro _ rfl
            have hq := h1.cell u1
            go_wp2_with fail
            exact Post.isv (Ext.refl _) rfl rfl rfl
          -- 36: Op.move t5   [guarded: some (27, true)]
          apply Stage.step (Is _) [false, false, false, false, false, false, false, false, false, false, false, false, false, false, false, false, false, false, false, false, false, false, false, false, false, false, false, true] (Is.keeps _) (by kernel_rfl)
          · intro w1 h1
            simp only [List.nil_append, List.cons_append, Given]
            rintro _ rfl
            go_wp2_with fail
            exact Post.isv (Ext.refl _) rfl rfl rfl
          -- 37: Op.indexAddr 33 t41 t42   [guarded: some (27, true)]
          apply Stage.step (Is _) [false, false, false, false, false, false, false, false, false, false, false, false, false, false, false, false, false, false, false, false, false, false, false, false, false, false, false, true, false, false, false, false, false, false, false, true, true] (Is.keeps _) (by kernel_rfl)
          · intro w1 h1
            simp only [List.nil_append, List.cons_append, Given]
            rintro _ rfl
            rintro _ rfl
            rintro _ rfl
            go_wp2_with fail
            exact Post.isv (Ext.refl _) rfl rfl rfl
          -- 38: Op.fieldAddr 42 t43 1   [guarded: some (27, true)]
          apply Stage.step (Is _) [false, false, false, false, false, false, false, false, false, false, false, false, false, false, false, false, false, false, false, false, false, false, false, false, false, false, false, true, false, false, false, false, false, false, false, false, false, true] (Is.keeps _) (by kernel_rfl)
          · intro w1 h1
            simp only [List.nil_append, List.cons_append, Given]
            rintro _ rfl
            rintro _ rfl
            go_wp2_with fail
            exact Post.isv (Ext.refl _) rfl rfl rfl
          -- 39: Op.load 22 t44   [guarded: some (27, true)]
          apply Stage.step (Is _) [false, false, false, false, false, false, false, false, false, false, false, false, false, false, false, false, false, false, false, false, false, false, false, false, false, false, false, true, false, false, false, false, false, false, false, false, false, false, true] (Is.keeps _) (by kernel_rfl)
          · intro w1 h1
            simp only [List.nil_append, List.cons_append, Given]
            rintro _ rfl
            rintro _ rfl
            have hq := h1.cell b1
            go_wp2_with fail
            exact Post.isv (Ext.refl _) rfl rfl rfl
          -- 40: Op.call { value (Operand.func 68), args := #[t39, t45], argTypes := #[22, 22] }   [guarded: some (27
          apply Stage.step (Is _) [false, false, false, false, false, false, false, false, false, false, false, false, false, false, false, false, false, false, false, false, false, false, false, false, false, false, false, true, false, false, false, false, false, true, false, false, false, false, false, true] (Is.keeps _) (by kernel_rfl)
          · intro w1 h1
            simp only [List.nil_append, List.cons_append, Given]
            rintro _ rfl
            rintro _ rfl
            rintro _ rfl
            go_wp2_with fail
            exact Post.isv (Ext.refl _) rfl rfl rfl
          -- 41: Op.pick t33 t46 (const (Value.bool false))
          apply Stage.step (Is _) [false, false, false, false, false, false, false, false, false, false, false, false, false, false, false, false, false, false, false, false, false, false, false, false, false, false, false, true, false, false, false, false, false, false, false, false, false, false, false, false, true] (Is.keeps _) (by kernel_rfl)
          · intro w1 h1
            simp only [List.nil_append, List.cons_append, Given]
            rintro _ rfl
            rintro _ rfl
            go_wp2_with fail
            exact Post.isv (Ext.refl _) rfl rfl rfl
          apply Stage.nil
          intro w1 h1
          simp only [List.nil_append, List.cons_append]
          refine Fin.is_ ?_
          refine Fin.is_ ?_
          refine Fin.is_ ?_
          refine Fin.is_ ?_
          refine Fin.is_ ?_
          refine Fin.is_ ?_
          refine Fin.is_ ?_
          refine Fin.is_ ?_
          refine Fin.is_ ?_
          refine Fin.is_ ?_
          refine Fin.is_ ?_
          refine Fin.is_ ?_
          refine Fin.is_ ?_
          refine Fin.is_ ?_
          refine Fin.is_ ?_
          refine Fin.is_ ?_
          refine Fin.is_ ?_
          refine Fin.is_ ?_
          refine Fin.is_ ?_
          refine Fin.is_ ?_
          refine Fin.is_ ?_
          refine Fin.is_ ?_
          refine Fin.is_ ?_
          refine Fin.is_ ?_
          refine Fin.is_ ?_
          refine Fin.is_ ?_
          refine Fin.is_ ?_
          refine Fin.is_ ?_
          refine Fin.is_ ?_
          refine Fin.is_ ?_
          refine Fin.is_ ?_
          refine Fin.is_ ?_
          refine Fin.is_ ?_
          refine Fin.is_ ?_
          refine Fin.is_ ?_
          refine Fin.is_ ?_
          refine Fin.is_ ?_
          refine Fin.is_ ?_
          refine Fin.is_ ?_
          refine Fin.is_ ?_
          refine Fin.is_ ?_
          refine Fin.is_ ?_
          refine Fin.nil_ ?_
          go_simp
          go_wp2_with fail
          go_ret
          exact ⟨rfl, gW.trans (hxr.trans h1)⟩
      · have k2 : decide ((k : Int) < (m2 : Int)) = false := by simp; omega
        obtain rfl : k = r := by
          rw [← hrk.out, List.drop_of_length_le (l := t.sn) (by rw [l2.len]; omega)]
          cases s.sn.drop k <;> simp [alikeL]
        clear hrk
        go_wp2_with fail
        refine wp_region_typed Ext.steady rfl 51 rfl (by kernel_rfl) ?_
        -- 0: Op.move t5
        apply Stage.step (Is _) [] (Is.keeps _) (by kernel_rfl)
        · intro w1 h1
          simp only [Given]
          go_wp2_with fail
          exact Post.isv (Ext.refl _) rfl rfl rfl
        -- 1: Op.fieldAddr 35 t2 1
        apply Stage.step (Is _) [] (Is.keeps _) (by kernel_rfl)
        · intro w1 h1
          simp only [Given]
          go_wp2_with fail
          exact Post.isv (Ext.refl _) rfl rfl rfl
        -- 2: Op.load 33 t7
        apply Stage.step (Is _) [false, true] (Is.keeps _) (by kernel_rfl)
        · intro w1 h1
          simp only [List.nil_append, List.cons_append, Given]
          rintro _ rfl
          have hq := h1.cell s1
          go_wp2_with fail
          exact Post.isv (Ext.refl _) rfl rfl rfl
        -- 3: Op.call { builtin len, args := #[t8], argTypes := #[33] }
        apply Stage.step (Is _) [false, false, true] (Is.keeps _) (by kernel_rfl)
        · intro w1 h1
          simp only [List.nil_append, List.cons_append, Given]
          rintro _ rfl
          go_wp2_with fail
          exact Post.isv (Ext.refl _) rfl rfl rfl
        -- 4: Op.binOp BinOp.lss 3 t6 t9 3
        apply Stage.step (Is _) [true, false, false, true] (Is.keeps _) (by kernel_rfl)
        · intro w1 h1
          simp only [List.nil_append, List.cons_append, Given]
          rintro _ rfl
          rintro _ rfl
          go_wp2_with fail
          exact Post.isv (Ext.refl _) rfl rfl rfl
        -- 5: Op.move t10
        apply Stage.step (Is _) [false, false, false, false, true] (Is.keeps _) (by kernel_rfl)
        · intro w1 h1
          simp only [List.nil_append, List.cons_append, Given]
          rintro _ rfl
          go_wp2_with fail
          exact Post.isv (Ext.refl _) rfl rfl rfl
        -- 6: Op.move t5   [guarded: some (5, true)]
        apply Stage.step (Is _) [false, false, false, false, false, true] (Is.keeps _) (by kernel_rfl)
        · intro w1 h1
          simp only [List.nil_append, List.cons_append, Given]
          rintro _ rfl
          go_wp2_with fail
          exact Post.isv (Ext.refl _) rfl rfl rfl
        -- 7: Op.fieldAddr 35 t3 1   [guarded: some (5, true)]
        apply Stage.step (Is _) [false, false, false, false, false, true] (Is.keeps _) (by kernel_rfl)
        · intro w1 h1
          simp only [List.nil_append, List.cons_append, Given]
          rintro _ rfl
          go_wp2_with fail
          exact Post.isv (Ext.refl _) rfl rfl rfl
        -- 8: Op.load 33 t13   [guarded: some (5, true)]
        apply Stage.step (Is _) [false, false, false, false, false, true, false, true] (Is.keeps _) (by kernel_rfl)
        · intro w1 h1
          simp only [List.nil_append, List.cons_append, Given]
          rintro _ rfl
          rintro _ rfl
          have hq := h1.cell u1
          go_wp2_with fail
          exact Post.isv (Ext.refl _) rfl rfl rfl
        -- 9: Op.call { builtin len, args := #[t14], argTypes := #[33] }   [guarded: some (5, true)]
        apply Stage.step (Is _) [false, false, false, false, false, true, false, false, true] (Is.keeps _) (by kernel_rfl)
        · intro w1 h1
          simp only [List.nil_append, List.cons_append, Given]
          rintro _ rfl
          rintro _ rfl
          go_wp2_with fail
          exact Post.isv (Ext.refl _) rfl rfl rfl
        -- 10: Op.binOp BinOp.lss 3 t12 t15 3   [guarded: some (5, true)]
        apply Stage.step (Is _) [false, false, false, false, false, true, true, false, false, true] (Is.keeps _) (by kernel_rfl)
        · intro w1 h1
          simp only [List.nil_append, List.cons_append, Given]
          rintro _ rfl
          rintro _ rfl
          rintro _ rfl
          go_wp2_with fail
          exact Post.isv (Ext.refl _) rfl rfl rfl
        -- 11: Op.pick t11 t16 (const (Value.bool false))
        apply Stage.step (Is _) [false, false, false, false, false, true, false, false, false, false, true] (Is.keeps _) (by kernel_rfl)
        · intro w1 h1
          simp only [List.nil_append, List.cons_append, Given]
          rintro _ rfl
          rintro _ rfl
          go_wp2_with fail
          exact Post.isv (Ext.refl _) rfl rfl rfl
        -- 12: Op.move t17
        apply Stage.step (Is _) [false, false, false, false, false, false, false, false, false, false, false, true] (Is.keeps _) (by kernel_rfl)
        · intro w1 h1
          simp only [List.nil_append, List.cons_append, Given]
          rintro _ rfl
          go_wp2_with fail
          exact Post.isv (Ext.refl _) rfl rfl rfl
        -- 13: Op.fieldAddr 35 t2 1   [guarded: some (12, true)]
        apply Stage.step (Is _) [false, false, false, false, false, false, false, false, false, false, false, false, true] (Is.keeps _) (by kernel_rfl)
        · intro w1 h1
          simp only [List.nil_append, List.cons_append, Given]
          rintro _ rfl
          go_wp2_with fail
          exact Post.isv (Ext.refl _) rfl rfl rfl
        -- 14: Op.load 33 t19   [guarded: some (12, true)]
        apply Stage.step (Is _) [false, false, false, false, false, false, false, false, false, false, false, false, true, true] (Is.keeps _) (by kernel_rfl)
        · intro w1 h1
          simp only [List.nil_append, List.cons_append, Given]
          rintro _ rfl
          rintro _ rfl
          go_wp2_with fail
          exact Post.isv (Ext.refl _) rfl rfl rfl
        -- 15: Op.move t5   [guarded: some (12, true)]
        apply Stage.step (Is _) [false, false, false, false, false, false, false, false, false, false, false, false, true] (Is.keeps _) (by kernel_rfl)
        · intro w1 h1
          simp only [List.nil_append, List.cons_append, Given]
          rintro _ rfl
          go_wp2_with fail
          exact Post.isv (Ext.refl _) rfl rfl rfl
        -- 16: Op.indexAddr 33 t20 t21   [guarded: some (12, true)]
        apply Stage.step (Is _) [false, false, false, false, false, false, false, false, false, false, false, false, true, false, true, true] (Is.keeps _) (by kernel_rfl)
        · intro w1 h1
          simp only [List.nil_append, List.cons_append, Given]
          rintro _ rfl
          rintro _ rfl
          rintro _ rfl
          go_wp2_with fail
          exact Post.isv (Ext.refl _) rfl rfl rfl
        -- 17: Op.fieldAddr 42 t22 0   [guarded: some (12, true)]
        apply Stage.step (Is _) [false, false, false, false, false, false, false, false, false, false, false, false, true, false, false, false, true] (Is.keeps _) (by kernel_rfl)
        · intro w1 h1
          simp only [List.nil_append, List.cons_append, Given]
          rintro _ rfl
          rintro _ rfl
          go_wp2_with fail
          exact Post.isv (Ext.refl _) rfl rfl rfl
        -- 18: Op.load 9 t23   [guarded: some (12, true)]
        apply Stage.step (Is _) [false, false, false, false, false, false, false, false, false, false, false, false, true, false, false, false, false, true] (Is.keeps _) (by kernel_rfl)
        · intro w1 h1
          simp only [List.nil_append, List.cons_append, Given]
          rintro _ rfl
          rintro _ rfl
          go_wp2_with fail
          exact Post.isv (Ext.refl _) rfl rfl rfl
        -- 19: Op.fieldAddr 35 t3 1   [guarded: some (12, true)]
        apply Stage.step (Is _) [false, false, false, false, false, false, false, false, false, false, false, false, true] (Is.keeps _) (by kernel_rfl)
        · intro w1 h1
          simp only [List.nil_append, List.cons_append, Given]
          rintro _ rfl
          go_wp2_with fail
          exact Post.isv (Ext.refl _) rfl rfl rfl
        -- 20: Op.load 33 t25   [guarded: some (12, true)]
        apply Stage.step (Is _) [false, false, false, false, false, false, false, false, false, false, false, false, true, false, false, false, false, false, false, true] (Is.keeps _) (by kernel_rfl)
        · intro w1 h1
          simp only [List.nil_append, List.cons_append, Given]
          rintro _ rfl
          rintro _ rfl
          go_wp2_with fail
          exact Post.isv (Ext.refl _) rfl rfl rfl
        -- 21: Op.move t5   [guarded: some (12, true)]
        apply Stage.step (Is _) [false, false, false, false, false, false, false, false, false, false, false, false, true] (Is.keeps _) (by kernel_rfl)
        · intro w1 h1
          simp only [List.nil_append, List.cons_append, Given]
          rintro _ rfl
          go_wp2_with fail
          exact Post.isv (Ext.refl _) rfl rfl rfl
        -- 22: Op.indexAddr 33 t26 t27   [guarded: some (12, true)]
        apply Stage.step (Is _) [false, false, false, false, false, false, false, false, false, false, false, false, true, false, false, false, false, false, false, false, true, true] (Is.keeps _) (by kernel_rfl)
        · intro w1 h1
          simp only [List.nil_append, List.cons_append, Given]
          rintro _ rfl
          rintro _ rfl
          rintro _ rfl
          go_wp2_with fail
          exact Post.isv (Ext.refl _) rfl rfl rfl
        -- 23: Op.fieldAddr 42 t28 0   [guarded: some (12, true)]
        apply Stage.step (Is _) [false, false, false, false, false, false, false, false, false, false, false, false, true, false, false, false, false, false, false, false, false, false, true] (Is.keeps _) (by kernel_rfl)
        · intro w1 h1
          simp only [List.nil_append, List.cons_append, Given]
          rintro _ rfl
          rintro _ rfl
          go_wp2_with fail
          exact Post.isv (Ext.refl _) rfl rfl rfl
        -- 24: Op.load 9 t29   [guarded: some (12, true)]
        apply Stage.step (Is _) [false, false, false, false, false, false, false, false, false, false, false, false, true, false, false, false, false, false, false, false, false, false, false, true] (Is.keeps _) (by kernel_rfl)
        · intro w1 h1
          simp only [List.nil_append, List.cons_append, Given]
          rintro _ rfl
          rintro _ rfl
          go_wp2_with fail
          exact Post.isv (Ext.refl _) rfl rfl rfl
        -- 25: Op.binOp BinOp.eql 9 t24 t30 9   [guarded: some (12, true)]
        apply Stage.step (Is _) [false, false, false, false, false, false, false, false, false, false, false, false, true, false, false, false, false, false, true, false, false, false, false, false, true] (Is.keeps _) (by kernel_rfl)
        · intro w1 h1
          simp only [List.nil_append, List.cons_append, Given]
          rintro _ rfl
          rintro _ rfl
          rintro _ rfl
          go_wp2_with fail
          exact Post.isv (Ext.refl _) rfl rfl rfl
        -- 26: Op.pick t18 t31 (const (Value.bool false))
        apply Stage.step (Is _) [false, false, false, false, false, false, false, false, false, false, false, false, true, false, false, false, false, false, false, false, false, false, false, false, false, true] (Is.keeps _) (by kernel_rfl)
        · intro w1 h1
          simp only [List.nil_append, List.cons_append, Given]
          rintro _ rfl
          rintro _ rfl
          go_wp2_with fail
          exact Post.isv (Ext.refl _) rfl rfl rfl
        -- 27: Op.move t32
        apply Stage.step (Is _) [false, false, false, false, false, false, false, false, false, false, false, false, false, false, false, false, false, false, false, false, false, false, false, false, false, false, true] (Is.keeps _) (by kernel_rfl)
        · intro w1 h1
          simp only [List.nil_append, List.cons_append, Given]
          rintro _ rfl
          go_wp2_with fail
          exact Post.isv (Ext.refl _) rfl rfl rfl
        -- 28: Op.fieldAddr 35 t2 1   [guarded: some (27, true)]
        apply Stage.step (Is _) [false, false, false, false, false, false, false, false, false, false, false, false, false, false, false, false, false, false, false, false, false, false, false, false, false, false, false, true] (Is.keeps _) (by kernel_rfl)
        · intro w1 h1
          simp only [List.nil_append, List.cons_append, Given]
          rintro _ rfl
          go_wp2_with fail
          exact Post.isv (Ext.refl _) rfl rfl rfl
        -- 29: Op.load 33 t34   [guarded: some (27, true)]
        apply Stage.step (Is _) [false, false, false, false, false, false, false, false, false, false, false, false, false, false, false, false, false, false, false, false, false, false, false, false, false, false, false, true, true] (Is.keeps _) (by kernel_rfl)
        · intro w1 h1
          simp only [List.nil_append, List.cons_append, Given]
          rintro _ rfl
          rintro _ rfl
          go_wp2_with fail
          exact Post.isv (Ext.refl _) rfl rfl rfl
        -- 30: Op.move t5   [guarded: some (27, true)]
        apply Stage.step (Is _) [false, false, false, false, false, false, false, false, false, false, false, false, false, false, false, false, false, false, false, false, false, false, false, false, false, false, false, true] (Is.keeps _) (by kernel_rfl)
        · intro w1 h1
          simp only [List.nil_append, List.cons_append, Given]
          rintro _ rfl
          go_wp2_with fail
          exact Post.isv (Ext.refl _) rfl rfl rfl
        -- 31: Op.indexAddr 33 t35 t36   [guarded: some (27, true)]
        apply Stage.step (Is _) [false, false, false, false, false, false, false, false, false, false, false, false, false, false, false, false, false, false, false, false, false, false, false, false, false, false, false, true, false, true, true] (Is.keeps _) (by kernel_rfl)
        · intro w1 h1
          simp only [List.nil_append, List.cons_append, Given]
          rintro _ rfl
          rintro _ rfl
          rintro _ rfl
          go_wp2_with fail
          exact Post.isv (Ext.refl _) rfl rfl rfl
        -- 32: Op.fieldAddr 42 t37 1   [guarded: some (27, true)]
        apply Stage.step (Is _) [false, false, false, false, false, false, false, false, false, false, false, false, false, false, false, false, false, false, false, false, false, false, false, false, false, false, false, true, false, false, false, true] (Is.keeps _) (by kernel_rfl)
        · intro w1 h1
          simp only [List.nil_append, List.cons_append, Given]
          rintro _ rfl
          rintro _ rfl
          go_wp2_with fail
          exact Post.isv (Ext.refl _) rfl rfl rfl
        -- 33: Op.load 22 t38   [guarded: some (27, true)]
        apply Stage.step (Is _) [false, false, false, false, false, false, false, false, false, false, false, false, false, false, false, false, false, false, false, false, false, false, false, false, false, false, false, true, false, false, false, false, true] (Is.keeps _) (by kernel_rfl)
        · intro w1 h1
          simp only [List.nil_append, List.cons_append, Given]
          rintro _ rfl
          rintro _ rfl
          go_wp2_with fail
          exact Post.isv (Ext.refl _) rfl rfl rfl
        -- 34: Op.fieldAddr 35 t3 1   [guarded: some (27, true)]
        apply Stage.step (Is _) [false, false, false, false, false, false, false, false, false, false, false, false, false, false, false, false, false, false, false, false, false, false, false, false, false, false, false, true] (Is.keeps _) (by kernel_rfl)
        · intro w1 h1
          simp only [List.nil_append, List.cons_append, Given]
          rintro _ rfl
          go_wp2_with fail
          exact Post.isv (Ext.refl _) rfl rfl rfl
        -- 35: Op.load 33 t40   [guarded: some (27, true)]
        apply Stage.step (Is _) [false, false, false, false, false, false, false, false, false, false, false, false, false, false, false, false, false, false, false, false, false, false, false, false, false, false, false, true, false, false, false, false, false, false, true] (Is.keeps _) (by kernel_rfl)
        · intro w1 h1
          simp only [List.nil_append, List.cons_append, Given]
          rintro _ rfl
          rintro _ rfl
          go_wp2_with fail
          exact Post.isv (Ext.refl _) rfl rfl rfl
        -- 36: Op.move t5   [guarded: some (27, true)]
        apply Stage.step (Is _) [false, false, false, false, false, false, false, false, false, false, false, false, false, false, false, false, false, false, false, false, false, false, false, false, false, false, false, true] (Is.keeps _) (by kernel_rfl)
        · intro w1 h1
          simp only [List.nil_append, List.cons_append, Given]
          rintro _ rfl
          go_wp2_with fail
          exact Post.isv (Ext.refl _) rfl rfl rfl
        -- 37: Op.indexAddr 33 t41 t42   [guarded: some (27, true)]
        apply Stage.step (Is _) [false, false, false, false, false, false, false, false, false, false, false, false, false, false, false, false, false, false, false, false, false, false, false, false, false, false, false, true, false, false, false, false, false, false, false, true, true] (Is.keeps _) (by kernel_rfl)
        · intro w1 h1
          simp only [List.nil_append, List.cons_append, Given]
          rintro _ rfl
          rintro _ rfl
          rintro _ rfl
          go_wp2_with fail
          exact Post.isv (Ext.refl _) rfl rfl rfl
        -- 38: Op.fieldAddr 42 t43 1   [guarded: some (27, true)]
        apply Stage.step (Is _) [false, false, false, false, false, false, false, false, false, false, false, false, false, false, false, false, false, false, false, false, false, false, false, false, false, false, false, true, false, false, false, false, false, false, false, false, false, true] (Is.keeps _) (by kernel_rfl)
        · intro w1 h1
          simp only [List.nil_append, List.cons_append, Given]
          rintro _ rfl
          rintro _ rfl
          go_wp2_with fail
          exact Post.isv (Ext.refl _) rfl rfl rfl
        -- 39: Op.load 22 t44   [guarded: some (27, true)]
        apply Stage.step (Is _) [false, false, false, false, false, false, false, false, false, false, false, false, false, false, false, false, false, false, false, false, false, false, false, false, false, false, false, true, false, false, false, false, false, false, false, false, false, false, true] (Is.keeps _) (by kernel_rfl)
        · intro w1 h1
          simp only [List.nil_append, List.cons_append, Given]
          rintro _ rfl
          rintro _ rfl
          go_wp2_with fail
          exact Post.isv (Ext.refl _) rfl rfl rfl
        -- 40: Op.call { value (Operand.func 68), args := #[t39, t45], argTypes := #[22, 22] }   [guarded: some (27
        apply Stage.step (Is _) [false, false, false, false, false, false, false, false, false, false, false, false, false, false, false, false, false, false, false, false, false, false, false, false, false, false, false, true, false, false, false, false, false, true, false, false, false, false, false, true] (Is.keeps _) (by kernel_rfl)
        · intro w1 h1
          simp only [List.nil_append, List.cons_append, Given]
          rintro _ rfl
          rintro _ rfl
          rintro _ rfl
          go_wp2_with fail
          exact Post.isv (Ext.refl _) rfl rfl rfl
        -- 41: Op.pick t33 t46 (const (Value.bool false))
        apply Stage.step (Is _) [false, false, false, false, false, false, false, false, false, false, false, false, false, false, false, false, false, false, false, false, false, false, false, false, false, false, false, true, false, false, false, false, false, false, false, false, false, false, false, false, true] (Is.keeps _) (by kernel_rfl)
        · intro w1 h1
          simp only [List.nil_append, List.cons_append, Given]
          rintro _ rfl
          rintro _ rfl
          go_wp2_with fail
          exact Post.isv (Ext.refl _) rfl rfl rfl
        apply Stage.nil
        intro w1 h1
        simp only [List.nil_append, List.cons_append]
        refine Fin.is_ ?_
        refine Fin.is_ ?_
        refine Fin.is_ ?_
        refine Fin.is_ ?_
        refine Fin.is_ ?_
        refine Fin.is_ ?_
        refine Fin.is_ ?_
        refine Fin.is_ ?_
        refine Fin.is_ ?_
        refine Fin.is_ ?_
        refine Fin.is_ ?_
        refine Fin.is_ ?_
        refine Fin.is_ ?_
        refine Fin.is_ ?_
        refine Fin.is_ ?_
        refine Fin.is_ ?_
        refine Fin.is_ ?_
        refine Fin.is_ ?_
        refine Fin.is_ ?_
        refine Fin.is_ ?_
        refine Fin.is_ ?_
        refine Fin.is_ ?_
        refine Fin.is_ ?_
        refine Fin.is_ ?_
        refine Fin.is_ ?_
        refine Fin.is_ ?_
        refine Fin.is_ ?_
        refine Fin.is_ ?_
        refine Fin.is_ ?_
        refine Fin.is_ ?_
        refine Fin.is_ ?_
        refine Fin.is_ ?_
        refine Fin.is_ ?_
        refine Fin.is_ ?_
        refine Fin.is_ ?_
        refine Fin.is_ ?_
        refine Fin.is_ ?_
        refine Fin.is_ ?_
        refine Fin.is_ ?_
        refine Fin.is_ ?_
        refine Fin.is_ ?_
        refine Fin.is_ ?_
        refine Fin.nil_ ?_
        go_simp
        go_wp2_with fail
        go_ret
        exact ⟨rfl, gW.trans (hxr.trans h1)⟩
    · have k1 : decide ((k : Int) < (n2 : Int)) = false := by simp; omega
      obtain rfl : k = r := by
        rw [← hrk.out, List.drop_of_length_le (l := s.sn) (by rw [l1.len]; omega)]
        simp [alikeL]
      clear hrk
      go_wp2_with fail
      refine wp_region_typed Ext.steady rfl 51 rfl (by kernel_rfl) ?_
      -- 0: Op.move t5
      apply Stage.step (Is _) [] (Is.keeps _) (by kernel_rfl)
      · intro w1 h1
        simp only [Given]
        go_wp2_with fail
        exact Post.isv (Ext.refl _) rfl rfl rfl
      -- 1: Op.fieldAddr 35 t2 1
      apply Stage.step (Is _) [] (Is.keeps _) (by kernel_rfl)
      · intro w1 h1
        simp only [Given]
        go_wp2_with fail
        exact Post.isv (Ext.refl _) rfl rfl rfl
      -- 2: Op.load 33 t7
      apply Stage.step (Is _) [false, true] (Is.keeps _) (by kernel_rfl)
      · intro w1 h1
        simp only [List.nil_append, List.cons_append, Given]
        rintro _ rfl
        have hq := h1.cell s1
        go_wp2_with fail
        exact Post.isv (Ext.refl _) rfl rfl rfl
      -- 3: Op.call { builtin len, args := #[t8], argTypes := #[33] }
      apply Stage.step (Is _) [false, false, true] (Is.keeps _) (by kernel_rfl)
      · intro w1 h1
        simp only [List.nil_append, List.cons_append, Given]
        rintro _ rfl
        go_wp2_with fail
        exact Post.isv (Ext.refl _) rfl rfl rfl
      -- 4: Op.binOp BinOp.lss 3 t6 t9 3
      apply Stage.step (Is _) [true, false, false, true] (Is.keeps _) (by kernel_rfl)
      · intro w1 h1
        simp only [List.nil_append, List.cons_append, Given]
        rintro _ rfl
        rintro _ rfl
        go_wp2_with fail
        exact Post.isv (Ext.refl _) rfl rfl rfl
      -- 5: Op.move t10
      apply Stage.step (Is _) [false, false, false, false, true] (Is.keeps _) (by kernel_rfl)
      · intro w1 h1
        simp only [List.nil_append, List.cons_append, Given]
        rintro _ rfl
        go_wp2_with fail
        exact Post.isv (Ext.refl _) rfl rfl rfl
      -- 6: Op.move t5   [guarded: some (5, true)]
      apply Stage.step (Is _) [false, false, false, false, false, true] (Is.keeps _) (by kernel_rfl)
      · intro w1 h1
        simp only [List.nil_append, List.cons_append, Given]
        rintro _ rfl
        go_wp2_with fail
        exact Post.isv (Ext.refl _) rfl rfl rfl
      -- 7: Op.fieldAddr 35 t3 1   [guarded: some (5, true)]
      apply Stage.step (Is _) [false, false, false, false, false, true] (Is.keeps _) (by kernel_rfl)
      · intro w1 h1
        simp only [List.nil_append, List.cons_append, Given]
        rintro _ rfl
        go_wp2_with fail
        exact Post.isv (Ext.refl _) rfl rfl rfl
      -- 8: Op.load 33 t13   [guarded: some (5, true)]
      apply Stage.step (Is _) [false, false, false, false, false, true, false, true] (Is.keeps _) (by kernel_rfl)
      · intro w1 h1
        simp only [List.nil_append, List.cons_append, Given]
        rintro _ rfl
        rintro _ rfl
        have hq := h1.cell u1
        go_wp2_with fail
        exact Post.isv (Ext.refl _) rfl rfl rfl
      -- 9: Op.call { builtin len, args := #[t14], argTypes := #[33] }   [guarded: some (5, true)]
      apply Stage.step (Is _) [false, false, false, false, false, true, false, false, true] (Is.keeps _) (by kernel_rfl)
      · intro w1 h1
        simp only [List.nil_append, List.cons_append, Given]
        rintro _ rfl
        rintro _ rfl
        go_wp2_with fail
        exact Post.isv (Ext.refl _) rfl rfl rfl
      -- 10: Op.binOp BinOp.lss 3 t12 t15 3   [guarded: some (5, true)]
      apply Stage.step (Is _) [false, false, false, false, false, true, true, false, false, true] (Is.keeps _) (by kernel_rfl)
      · intro w1 h1
        simp only [List.nil_append, List.cons_append, Given]
        rintro _ rfl
        rintro _ rfl
        rintro _ rfl
        go_wp2_with fail
        exact Post.isv (Ext.refl _) rfl rfl rfl
      -- 11: Op.pick t11 t16 (const (Value.bool false))
      apply Stage.step (Is _) [false, false, false, false, false, true, false, false, false, false, true] (Is.keeps _) (by kernel_rfl)
      · intro w1 h1
        simp only [List.nil_append, List.cons_append, Given]
        rintro _ rfl
        rintro _ rfl
        go_wp2_with fail
        exact Post.isv (Ext.refl _) rfl rfl rfl
      -- 12: Op.move t17
      apply Stage.step (Is _) [false, false, false, false, false, false, false, false, false, false, false, true] (Is.keeps _) (by kernel_rfl)
      · intro w1 h1
        simp only [List.nil_append, List.cons_append, Given]
        rintro _ rfl
        go_wp2_with fail
        exact Post.isv (Ext.refl _) rfl rfl rfl
      -- 13: Op.fieldAddr 35 t2 1   [guarded: some (12, true)]
      apply Stage.step (Is _) [false, false, false, false, false, false, false, false, false, false, false, false, true] (Is.keeps _) (by kernel_rfl)
      · intro w1 h1
        simp only [List.nil_append, List.cons_append, Given]
        rintro _ rfl
        go_wp2_with fail
        exact Post.isv (Ext.refl _) rfl rfl rfl
      -- 14: Op.load 33 t19   [guarded: some (12, true)]
      apply Stage.step (Is _) [false, false, false, false, false, false, false, false, false, false, false, false, true, true] (Is.keeps _) (by kernel_rfl)
      · intro w1 h1
        simp only [List.nil_append, List.cons_append, Given]
        rintro _ rfl
        rintro _ rfl
        go_wp2_with fail
        exact Post.isv (Ext.refl _) rfl rfl rfl
      -- 15: Op.move t5   [guarded: some (12, true)]
      apply Stage.step (Is _) [false, false, false, false, false, false, false, false, false, false, false, false, true] (Is.keeps _) (by kernel_rfl)
      · intro w1 h1
        simp only [List.nil_append, List.cons_append, Given]
        rintro _ rfl
        go_wp2_with fail
        exact Post.isv (Ext.refl _) rfl rfl rfl
      -- 16: Op.indexAddr 33 t20 t21   [guarded: some (12, true)]
      apply Stage.step (Is _) [false, false, false, false, false, false, false, false, false, false, false, false, true, false, true, true] (Is.keeps _) (by kernel_rfl)
      · intro w1 h1
        simp only [List.nil_append, List.cons_append, Given]
        rintro _ rfl
        rintro _ rfl
        rintro _ rfl
        go_wp2_with fail
        exact Post.isv (Ext.refl _) rfl rfl rfl
      -- 17: Op.fieldAddr 42 t22 0   [guarded: some (12, true)]
      apply Stage.step (Is _) [false, false, false, false, false, false, false, false, false, false, false, false, true, false, false, false, true] (Is.keeps _) (by kernel_rfl)
      · intro w1 h1
        simp only [List.nil_append, List.cons_append, Given]
        rintro _ rfl
        rintro _ rfl
        go_wp2_with fail
        exact Post.isv (Ext.refl _) rfl rfl rfl
      -- 18: Op.load 9 t23   [guarded: some (12, true)]
      apply Stage.step (Is _) [false, false, false, false, false, false, false, false, false, false, false, false, true, false, false, false, false, true] (Is.keeps _) (by kernel_rfl)
      · intro w1 h1
        simp only [List.nil_append, List.cons_append, Given]
        rintro _ rfl
        rintro _ rfl
        go_wp2_with fail
        exact Post.isv (Ext.refl _) rfl rfl rfl
      -- 19: Op.fieldAddr 35 t3 1   [guarded: some (12, true)]
      apply Stage.step (Is _) [false, false, false, false, false, false, false, false, false, false, false, false, true] (Is.keeps _) (by kernel_rfl)
      · intro w1 h1
        simp only [List.nil_append, List.cons_append, Given]
        rintro _ rfl
        go_wp2_with fail
        exact Post.isv (Ext.refl _) rfl rfl rfl
      -- 20: Op.load 33 t25   [guarded: some (12, true)]
      apply Stage.step (Is _) [false, false, false, false, false, false, false, false, false, false, false, false, true, false, false, false, false, false, false, true] (Is.keeps _) (by kernel_rfl)
      · intro w1 h1
        simp only [List.nil_append, List.cons_append, Given]
        rintro _ rfl
        rintro _ rfl
        go_wp2_with fail
        exact Post.isv (Ext.refl _) rfl rfl rfl
      -- 21: Op.move t5   [guarded: some (12, true)]
      apply Stage.step (Is _) [false, false, false, false, false, false, false, false, false, false, false, false, true] (Is.keeps _) (by kernel_rfl)
      · intro w1 h1
        simp only [List.nil_append, List.cons_append, Given]
        rintro _ rfl
        go_wp2_with fail
        exact Post.isv (Ext.refl _) rfl rfl rfl
      -- 22: Op.indexAddr 33 t26 t27   [guarded: some (12, true)]
      apply Stage.step (Is _) [false, false, false, false, false, false, false, false, false, false, false, false, true, false, false, false, false, false, false, false, true, true] (Is.keeps _) (by kernel_rfl)
      · intro w1 h1
        simp only [List.nil_append, List.cons_append, Given]
        rintro _ rfl
        rintro _ rfl
        rintro _ rfl
        go_wp2_with fail
        exact Post.isv (Ext.refl _) rfl rfl rfl
      -- 23: Op.fieldAddr 42 t28 0   [guarded: some (12, true)]
      apply Stage.step (Is _) [false, false, false, false, false, false, false, false, false, false, false, false, true, false, false, false, false, false, false, false, false, false, true] (Is.keeps _) (by kernel_rfl)
      · intro w1 h1
        simp only [List.nil_append, List.cons_append, Given]
        rintro _ rfl
        rintro _ rfl
        go_wp2_with fail
        exact Post.isv (Ext.refl _) rfl rfl rfl
      -- 24: Op.load 9 t29   [guarded: some (12, true)]
      apply Stage.step (Is _) [false, false, false, false, false, false, false, false, false, false, false, false, true, false, false, false, false, false, false, false, false, false, false, true] (Is.keeps _) (by kernel_rfl)
      · intro w1 h1
        simp only [List.nil_append, List.cons_append, Given]
        rintro _ rfl
        rintro _ rfl
        go_wp2_with fail
        exact Post.isv (Ext.refl _) rfl rfl rfl
      -- 25: Op.binOp BinOp.eql 9 t24 t30 9   [guarded: some (12, true)]
      apply Stage.step (Is _) [false, false, false, false, false, false, false, false, false, false, false, false, true, false, false, false, false, false, true, false, false, false, false, false, true] (Is.keeps _) (by kernel_rfl)
      · intro w1 h1
        simp only [List.nil_append, List.cons_append, Given]
        rintro _ rfl
        rintro _ rfl
        rintro _ rfl
        go_wp2_with fail
        exact Post.isv (Ext.refl _) rfl rfl rfl
      -- 26: Op.pick t18 t31 (const (Value.bool false))
      apply Stage.step (Is _) [false, false, false, false, false, false, false, false, false, false, false, false, true, false, false, false, false, false, false, false, false, false, false, false, false, true] (Is.keeps _) (by kernel_rfl)
      · intro w1 h1
        simp only [List.nil_append, List.cons_append, Given]
        rintro _ rfl
        rintro _ rfl
        go_wp2_with fail
        exact Post.isv (Ext.refl _) rfl rfl rfl
      -- 27: Op.move t32
      apply Stage.step (Is _) [false, false, false, false, false, false, false, false, false, false, false, false, false, false, false, false, false, false, false, false, false, false, false, false, false, false, true] (Is.keeps _) (by kernel_rfl)
      · intro w1 h1
        simp only [List.nil_append, List.cons_append, Given]
        rintro _ rfl
        go_wp2_with fail
        exact Post.isv (Ext.refl _) rfl rfl rfl
      -- 28: Op.fieldAddr 35 t2 1   [guarded: some (27, true)]
      apply Stage.step (Is _) [false, false, false, false, false, false, false, false, false, false, false, false, false, false, false, false, false, false, false, false, false, false, false, false, false, false, false, true] (Is.keeps _) (by kernel_rfl)
      · intro w1 h1
        simp only [List.nil_append, List.cons_append, Given]
        rintro _ rfl
        go_wp2_with fail
        exact Post.isv (Ext.refl _) rfl rfl rfl
      -- 29: Op.load 33 t34   [guarded: some (27, true)]
      apply Stage.step (Is _) [false, false, false, false, false, false, false, false, false, false, false, false, false, false, false, false, false, false, false, false, false, false, false, false, false, false, false, true, true] (Is.keeps _) (by kernel_rfl)
      · intro w1 h1
        simp only [List.nil_append, List.cons_append, Given]
        rintro _ rfl
        rintro _ rfl
        go_wp2_with fail
        exact Post.isv (Ext.refl _) rfl rfl rfl
      -- 30: Op.move t5   [guarded: some (27, true)]
      apply Stage.step (Is _) [false, false, false, false, false, false, false, false, false, false, false, false, false, false, false, false, false, false, false, false, false, false, false, false, false, false, false, true] (Is.keeps _) (by kernel_rfl)
      · intro w1 h1
        simp only [List.nil_append, List.cons_append, Given]
        rintro _ rfl
        go_wp2_with fail
        exact Post.isv (Ext.refl _) rfl rfl rfl
      -- 31: Op.indexAddr 33 t35 t36   [guarded: some (27, true)]
      apply Stage.step (Is _) [false, false, false, false, false, false, false, false, false, false, false, false, false, false, false, false, false, false, false, false, false, false, false, false, false, false, false, true, false, true, true] (Is.keeps _) (by kernel_rfl)
      · intro w1 h1
        simp only [List.nil_append, List.cons_append, Given]
        rintro _ rfl
        rintro _ rfl
        rintro _ rfl
        go_wp2_with fail
        exact Post.isv (Ext.refl _) rfl rfl rfl
      -- 32: Op.fieldAddr 42 t37 1   [guarded: some (27, true)]
      apply Stage.step (Is _) [false, false, false, false, false, false, false, false, false, false, false, false, false, false, false, false, false, false, false, false, false, false, false, false, false, false, false, true, false, false, false, true] (Is.keeps _) (by kernel_rfl)
      · intro w1 h1
        simp only [List.nil_append, List.cons_append, Given]
        rintro _ rfl
        rintro _ rfl
        go_wp2_with fail
        exact Post.isv (Ext.refl _) rfl rfl rfl
      -- 33: Op.load 22 t38   [guarded: some (27, true)]
      apply Stage.step (Is _) [false, false, false, false, false, false, false, false, false, false, false, false, false, false, false, false, false, false, false, false, false, false, false, false, false, false, false, true, false, false, false, false, true] (Is.keeps _) (by kernel_rfl)
      · intro w1 h1
        simp only [List.nil_append, List.cons_append, Given]
        rintro _ rfl
        rintro _ rfl
        go_wp2_with fail
        exact Post.isv (Ext.refl _) rfl rfl rfl
      -- 34: Op.fieldAddr 35 t3 1   [guarded: some (27, true)]
      apply Stage.step (Is _) [false, false, false, false, false, false, false, false, false, false, false, false, false, false, false, false, false, false, false, false, false, false, false, false, false, false, false, true] (Is.keeps _) (by kernel_rfl)
      · intro w1 h1
        simp only [List.nil_append, List.cons_append, Given]
        rintro _ rfl
        go_wp2_with fail
        exact Post.isv (Ext.refl _) rfl rfl rfl
      -- 35: Op.load 33 t40   [guarded: some (27, true)]
      apply Stage.step (Is _) [false, false, false, false, false, false, false, false, false, false, false, false, false, false, false, false, false, false, false, false, false, false, false, false, false, false, false, true, false, false, false, false, false, false, true] (Is.keeps _) (by kernel_rfl)
      · intro w1 h1
        simp only [List.nil_append, List.cons_append, Given]
        rintro _ rfl
        rintro _ rfl
        go_wp2_with fail
        exact Post.isv (Ext.refl _) rfl rfl rfl
      -- 36: Op.move t5   [guarded: some (27, true)]
      apply Stage.step (Is _) [false, false, false, false, false, false, false, false, false, false, false, false, false, false, false, false, false, false, false, false, false, false, false, false, false, false, false, true] (Is.keeps _) (by kernel_rfl)
      · intro w1 h1
        simp only [List.nil_append, List.cons_append, Given]
        rintro _ rfl
        go_wp2_with fail
        exact Post.isv (Ext.refl _) rfl rfl rfl
      -- 37: Op.indexAddr 33 t41 t42   [guarded: some (27, true)]
      apply Stage.step (Is _) [false, false, false, false, false, false, false, false, false, false, false, false, false, false, false, false, false, false, false, false, false, false, false, false, false, false, false, true, false, false, false, false, false, false, false, true, true] (Is.keeps _) (by kernel_rfl)
      · intro w1 h1
        simp only [List.nil_append, List.cons_append, Given]
        rintro _ rfl
        rintro _ rfl
        rintro _ rfl
        go_wp2_with fail
        exact Post.isv (Ext.refl _) rfl rfl rfl
      -- 38: Op.fieldAddr 42 t43 1   [guarded: some (27, true)]
      apply Stage.step (Is _) [false, false, false, false, false, false, false, false, false, false, false, false, false, false, false, false, false, false, false, false, false, false, false, false, false, false, false, true, false, false, false, false, false, false, false, false, false, true] (Is.keeps _) (by kernel_rfl)
      · intro w1 h1
        simp only [List.nil_append, List.cons_append, Given]
        rintro _ rfl
        rintro _ rfl
        go_wp2_with fail
        exact Post.isv (Ext.refl _) rfl rfl rfl
      -- 39: Op.load 22 t44   [guarded: some (27, true)]
      apply Stage.step (Is _) [false, false, false, false, false, false, false, false, false, false, false, false, false, false, false, false, false, false, false, false, false, false, false, false, false, false, false, true, false, false, false, false, false, false, false, false, false, false, true] (Is.keeps _) (by kernel_rfl)
      · intro w1 h1
        simp only [List.nil_append, List.cons_append, Given]
        rintro _ rfl
        rintro _ rfl
        go_wp2_with fail
        exact Post.isv (Ext.refl _) rfl rfl rfl
      -- 40: Op.call { value (Operand.func 68), args := #[t39, t45], argTypes := #[22, 22] }   [guarded: some (27
      apply Stage.step (Is _) [false, false, false, false, false, false, false, false, false, false, false, false, false, false, false, false, false, false, false, false, false, false, false, false, false, false, false, true, false, false, false, false, false, true, false, false, false, false, false, true] (Is.keeps _) (by kernel_rfl)
      · intro w1 h1
        simp only [List.nil_append, List.cons_append, Given]
        rintro _ rfl
        rintro _ rfl
        rintro _ rfl
        go_wp2_with fail
        exact Post.isv (Ext.refl _) rfl rfl rfl
      -- 41: Op.pick t33 t46 (const (Value.bool false))
      apply Stage.step (Is _) [false, false, false, false, false, false, false, false, false, false, false, false, false, false, false, false, false, false, false, false, false, false, false, false, false, false, false, true, false, false, false, false, false, false, false, false, false, false, false, false, true] (Is.keeps _) (by kernel_rfl)
      · intro w1 h1
        simp only [List.nil_append, List.cons_append, Given]
        rintro _ rfl
        rintro _ rfl
        go_wp2_with fail
        exact Post.isv (Ext.refl _) rfl rfl rfl
      apply Stage.nil
      intro w1 h1
      simp only [List.nil_append, List.cons_append]
      refine Fin.is_ ?_
      refine Fin.is_ ?_
      refine Fin.is_ ?_
      refine Fin.is_ ?_
      refine Fin.is_ ?_
      refine Fin.is_ ?_
      refine Fin.is_ ?_
      refine Fin.is_ ?_
      refine Fin.is_ ?_
      refine Fin.is_ ?_
      refine Fin.is_ ?_
      refine Fin.is_ ?_
      refine Fin.is_ ?_
      refine Fin.is_ ?_
      refine Fin.is_ ?_
      refine Fin.is_ ?_
      refine Fin.is_ ?_
      refine Fin.is_ ?_
      refine Fin.is_ ?_
      refine Fin.is_ ?_
      refine Fin.is_ ?_
      refine Fin.is_ ?_
      refine Fin.is_ ?_
      refine Fin.is_ ?_
      refine Fin.is_ ?_
      refine Fin.is_ ?_
      refine Fin.is_ ?_
      refine Fin.is_ ?_
      refine Fin.is_ ?_
      refine Fin.is_ ?_
      refine Fin.is_ ?_
      refine Fin.is_ ?_
      refine Fin.is_ ?_
      refine Fin.is_ ?_
      refine Fin.is_ ?_
      refine Fin.is_ ?_
      refine Fin.is_ ?_
      refine Fin.is_ ?_
      refine Fin.is_ ?_
      refine Fin.is_ ?_
      refine Fin.is_ ?_
      refine Fin.is_ ?_
      refine Fin.nil_ ?_
      go_simp
      go_wp2_with fail
      go_ret
      exact ⟨rfl, gW.trans (hxr.trans h1)⟩
end Go.Proofs.Ytcklkjklepmabaa
