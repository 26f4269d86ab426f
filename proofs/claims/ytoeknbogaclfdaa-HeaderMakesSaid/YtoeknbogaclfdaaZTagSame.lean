/-
  Chains: contract of the reference's SameTags.
-/
import Derived.Test.YtoeknbogaclfdaaZTagLie
namespace Go.Proofs.Ytoeknbogaclfdaa
open Go.RowKit
set_option linter.unusedVariables false
set_option linter.unusedSimpArgs false
set_option linter.unnecessarySimpa false
set_option maxRecDepth 100000

def sameT (xs ys : List Tg) : Bool := decide (xs = ys)
theorem sameT_no {xs ys : List Tg} {k : Nat} {x y : Tg} (hx : xs[k]? = some x) (hy : ys[k]? = some y) (e : x ≠ y) : sameT xs ys = false := by
  unfold sameT
  rw [decide_eq_false_iff_not]
  rintro rfl
  rw [hx] at hy
  injection hy with hy
  exact e hy
theorem takeT_next {xs ys : List Tg} {k : Nat} {x : Tg} (h : xs.take k = ys.take k) (hx : xs[k]? = some x) (hy : ys[k]? = some x) : xs.take (k + 1) = ys.take (k + 1) := by
  rw [List.take_add_one, List.take_add_one, h, hx, hy]
set_option maxHeartbeats 1000000 in
theorem ref_SameTags {A : Option Addr} {n c : Nat} {xs : List Tg} {A' : Option Addr} {n' c' : Nat} {ys : List Tg} {w : World} (l1 : Lst 4 tgR w A n c xs) (l2 : Lst 4 tgR w A' n' c' ys) {b : Bool} (hb : Hid (sameT xs ys = b)) :
    Calls Try.prog 51 #[.slice A n c, .slice A' n' c'] w fun e w' => e = .returned (.bool b) ∧ Ext w w' := by
  have h63 := l1.n63
  have h63' := l2.n63
  by_cases hn : n = n'
  case neg =>
    have hne : b = false := by
      rw [← hb.out]
      unfold sameT
      rw [decide_eq_false_iff_not]
      rintro rfl
      exact hn (l1.len.symm.trans l2.len)
    subst hne
    have hnn : ((n : Int) != (n' : Int)) = true := by simp; omega
    clear hn hb
    go_enter Try.func51, Try.ntmps51
    go_wp2_with fail
    go_ret
    exact ⟨rfl, Ext.refl _⟩
  subst hn
  go_enter Try.func51, Try.ntmps51
  go_wp2_with fail
  go_loopw [5] (fun i wr => ∃ k : Nat, k ≤ n ∧ i = .int .i64 k ∧ Hid (xs.take k = ys.take k) ∧ Ext w wr) (fun i _ => n - (intOf i).toNat)
  case atStart => exact ⟨0, by omega, rfl, rfl, Ext.refl _⟩
  case round =>
    obtain ⟨k, hk, rfl, hrk, hxr⟩ := hrel
    by_cases hlt : k < n
    · obtain ⟨ga, oa, x, cs, rfl, hx, rfl, ha⟩ := l1.at2 tg_rep (by omega) hlt
      obtain ⟨gb, ob, y, ds, rfl, hy, rfl, hd⟩ := l2.at2 tg_rep (by omega) hlt
      have a0 : wr.cell? ⟨ga, oa + k * 4, none⟩ = _ := hxr.cell (ha 0 _ rfl)
      have a1 := hxr.cell (ha 1 _ rfl)
      have a2 := hxr.cell (ha 2 _ rfl)
      have a3 := hxr.cell (ha 3 _ rfl)
      have b0 : wr.cell? ⟨gb, ob + k * 4, none⟩ = _ := hxr.cell (hd 0 _ rfl)
      have b1 := hxr.cell (hd 1 _ rfl)
      have b2 := hxr.cell (hd 2 _ rfl)
      have b3 := hxr.cell (hd 3 _ rfl)
      clear ha hd
      by_cases e : x = y
      · subst e
        have hn := Lib.hid (takeT_next hrk.out hx hy)
        obtain ⟨x1, x2, x3, x4⟩ := x
        clear hx hy hrk
        go_wp2_with fail
        refine wp_region_typed Ext.steady rfl 26 rfl (by kernel_rfl) ?_
        -- 0: Op.move t0
        apply Stage.step (Is _) [] (Is.keeps _) (by kernel_rfl)
        · intro w1 h1
          simp only [Given]
          go_wp2_with fail
          exact Post.isv (Ext.refl _) rfl rfl rfl
        -- 1: Op.move t5
        apply Stage.step (Is _) [] (Is.keeps _) (by kernel_rfl)
        · intro w1 h1
          simp only [Given]
          go_wp2_with fail
          exact Post.isv (Ext.refl _) rfl rfl rfl
        -- 2: Op.indexAddr 25 t17 t18
        apply Stage.step (Is _) [true, true] (Is.keeps _) (by kernel_rfl)
        · intro w1 h1
          simp only [List.nil_append, List.cons_append, Given]
          rintro _ rfl
          rintro _ rfl
          go_wp2_with fail
          exact Post.isv (Ext.refl _) rfl rfl rfl
        -- 3: Op.load 104 t19
        apply Stage.step (Is _) [false, false, true] (Is.keeps _) (by kernel_rfl)
        · intro w1 h1
          simp only [List.nil_append, List.cons_append, Given]
          rintro _ rfl
          have q0 := h1.cell a0
          have q1 := h1.cell a1
          have q2 := h1.cell a2
          have q3 := h1.cell a3
          go_wp2_with fail
          exact Post.isv (Ext.refl _) rfl rfl rfl
        -- 4: Op.move t1
        apply Stage.step (Is _) [] (Is.keeps _) (by kernel_rfl)
        · intro w1 h1
          simp only [Given]
          go_wp2_with fail
          exact Post.isv (Ext.refl _) rfl rfl rfl
        -- 5: Op.move t5
        apply Stage.step (Is _) [] (Is.keeps _) (by kernel_rfl)
        · intro w1 h1
          simp only [Given]
          go_wp2_with fail
          exact Post.isv (Ext.refl _) rfl rfl rfl
        -- 6: Op.indexAddr 25 t21 t22
        apply Stage.step (Is _) [false, false, false, false, true, true] (Is.keeps _) (by kernel_rfl)
        · intro w1 h1
          simp only [List.nil_append, List.cons_append, Given]
          rintro _ rfl
          rintro _ rfl
          go_wp2_with fail
          exact Post.isv (Ext.refl _) rfl rfl rfl
        -- 7: Op.load 104 t23
        apply Stage.step (Is _) [false, false, false, false, false, false, true] (Is.keeps _) (by kernel_rfl)
        · intro w1 h1
          simp only [List.nil_append, List.cons_append, Given]
          rintro _ rfl
          have q0 := h1.cell b0
          have q1 := h1.cell b1
          have q2 := h1.cell b2
          have q3 := h1.cell b3
          go_wp2_with fail
          exact Post.isv (Ext.refl _) rfl rfl rfl
        -- 8: Op.binOp BinOp.neq 104 t20 t24 104
        apply Stage.step (Is (.bool false)) [false, false, false, true, false, false, false, true] (Is.keeps _) (by kernel_rfl)
        · intro w1 h1
          simp only [List.nil_append, List.cons_append, Given]
          rintro _ rfl
          rintro _ rfl
          go_wp2_with fail
          all_goals first | exact Post.isv (Ext.refl _) rfl rfl rfl | (exfalso; apply e; simp_all)
        apply Stage.nil
        intro w1 h1
        simp only [List.nil_append, List.cons_append]
        refine Fin.is_ ?_
        refine Fin.is_ ?_
        refine Fin.is_ ?_
        refine Fin.is_ ?_
        refine Fin.is_ ?_
        refine Fin.is_ ?_
        refine Fin.is_ ?_
        refine Fin.is_ ?_
        refine Fin.is_ ?_
        refine Fin.nil_ ?_
        go_simp
        go_wp2_with fail
        go_roundw
        case rel => exact ⟨k + 1, by omega, by go_num, hn, hxr.trans h1⟩
        case measure => simp [intOf]; omega
      · have hn := sameT_no hx hy e
        rw [hb.out] at hn
        subst hn
        obtain ⟨x1, x2, x3, x4⟩ := x
        obtain ⟨y1, y2, y3, y4⟩ := y
        clear hx hy hrk hb
        go_wp2_with fail
        refine wp_region_typed Ext.steady rfl 26 rfl (by kernel_rfl) ?_
        -- 0: Op.move t0
        apply Stage.step (Is _) [] (Is.keeps _) (by kernel_rfl)
        · intro w1 h1
          simp only [Given]
          go_wp2_with fail
          exact Post.isv (Ext.refl _) rfl rfl rfl
        -- 1: Op.move t5
        apply Stage.step (Is _) [] (Is.keeps _) (by kernel_rfl)
        · intro w1 h1
          simp only [Given]
          go_wp2_with fail
          exact Post.isv (Ext.refl _) rfl rfl rfl
        -- 2: Op.indexAddr 25 t17 t18
        apply Stage.step (Is _) [true, true] (Is.keeps _) (by kernel_rfl)
        · intro w1 h1
          simp only [List.nil_append, List.cons_append, Given]
          rintro _ rfl
          rintro _ rfl
          go_wp2_with fail
          exact Post.isv (Ext.refl _) rfl rfl rfl
        -- 3: Op.load 104 t19
        apply Stage.step (Is _) [false, false, true] (Is.keeps _) (by kernel_rfl)
        · intro w1 h1
          simp only [List.nil_append, List.cons_append, Given]
          rintro _ rfl
          have q0 := h1.cell a0
          have q1 := h1.cell a1
          have q2 := h1.cell a2
          have q3 := h1.cell a3
          go_wp2_with fail
          exact Post.isv (Ext.refl _) rfl rfl rfl
        -- 4: Op.move t1
        apply Stage.step (Is _) [] (Is.keeps _) (by kernel_rfl)
        · intro w1 h1
          simp only [Given]
          go_wp2_with fail
          exact Post.isv (Ext.refl _) rfl rfl rfl
        -- 5: Op.move t5
        apply Stage.step (Is _) [] (Is.keeps _) (by kernel_rfl)
        · intro w1 h1
          simp only [Given]
          go_wp2_with fail
          exact Post.isv (Ext.refl _) rfl rfl rfl
        -- 6: Op.indexAddr 25 t21 t22
        apply Stage.step (Is _) [false, false, false, false, true, true] (Is.keeps _) (by kernel_rfl)
        · intro w1 h1
          simp only [List.nil_append, List.cons_append, Given]
          rintro _ rfl
          rintro _ rfl
          go_wp2_with fail
          exact Post.isv (Ext.refl _) rfl rfl rfl
        -- 7: Op.load 104 t23
        apply Stage.step (Is _) [false, false, false, false, false, false, true] (Is.keeps _) (by kernel_rfl)
        · intro w1 h1
          simp only [List.nil_append, List.cons_append, Given]
          rintro _ rfl
          have q0 := h1.cell b0
          have q1 := h1.cell b1
          have q2 := h1.cell b2
          have q3 := h1.cell b3
          go_wp2_with fail
          exact Post.isv (Ext.refl _) rfl rfl rfl
        -- 8: Op.binOp BinOp.neq 104 t20 t24 104
        apply Stage.step (Is (.bool true)) [false, false, false, true, false, false, false, true] (Is.keeps _) (by kernel_rfl)
        · intro w1 h1
          simp only [List.nil_append, List.cons_append, Given]
          rintro _ rfl
          rintro _ rfl
          go_wp2_with fail
          all_goals first | exact Post.isv (Ext.refl _) rfl rfl rfl | (exfalso; apply e; simp_all)
        apply Stage.nil
        intro w1 h1
        simp only [List.nil_append, List.cons_append]
        refine Fin.is_ ?_
        refine Fin.is_ ?_
        refine Fin.is_ ?_
        refine Fin.is_ ?_
        refine Fin.is_ ?_
        refine Fin.is_ ?_
        refine Fin.is_ ?_
        refine Fin.is_ ?_
        refine Fin.is_ ?_
        refine Fin.nil_ ?_
        go_simp
        go_wp2_with fail
        go_ret
        exact ⟨rfl, hxr.trans h1⟩
    · have hn : b = true := by
        rw [← hb.out]
        unfold sameT
        rw [decide_eq_true_eq]
        have := hrk.out
        rwa [List.take_of_length_le (by rw [l1.len]; omega), List.take_of_length_le (by rw [l2.len]; omega)] at this
      subst hn
      clear hrk hb
      go_wp2_with fail
      go_ret
      exact ⟨rfl, hxr⟩
end Go.Proofs.Ytoeknbogaclfdaa
