/-
  Images with snapshots: contracts of the comparisons of both texts.
-/
import Derived.Test.YtcklkjklepmabaaZSt
namespace Go.Proofs.Ytcklkjklepmabaa
open Go.RowKit
set_option linter.unusedVariables false
set_option linter.unusedSimpArgs false
set_option linter.unnecessarySimpa false
set_option maxRecDepth 100000

theorem take_nextO {xs ys : List Ol} {k : Nat} {x y : Ol} (h : xs.take k = ys.take k) (hx : xs[k]? = some x) (hy : ys[k]? = some y) (e : x = y) : xs.take (k + 1) = ys.take (k + 1) := by
  rw [List.take_add_one, List.take_add_one, h, hx, hy, e]
theorem same_no {xs ys : List Ol} {k : Nat} {x y : Ol} (hx : xs[k]? = some x) (hy : ys[k]? = some y) (e : x ≠ y) : xs ≠ ys := by
  rintro rfl
  rw [hx] at hy
  injection hy with hy
  exact e hy
theorem st_eq {s t : St} : s = t ↔ s.d = t.d ∧ s.sn = t.sn := by
  cases s; cases t; simp
set_option maxHeartbeats 4000000 in
theorem ref_SameSt {A : Option Addr} {n c : Nat} {A2 : Option Addr} {n2 c2 : Nat} {s : St} {B : Option Addr} {m d : Nat} {B2 : Option Addr} {m2 d2 : Nat} {t : St} {w : World} (h1 : StR w A n c A2 n2 c2 s) (h2 : StR w B m d B2 m2 d2 t) {r : Bool} (hr : Hid (decide (s = t) = r)) :
    Calls Try.prog 56 #[stV A n c A2 n2 c2, stV B m d B2 m2 d2] w fun e w' => e = .returned (.bool r) ∧ Ext w w' := by
  obtain ⟨h1, l1⟩ := h1
  obtain ⟨h2, l2⟩ := h2
  have h63 := l1.n63
  have h632 := l2.n63
  obtain ⟨W, hW⟩ : ∃ W, (w.alloc (.cells #[.slice A n c, .slice A2 n2 c2] 35)).alloc (.cells #[.slice B m d, .slice B2 m2 d2] 35) = W := ⟨_, rfl⟩
  have g0 : Ext w W := by rw [← hW]; exact (Ext.alloc _ _).trans (Ext.alloc _ _)
  have c0 : W.cell? ⟨w.heap.size, 0, none⟩ = some (.slice A n c) := by rw [← hW]; exact (Ext.alloc _ _).cell (cell_new w _ _ 0)
  have c1 : W.cell? ⟨w.heap.size, 1, none⟩ = some (.slice A2 n2 c2) := by rw [← hW]; exact (Ext.alloc _ _).cell (cell_new w _ _ 1)
  have d0 : W.cell? ⟨w.heap.size + 1, 0, none⟩ = some (.slice B m d) := by rw [← hW]; have := cell_new (w.alloc (.cells #[.slice A n c, .slice A2 n2 c2] 35)) #[.slice B m d, .slice B2 m2 d2] 35 0; simpa using this
  have d1 : W.cell? ⟨w.heap.size + 1, 1, none⟩ = some (.slice B2 m2 d2) := by rw [← hW]; have := cell_new (w.alloc (.cells #[.slice A n c, .slice A2 n2 c2] 35)) #[.slice B m d, .slice B2 m2 d2] 35 1; simpa using this
  have t1 := run_text_u8 (h1.ext g0)
  have t2 := run_text_u8 (h2.ext g0)
  by_cases e1 : s.d = t.d
  case neg =>
    obtain rfl : r = false := by rw [← hr.out, decide_eq_false_iff_not, st_eq]; exact fun h => e1 h.1
    have q1 : (s.d == t.d) = false := by simpa using e1
    clear hr e1
    go_enter Try.func56, Try.ntmps56
    go_wp2_with fail
    go_ret
    exact ⟨rfl, g0⟩
  have q1 : (s.d == t.d) = true := by simpa using e1
  by_cases e2 : n2 = m2
  case neg =>
    obtain rfl : r = false := by rw [← hr.out, decide_eq_false_iff_not, st_eq]; exact fun h => e2 (by rw [← l1.len, ← l2.len, h.2])
    have q2 : ((n2 : Int) != (m2 : Int)) = true := by simp; omega
    clear hr e1 e2
    go_enter Try.func56, Try.ntmps56
    go_wp2_with fail
    go_ret
    exact ⟨rfl, g0⟩
  subst e2
  have hrr : r = decide (s.sn = t.sn) := by rw [← hr.out, decide_eq_decide, st_eq]; exact ⟨fun h => h.2, fun h => ⟨e1, h⟩⟩
  have HRR := Lib.hid hrr
  clear hr e1 hrr
  go_enter Try.func56, Try.ntmps56
  go_wp2_with fail
  clear hW t1 t2 q1
  go_loopw [5] (fun i wr => ∃ k : Nat, k ≤ n2 ∧ i = .int .i64 k ∧ Hid (s.sn.take k = t.sn.take k) ∧ Ext W wr) (fun i _ => n2 - (intOf i).toNat)
  case atStart => exact ⟨0, by omega, rfl, rfl, Ext.refl _⟩
  case round =>
    obtain ⟨k, hk, rfl, ht, hxr⟩ := hrel
    replace c1 := hxr.cell c1
    replace d1 := hxr.cell d1
    by_cases hlt : k < n2
    · obtain ⟨ga, oa, x, cs, rfl, hx, ⟨Aa, na, ca, rfl, sa0, hs1⟩, ha⟩ := l1.at2 ol_rep (by omega) hlt
      obtain ⟨gb, ob, y, ds, rfl, hy, ⟨Ab, nb, cb, rfl, sb0, hs2⟩, hb⟩ := l2.at2 ol_rep (by omega) hlt
      have g1 := g0.trans hxr
      have a0 : wr.cell? ⟨ga, oa + k * 2, none⟩ = _ := g1.cell (ha 0 _ rfl)
      have a1 := g1.cell (ha 1 _ rfl)
      have b0 : wr.cell? ⟨gb, ob + k * 2, none⟩ = _ := g1.cell (hb 0 _ rfl)
      have b1 := g1.cell (hb 1 _ rfl)
      have sa := sa0.ext g1
      have sb := sb0.ext g1
      have hno : x ≠ y → r = false := fun e => by rw [HRR.out, decide_eq_false_iff_not]; exact same_no hx hy e
      have hye : x = y → Hid (s.sn.take (k + 1) = t.sn.take (k + 1)) := fun e => take_nextO ht.out hx hy e
      obtain ⟨xn, xd⟩ := x
      obtain ⟨yn, yd⟩ := y
      simp only at a0 a1 b0 b1 sa sb
      clear hx hy ha hb sa0 sb0
      by_cases e1 : xn = yn
      case neg =>
        obtain rfl := hno (fun e => e1 (by injection e))
        have q1 : (xn.toList == yn.toList) = false := bs_ne e1
        clear hno hye e1
        go_wp2_with fail
        refine wp_region_typed Ext.steady rfl 59 rfl (by kernel_rfl) ?_
        -- 0: Op.fieldAddr 35 t2 1
        apply Stage.step (Is _) [] (Is.keeps _) (by kernel_rfl)
        · intro w1 h1
          simp only [Given]
          go_wp2_with fail
          exact Post.isv (Ext.refl _) rfl rfl rfl
        -- 1: Op.load 33 t29
        apply Stage.step (Is _) [true] (Is.keeps _) (by kernel_rfl)
        · intro w1 h1
          simp only [List.nil_append, Given]
          rintro _ rfl
          have hq := h1.cell c1
          go_wp2_with fail
          exact Post.isv (Ext.refl _) rfl rfl rfl
        -- 2: Op.move t5
        apply Stage.step (Is _) [] (Is.keeps _) (by kernel_rfl)
        · intro w1 h1
          simp only [Given]
          go_wp2_with fail
          exact Post.isv (Ext.refl _) rfl rfl rfl
        -- 3: Op.indexAddr 33 t30 t31
        apply Stage.step (Is _) [false, true, true] (Is.keeps _) (by kernel_rfl)
        · intro w1 h1
          simp only [List.nil_append, List.cons_append, Given]
          rintro _ rfl
          rintro _ rfl
          go_wp2_with fail
          exact Post.isv (Ext.refl _) rfl rfl rfl
        -- 4: Op.fieldAddr 42 t32 0
        apply Stage.step (Is _) [false, false, false, true] (Is.keeps _) (by kernel_rfl)
        · intro w1 h1
          simp only [List.nil_append, List.cons_append, Given]
          rintro _ rfl
          go_wp2_with fail
          exact Post.isv (Ext.refl _) rfl rfl rfl
        -- 5: Op.load 9 t33
        apply Stage.step (Is _) [false, false, false, false, true] (Is.keeps _) (by kernel_rfl)
        · intro w1 h1
          simp only [List.nil_append, List.cons_append, Given]
          rintro _ rfl
          have hq := h1.cell a0
          go_wp2_with fail
          exact Post.isv (Ext.refl _) rfl rfl rfl
        -- 6: Op.fieldAddr 35 t3 1
        apply Stage.step (Is _) [] (Is.keeps _) (by kernel_rfl)
        · intro w1 h1
          simp only [Given]
          go_wp2_with fail
          exact Post.isv (Ext.refl _) rfl rfl rfl
        -- 7: Op.load 33 t35
        apply Stage.step (Is _) [false, false, false, false, false, false, true] (Is.keeps _) (by kernel_rfl)
        · intro w1 h1
          simp only [List.nil_append, List.cons_append, Given]
          rintro _ rfl
          have hq := h1.cell d1
          go_wp2_with fail
          exact Post.isv (Ext.refl _) rfl rfl rfl
        -- 8: Op.move t5
        apply Stage.step (Is _) [] (Is.keeps _) (by kernel_rfl)
        · intro w1 h1
          simp only [Given]
          go_wp2_with fail
          exact Post.isv (Ext.refl _) rfl rfl rfl
        -- 9: Op.indexAddr 33 t36 t37
        apply Stage.step (Is _) [false, false, false, false, false, false, false, true, true] (Is.keeps _) (by kernel_rfl)
        · intro w1 h1
          simp only [List.nil_append, List.cons_append, Given]
          rintro _ rfl
          rintro _ rfl
          go_wp2_with fail
          exact Post.isv (Ext.refl _) rfl rfl rfl
        -- 10: Op.fieldAddr 42 t38 0
        apply Stage.step (Is _) [false, false, false, false, false, false, false, false, false, true] (Is.keeps _) (by kernel_rfl)
        · intro w1 h1
          simp only [List.nil_append, List.cons_append, Given]
          rintro _ rfl
          go_wp2_with fail
          exact Post.isv (Ext.refl _) rfl rfl rfl
        -- 11: Op.load 9 t39
        apply Stage.step (Is _) [false, false, false, false, false, false, false, false, false, false, true] (Is.keeps _) (by kernel_rfl)
        · intro w1 h1
          simp only [List.nil_append, List.cons_append, Given]
          rintro _ rfl
          have hq := h1.cell b0
          go_wp2_with fail
          exact Post.isv (Ext.refl _) rfl rfl rfl
        -- 12: Op.binOp BinOp.neq 9 t34 t40 9
        apply Stage.step (Is _) [false, false, false, false, false, true, false, false, false, false, false, true] (Is.keeps _) (by kernel_rfl)
        · intro w1 h1
          simp only [List.nil_append, List.cons_append, Given]
          rintro _ rfl
          rintro _ rfl
          go_wp2_with fail
          exact Post.isv (Ext.refl _) rfl rfl rfl
        -- 13: Op.move t41
        apply Stage.step (Is _) [false, false, false, false, false, false, false, false, false, false, false, false, true] (Is.keeps _) (by kernel_rfl)
        · intro w1 h1
          simp only [List.nil_append, List.cons_append, Given]
          rintro _ rfl
          go_wp2_with fail
          exact Post.isv (Ext.refl _) rfl rfl rfl
        -- 14: Op.fieldAddr 35 t2 1   [guarded: some (13, false)]
        apply Stage.step (Is _) [false, false, false, false, false, false, false, false, false, false, false, false, false, true] (Is.keeps _) (by kernel_rfl)
        · intro w1 h1
          simp only [List.nil_append, List.cons_append, Given]
          rintro _ rfl
          go_wp2_with fail
          exact Post.isv (Ext.refl _) rfl rfl rfl
        -- 15: Op.load 33 t43   [guarded: some (13, false)]
        apply Stage.step (Is _) [false, false, false, false, false, false, false, false, false, false, false, false, false, true, true] (Is.keeps _) (by kernel_rfl)
        · intro w1 h1
          simp only [List.nil_append, List.cons_append, Given]
          rintro _ rfl
          rintro _ rfl
          have hq := h1.cell c1
          go_wp2_with fail
          exact Post.isv (Ext.refl _) rfl rfl rfl
        -- 16: Op.move t5   [guarded: some (13, false)]
        apply Stage.step (Is _) [false, false, false, false, false, false, false, false, false, false, false, false, false, true] (Is.keeps _) (by kernel_rfl)
        · intro w1 h1
          simp only [List.nil_append, List.cons_append, Given]
          rintro _ rfl
          go_wp2_with fail
          exact Post.isv (Ext.refl _) rfl rfl rfl
        -- 17: Op.indexAddr 33 t44 t45   [guarded: some (13, false)]
        apply Stage.step (Is _) [false, false, false, false, false, false, false, false, false, false, false, false, false, true, false, true, true] (Is.keeps _) (by kernel_rfl)
        · intro w1 h1
          simp only [List.nil_append, List.cons_append, Given]
          rintro _ rfl
          rintro _ rfl
          rintro _ rfl
          go_wp2_with fail
          exact Post.isv (Ext.refl _) rfl rfl rfl
        -- 18: Op.fieldAddr 42 t46 1   [guarded: some (13, false)]
        apply Stage.step (Is _) [false, false, false, false, false, false, false, false, false, false, false, false, false, true, false, false, false, true] (Is.keeps _) (by kernel_rfl)
        · intro w1 h1
          simp only [List.nil_append, List.cons_append, Given]
          rintro _ rfl
          rintro _ rfl
          go_wp2_with fail
          exact Post.isv (Ext.refl _) rfl rfl rfl
        -- 19: Op.load 22 t47   [guarded: some (13, false)]
        apply Stage.step (Is _) [false, false, false, false, false, false, false, false, false, false, false, false, false, true, false, false, false, false, true] (Is.keeps _) (by kernel_rfl)
        · intro w1 h1
          simp only [List.nil_append, List.cons_append, Given]
          rintro _ rfl
          rintro _ rfl
          have hq := h1.cell a1
          go_wp2_with fail
          exact Post.isv (Ext.refl _) rfl rfl rfl
        -- 20: Op.convert 22 9 t48   [guarded: some (13, false)]
        apply Stage.step (Is _) [false, false, false, false, false, false, false, false, false, false, false, false, false, true, false, false, false, false, false, true] (Is.keeps _) (by kernel_rfl)
        · intro w1 h1
          simp only [List.nil_append, List.cons_append, Given]
          rintro _ rfl
          rintro _ rfl
          have ht := run_text_u8 (sa.ext h1)
          go_wp2_with fail
          exact Post.isv (Ext.refl _) rfl rfl rfl
        -- 21: Op.fieldAddr 35 t3 1   [guarded: some (13, false)]
        apply Stage.step (Is _) [false, false, false, false, false, false, false, false, false, false, false, false, false, true] (Is.keeps _) (by kernel_rfl)
        · intro w1 h1
          simp only [List.nil_append, List.cons_append, Given]
          rintro _ rfl
          go_wp2_with fail
          exact Post.isv (Ext.refl _) rfl rfl rfl
        -- 22: Op.load 33 t50   [guarded: some (13, false)]
        apply Stage.step (Is _) [false, false, false, false, false, false, false, false, false, false, false, false, false, true, false, false, false, false, false, false, false, true] (Is.keeps _) (by kernel_rfl)
        · intro w1 h1
          simp only [List.nil_append, List.cons_append, Given]
          rintro _ rfl
          rintro _ rfl
          have hq := h1.cell d1
          go_wp2_with fail
          exact Post.isv (Ext.refl _) rfl rfl rfl
        -- 23: Op.move t5   [guarded: some (13, false)]
        apply Stage.step (Is _) [false, false, false, false, false, false, false, false, false, false, false, false, false, true] (Is.keeps _) (by kernel_rfl)
        · intro w1 h1
          simp only [List.nil_append, List.cons_append, Given]
          rintro _ rfl
          go_wp2_with fail
          exact Post.isv (Ext.refl _) rfl rfl rfl
        -- 24: Op.indexAddr 33 t51 t52   [guarded: some (13, false)]
        apply Stage.step (Is _) [false, false, false, false, false, false, false, false, false, false, false, false, false, true, false, false, false, false, false, false, false, false, true, true] (Is.keeps _) (by kernel_rfl)
        · intro w1 h1
          simp only [List.nil_append, List.cons_append, Given]
          rintro _ rfl
          rintro _ rfl
          rintro _ rfl
          go_wp2_with fail
          exact Post.isv (Ext.refl _) rfl rfl rfl
        -- 25: Op.fieldAddr 42 t53 1   [guarded: some (13, false)]
        apply Stage.step (Is _) [false, false, false, false, false, false, false, false, false, false, false, false, false, true, false, false, false, false, false, false, false, false, false, false, true] (Is.keeps _) (by kernel_rfl)
        · intro w1 h1
          simp only [List.nil_append, List.cons_append, Given]
          rintro _ rfl
          rintro _ rfl
          go_wp2_with fail
          exact Post.isv (Ext.refl _) rfl rfl rfl
        -- 26: Op.load 22 t54   [guarded: some (13, false)]
        apply Stage.step (Is _) [false, false, false, false, false, false, false, false, false, false, false, false, false, true, false, false, false, false, false, false, false, false, false, false, false, true] (Is.keeps _) (by kernel_rfl)
        · intro w1 h1
          simp only [List.nil_append, List.cons_append, Given]
          rintro _ rfl
          rintro _ rfl
          have hq := h1.cell b1
          go_wp2_with fail
          exact Post.isv (Ext.refl _) rfl rfl rfl
        -- 27: Op.convert 22 9 t55   [guarded: some (13, false)]
        apply Stage.step (Is _) [false, false, false, false, false, false, false, false, false, false, false, false, false, true, false, false, false, false, false, false, false, false, false, false, false, false, true] (Is.keeps _) (by kernel_rfl)
        · intro w1 h1
          simp only [List.nil_append, List.cons_append, Given]
          rintro _ rfl
          rintro _ rfl
          have ht := run_text_u8 (sb.ext h1)
          go_wp2_with fail
          exact Post.isv (Ext.refl _) rfl rfl rfl
        -- 28: Op.binOp BinOp.neq 9 t49 t56 9   [guarded: some (13, false)]
        apply Stage.step (Is _) [false, false, false, false, false, false, false, false, false, false, false, false, false, true, false, false, false, false, false, false, true, false, false, false, false, false, false, true] (Is.keeps _) (by kernel_rfl)
        · intro w1 h1
          simp only [List.nil_append, List.cons_append, Given]
          rintro _ rfl
          rintro _ rfl
          rintro _ rfl
          go_wp2_with fail
          exact Post.isv (Ext.refl _) rfl rfl rfl
        -- 29: Op.pick t42 (const (Value.bool true)) t57
        apply Stage.step (Is _) [false, false, false, false, false, false, false, false, false, false, false, false, false, true, false, false, false, false, false, false, false, false, false, false, false, false, false, false, true] (Is.keeps _) (by kernel_rfl)
        · intro w1 h1
          simp only [List.nil_append, List.cons_append, Given]
          rintro _ rfl
          rintro _ rfl
          go_wp2_with fail
          exact Post.isv (Ext.refl _) rfl rfl rfl
        apply Stage.nil
        intro w1 h1
        simp only [List.nil_append, List.cons_append]
        refine Fin.is_ ?_
        refine Fin.is_ ?_
        refine Fin.is_ ?_
        refine Fin.is_ ?_
        refine Fin.is_ ?_
        refine Fin.is_ ?_
        refine Fin.is_ ?_
        refine Fin.is_ ?_
        refine Fin.is_ ?_
        refine Fin.is_ ?_
        refine Fin.is_ ?_
        refine Fin.is_ ?_
        refine Fin.is_ ?_
        refine Fin.is_ ?_
        refine Fin.is_ ?_
        refine Fin.is_ ?_
        refine Fin.is_ ?_
        refine Fin.is_ ?_
        refine Fin.is_ ?_
        refine Fin.is_ ?_
        refine Fin.is_ ?_
        refine Fin.is_ ?_
        refine Fin.is_ ?_
        refine Fin.is_ ?_
        refine Fin.is_ ?_
        refine Fin.is_ ?_
        refine Fin.is_ ?_
        refine Fin.is_ ?_
        refine Fin.is_ ?_
        refine Fin.is_ ?_
        refine Fin.nil_ ?_
        go_simp
        go_wp2_with fail
        go_ret
        exact ⟨rfl, g1.trans h1⟩
      have q1 : (xn.toList == yn.toList) = true := by rw [e1]; simp
      by_cases e2 : xd = yd
      case neg =>
        obtain rfl := hno (fun e => e2 (by injection e))
        have q2 : (xd == yd) = false := by simpa using e2
        clear hno hye e1 e2
        go_wp2_with fail
        refine wp_region_typed Ext.steady rfl 59 rfl (by kernel_rfl) ?_
        -- 0: Op.fieldAddr 35 t2 1
        apply Stage.step (Is _) [] (Is.keeps _) (by kernel_rfl)
        · intro w1 h1
          simp only [Given]
          go_wp2_with fail
          exact Post.isv (Ext.refl _) rfl rfl rfl
        -- 1: Op.load 33 t29
        apply Stage.step (Is _) [true] (Is.keeps _) (by kernel_rfl)
        · intro w1 h1
          simp only [List.nil_append, Given]
          rintro _ rfl
          have hq := h1.cell c1
          go_wp2_with fail
          exact Post.isv (Ext.refl _) rfl rfl rfl
        -- 2: Op.move t5
        apply Stage.step (Is _) [] (Is.keeps _) (by kernel_rfl)
        · intro w1 h1
          simp only [Given]
          go_wp2_with fail
          exact Post.isv (Ext.refl _) rfl rfl rfl
        -- 3: Op.indexAddr 33 t30 t31
        apply Stage.step (Is _) [false, true, true] (Is.keeps _) (by kernel_rfl)
        · intro w1 h1
          simp only [List.nil_append, List.cons_append, Given]
          rintro _ rfl
          rintro _ rfl
          go_wp2_with fail
          exact Post.isv (Ext.refl _) rfl rfl rfl
        -- 4: Op.fieldAddr 42 t32 0
        apply Stage.step (Is _) [false, false, false, true] (Is.keeps _) (by kernel_rfl)
        · intro w1 h1
          simp only [List.nil_append, List.cons_append, Given]
          rintro _ rfl
          go_wp2_with fail
          exact Post.isv (Ext.refl _) rfl rfl rfl
        -- 5: Op.load 9 t33
        apply Stage.step (Is _) [false, false, false, false, true] (Is.keeps _) (by kernel_rfl)
        · intro w1 h1
          simp only [List.nil_append, List.cons_append, Given]
          rintro _ rfl
          have hq := h1.cell a0
          go_wp2_with fail
          exact Post.isv (Ext.refl _) rfl rfl rfl
        -- 6: Op.fieldAddr 35 t3 1
        apply Stage.step (Is _) [] (Is.keeps _) (by kernel_rfl)
        · intro w1 h1
          simp only [Given]
          go_wp2_with fail
          exact Post.isv (Ext.refl _) rfl rfl rfl
        -- 7: Op.load 33 t35
        apply Stage.step (Is _) [false, false, false, false, false, false, true] (Is.keeps _) (by kernel_rfl)
        · intro w1 h1
          simp only [List.nil_append, List.cons_append, Given]
          rintro _ rfl
          have hq := h1.cell d1
          go_wp2_with fail
          exact Post.isv (Ext.refl _) rfl rfl rfl
        -- 8: Op.move t5
        apply Stage.step (Is _) [] (Is.keeps _) (by kernel_rfl)
        · intro w1 h1
          simp only [Given]
          go_wp2_with fail
          exact Post.isv (Ext.refl _) rfl rfl rfl
        -- 9: Op.indexAddr 33 t36 t37
        apply Stage.step (Is _) [false, false, false, false, false, false, false, true, true] (Is.keeps _) (by kernel_rfl)
        · intro w1 h1
          simp only [List.nil_append, List.cons_append, Given]
          rintro _ rfl
          rintro _ rfl
          go_wp2_with fail
          exact Post.isv (Ext.refl _) rfl rfl rfl
        -- 10: Op.fieldAddr 42 t38 0
        apply Stage.step (Is _) [false, false, false, false, false, false, false, false, false, true] (Is.keeps _) (by kernel_rfl)
        · intro w1 h1
          simp only [List.nil_append, List.cons_append, Given]
          rintro _ rfl
          go_wp2_with fail
          exact Post.isv (Ext.refl _) rfl rfl rfl
        -- 11: Op.load 9 t39
        apply Stage.step (Is _) [false, false, false, false, false, false, false, false, false, false, true] (Is.keeps _) (by kernel_rfl)
        · intro w1 h1
          simp only [List.nil_append, List.cons_append, Given]
          rintro _ rfl
          have hq := h1.cell b0
          go_wp2_with fail
          exact Post.isv (Ext.refl _) rfl rfl rfl
        -- 12: Op.binOp BinOp.neq 9 t34 t40 9
        apply Stage.step (Is _) [false, false, false, false, false, true, false, false, false, false, false, true] (Is.keeps _) (by kernel_rfl)
        · intro w1 h1
          simp only [List.nil_append, List.cons_append, Given]
          rintro _ rfl
          rintro _ rfl
          go_wp2_with fail
          exact Post.isv (Ext.refl _) rfl rfl rfl
        -- 13: Op.move t41
        apply Stage.step (Is _) [false, false, false, false, false, false, false, false, false, false, false, false, true] (Is.keeps _) (by kernel_rfl)
        · intro w1 h1
          simp only [List.nil_append, List.cons_append, Given]
          rintro _ rfl
          go_wp2_with fail
          exact Post.isv (Ext.refl _) rfl rfl rfl
        -- 14: Op.fieldAddr 35 t2 1   [guarded: some (13, false)]
        apply Stage.step (Is _) [false, false, false, false, false, false, false, false, false, false, false, false, false, true] (Is.keeps _) (by kernel_rfl)
        · intro w1 h1
          simp only [List.nil_append, List.cons_append, Given]
          rintro _ rfl
          go_wp2_with fail
          exact Post.isv (Ext.refl _) rfl rfl rfl
        -- 15: Op.load 33 t43   [guarded: some (13, false)]
        apply Stage.step (Is _) [false, false, false, false, false, false, false, false, false, false, false, false, false, true, true] (Is.keeps _) (by kernel_rfl)
        · intro w1 h1
          simp only [List.nil_append, List.cons_append, Given]
          rintro _ rfl
          rintro _ rfl
          have hq := h1.cell c1
          go_wp2_with fail
          exact Post.isv (Ext.refl _) rfl rfl rfl
        -- 16: Op.move t5   [guarded: some (13, false)]
        apply Stage.step (Is _) [false, false, false, false, false, false, false, false, false, false, false, false, false, true] (Is.keeps _) (by kernel_rfl)
        · intro w1 h1
          simp only [List.nil_append, List.cons_append, Given]
          rintro _ rfl
          go_wp2_with fail
          exact Post.isv (Ext.refl _) rfl rfl rfl
        -- 17: Op.indexAddr 33 t44 t45   [guarded: some (13, false)]
        apply Stage.step (Is _) [false, false, false, false, false, false, false, false, false, false, false, false, false, true, false, true, true] (Is.keeps _) (by kernel_rfl)
        · intro w1 h1
          simp only [List.nil_append, List.cons_append, Given]
          rintro _ rfl
          rintro _ rfl
          rintro _ rfl
          go_wp2_with fail
          exact Post.isv (Ext.refl _) rfl rfl rfl
        -- 18: Op.fieldAddr 42 t46 1   [guarded: some (13, false)]
        apply Stage.step (Is _) [false, false, false, false, false, false, false, false, false, false, false, false, false, true, false, false, false, true] (Is.keeps _) (by kernel_rfl)
        · intro w1 h1
          simp only [List.nil_append, List.cons_append, Given]
          rintro _ rfl
          rintro _ rfl
          go_wp2_with fail
          exact Post.isv (Ext.refl _) rfl rfl rfl
        -- 19: Op.load 22 t47   [guarded: some (13, false)]
        apply Stage.step (Is _) [false, false, false, false, false, false, false, false, false, false, false, false, false, true, false, false, false, false, true] (Is.keeps _) (by kernel_rfl)
        · intro w1 h1
          simp only [List.nil_append, List.cons_append, Given]
          rintro _ rfl
          rintro _ rfl
          have hq := h1.cell a1
          go_wp2_with fail
          exact Post.isv (Ext.refl _) rfl rfl rfl
        -- 20: Op.convert 22 9 t48   [guarded: some (13, false)]
        apply Stage.step (Is _) [false, false, false, false, false, false, false, false, false, false, false, false, false, true, false, false, false, false, false, true] (Is.keeps _) (by kernel_rfl)
        · intro w1 h1
          simp only [List.nil_append, List.cons_append, Given]
          rintro _ rfl
          rintro _ rfl
          have ht := run_text_u8 (sa.ext h1)
          go_wp2_with fail
          exact Post.isv (Ext.refl _) rfl rfl rfl
        -- 21: Op.fieldAddr 35 t3 1   [guarded: some (13, false)]
        apply Stage.step (Is _) [false, false, false, false, false, false, false, false, false, false, false, false, false, true] (Is.keeps _) (by kernel_rfl)
        · intro w1 h1
          simp only [List.nil_append, List.cons_append, Given]
          rintro _ rfl
          go_wp2_with fail
          exact Post.isv (Ext.refl _) rfl rfl rfl
        -- 22: Op.load 33 t50   [guarded: some (13, false)]
        apply Stage.step (Is _) [false, false, false, false, false, false, false, false, false, false, false, false, false, true, false, false, false, false, false, false, false, true] (Is.keeps _) (by kernel_rfl)
        · intro w1 h1
          simp only [List.nil_append, List.cons_append, Given]
          rintro _ rfl
          rintro _ rfl
          have hq := h1.cell d1
          go_wp2_with fail
          exact Post.isv (Ext.refl _) rfl rfl rfl
        -- 23: Op.move t5   [guarded: some (13, false)]
        apply Stage.step (Is _) [false, false, false, false, false, false, false, false, false, false, false, false, false, true] (Is.keeps _) (by kernel_rfl)
        · intro w1 h1
          simp only [List.nil_append, List.cons_append, Given]
          rintro _ rfl
          go_wp2_with fail
          exact Post.isv (Ext.refl _) rfl rfl rfl
        -- 24: Op.indexAddr 33 t51 t52   [guarded: some (13, false)]
        apply Stage.step (Is _) [false, false, false, false, false, false, false, false, false, false, false, false, false, true, false, false, false, false, false, false, false, false, true, true] (Is.keeps _) (by kernel_rfl)
        · intro w1 h1
          simp only [List.nil_append, List.cons_append, Given]
          rintro _ rfl
          rintro _ rfl
          rintro _ rfl
          go_wp2_with fail
          exact Post.isv (Ext.refl _) rfl rfl rfl
        -- 25: Op.fieldAddr 42 t53 1   [guarded: some (13, false)]
        apply Stage.step (Is _) [false, false, false, false, false, false, false, false, false, false, false, false, false, true, false, false, false, false, false, false, false, false, false, false, true] (Is.keeps _) (by kernel_rfl)
        · intro w1 h1
          simp only [List.nil_append, List.cons_append, Given]
          rintro _ rfl
          rintro _ rfl
          go_wp2_with fail
          exact Post.isv (Ext.refl _) rfl rfl rfl
        -- 26: Op.load 22 t54   [guarded: some (13, false)]
        apply Stage.step (Is _) [false, false, false, false, false, false, false, false, false, false, false, false, false, true, false, false, false, false, false, false, false, false, false, false, false, true] (Is.keeps _) (by kernel_rfl)
        · intro w1 h1
          simp only [List.nil_append, List.cons_append, Given]
          rintro _ rfl
          rintro _ rfl
          have hq := h1.cell b1
          go_wp2_with fail
          exact Post.isv (Ext.refl _) rfl rfl rfl
        -- 27: Op.convert 22 9 t55   [guarded: some (13, false)]
        apply Stage.step (Is _) [false, false, false, false, false, false, false, false, false, false, false, false, false, true, false, false, false, false, false, false, false, false, false, false, false, false, true] (Is.keeps _) (by kernel_rfl)
        · intro w1 h1
          simp only [List.nil_append, List.cons_append, Given]
          rintro _ rfl
          rintro _ rfl
          have ht := run_text_u8 (sb.ext h1)
          go_wp2_with fail
          exact Post.isv (Ext.refl _) rfl rfl rfl
        -- 28: Op.binOp BinOp.neq 9 t49 t56 9   [guarded: some (13, false)]
        apply Stage.step (Is _) [false, false, false, false, false, false, false, false, false, false, false, false, false, true, false, false, false, false, false, false, true, false, false, false, false, false, false, true] (Is.keeps _) (by kernel_rfl)
        · intro w1 h1
          simp only [List.nil_append, List.cons_append, Given]
          rintro _ rfl
          rintro _ rfl
          rintro _ rfl
          go_wp2_with fail
          exact Post.isv (Ext.refl _) rfl rfl rfl
        -- 29: Op.pick t42 (const (Value.bool true)) t57
        apply Stage.step (Is _) [false, false, false, false, false, false, false, false, false, false, false, false, false, true, false, false, false, false, false, false, false, false, false, false, false, false, false, false, true] (Is.keeps _) (by kernel_rfl)
        · intro w1 h1
          simp only [List.nil_append, List.cons_append, Given]
          rintro _ rfl
          rintro _ rfl
          go_wp2_with fail
          exact Post.isv (Ext.refl _) rfl rfl rfl
        apply Stage.nil
        intro w1 h1
        simp only [List.nil_append, List.cons_append]
        refine Fin.is_ ?_
        refine Fin.is_ ?_
        refine Fin.is_ ?_
        refine Fin.is_ ?_
        refine Fin.is_ ?_
        refine Fin.is_ ?_
        refine Fin.is_ ?_
        refine Fin.is_ ?_
        refine Fin.is_ ?_
        refine Fin.is_ ?_
        refine Fin.is_ ?_
        refine Fin.is_ ?_
        refine Fin.is_ ?_
        refine Fin.is_ ?_
        refine Fin.is_ ?_
        refine Fin.is_ ?_
        refine Fin.is_ ?_
        refine Fin.is_ ?_
        refine Fin.is_ ?_
        refine Fin.is_ ?_
        refine Fin.is_ ?_
        refine Fin.is_ ?_
        refine Fin.is_ ?_
        refine Fin.is_ ?_
        refine Fin.is_ ?_
        refine Fin.is_ ?_
        refine Fin.is_ ?_
        refine Fin.is_ ?_
        refine Fin.is_ ?_
        refine Fin.is_ ?_
        refine Fin.nil_ ?_
        go_simp
        go_wp2_with fail
        go_ret
        exact ⟨rfl, g1.trans h1⟩
      have q2 : (xd == yd) = true := by simpa using e2
      replace hye := hye (by rw [e1, e2])
      clear hno e1 e2
      go_wp2_with fail
      refine wp_region_typed Ext.steady rfl 59 rfl (by kernel_rfl) ?_
      -- 0: Op.fieldAddr 35 t2 1
      apply Stage.step (Is _) [] (Is.keeps _) (by kernel_rfl)
      · intro w1 h1
        simp only [Given]
        go_wp2_with fail
        exact Post.isv (Ext.refl _) rfl rfl rfl
      -- 1: Op.load 33 t29
      apply Stage.step (Is _) [true] (Is.keeps _) (by kernel_rfl)
      · intro w1 h1
        simp only [List.nil_append, Given]
        rintro _ rfl
        have hq := h1.cell c1
        go_wp2_with fail
        exact Post.isv (Ext.refl _) rfl rfl rfl
      -- 2: Op.move t5
      apply Stage.step (Is _) [] (Is.keeps _) (by kernel_rfl)
      · intro w1 h1
        simp only [Given]
        go_wp2_with fail
        exact Post.isv (Ext.refl _) rfl rfl rfl
      -- 3: Op.indexAddr 33 t30 t31
      apply Stage.step (Is _) [false, true, true] (Is.keeps _) (by kernel_rfl)
      · intro w1 h1
        simp only [List.nil_append, List.cons_append, Given]
        rintro _ rfl
        rintro _ rfl
        go_wp2_with fail
        exact Post.isv (Ext.refl _) rfl rfl rfl
      -- 4: Op.fieldAddr 42 t32 0
      apply Stage.step (Is _) [false, false, false, true] (Is.keeps _) (by kernel_rfl)
      · intro w1 h1
        simp only [List.nil_append, List.cons_append, Given]
        rintro _ rfl
        go_wp2_with fail
        exact Post.isv (Ext.refl _) rfl rfl rfl
      -- 5: Op.load 9 t33
      apply Stage.step (Is _) [false, false, false, false, true] (Is.keeps _) (by kernel_rfl)
      · intro w1 h1
        simp only [List.nil_append, List.cons_append, Given]
        rintro _ rfl
        have hq := h1.cell a0
        go_wp2_with fail
        exact Post.isv (Ext.refl _) rfl rfl rfl
      -- 6: Op.fieldAddr 35 t3 1
      apply Stage.step (Is _) [] (Is.keeps _) (by kernel_rfl)
      · intro w1 h1
        simp only [Given]
        go_wp2_with fail
        exact Post.isv (Ext.refl _) rfl rfl rfl
      -- 7: Op.load 33 t35
      apply Stage.step (Is _) [false, false, false, false, false, false, true] (Is.keeps _) (by kernel_rfl)
      · intro w1 h1
        simp only [List.nil_append, List.cons_append, Given]
        rintro _ rfl
        have hq := h1.cell d1
        go_wp2_with fail
        exact Post.isv (Ext.refl _) rfl rfl rfl
      -- 8: Op.move t5
      apply Stage.step (Is _) [] (Is.keeps _) (by kernel_rfl)
      · intro w1 h1
        simp only [Given]
        go_wp2_with fail
        exact Post.isv (Ext.refl _) rfl rfl rfl
      -- 9: Op.indexAddr 33 t36 t37
      apply Stage.step (Is _) [false, false, false, false, false, false, false, true, true] (Is.keeps _) (by kernel_rfl)
      · intro w1 h1
        simp only [List.nil_append, List.cons_append, Given]
        rintro _ rfl
        rintro _ rfl
        go_wp2_with fail
        exact Post.isv (Ext.refl _) rfl rfl rfl
      -- 10: Op.fieldAddr 42 t38 0
      apply Stage.step (Is _) [false, false, false, false, false, false, false, false, false, true] (Is.keeps _) (by kernel_rfl)
      · intro w1 h1
        simp only [List.nil_append, List.cons_append, Given]
        rintro _ rfl
        go_wp2_with fail
        exact Post.isv (Ext.refl _) rfl rfl rfl
      -- 11: Op.load 9 t39
      apply Stage.step (Is _) [false, false, false, false, false, false, false, false, false, false, true] (Is.keeps _) (by kernel_rfl)
      · intro w1 h1
        simp only [List.nil_append, List.cons_append, Given]
        rintro _ rfl
        have hq := h1.cell b0
        go_wp2_with fail
        exact Post.isv (Ext.refl _) rfl rfl rfl
      -- 12: Op.binOp BinOp.neq 9 t34 t40 9
      apply Stage.step (Is _) [false, false, false, false, false, true, false, false, false, false, false, true] (Is.keeps _) (by kernel_rfl)
      · intro w1 h1
        simp only [List.nil_append, List.cons_append, Given]
        rintro _ rfl
        rintro _ rfl
        go_wp2_with fail
        exact Post.isv (Ext.refl _) rfl rfl rfl
      -- 13: Op.move t41
      apply Stage.step (Is _) [false, false, false, false, false, false, false, false, false, false, false, false, true] (Is.keeps _) (by kernel_rfl)
      · intro w1 h1
        simp only [List.nil_append, List.cons_append, Given]
        rintro _ rfl
        go_wp2_with fail
        exact Post.isv (Ext.refl _) rfl rfl rfl
      -- 14: Op.fieldAddr 35 t2 1   [guarded: some (13, false)]
      apply Stage.step (Is _) [false, false, false, false, false, false, false, false, false, false, false, false, false, true] (Is.keeps _) (by kernel_rfl)
      · intro w1 h1
        simp only [List.nil_append, List.cons_append, Given]
        rintro _ rfl
        go_wp2_with fail
        exact Post.isv (Ext.refl _) rfl rfl rfl
      -- 15: Op.load 33 t43   [guarded: some (13, false)]
      apply Stage.step (Is _) [false, false, false, false, false, false, false, false, false, false, false, false, false, true, true] (Is.keeps _) (by kernel_rfl)
      · intro w1 h1
        simp only [List.nil_append, List.cons_append, Given]
        rintro _ rfl
        rintro _ rfl
        have hq := h1.cell c1
        go_wp2_with fail
        exact Post.isv (Ext.refl _) rfl rfl rfl
      -- 16: Op.move t5   [guarded: some (13, false)]
      apply Stage.step (Is _) [false, false, false, false, false, false, false, false, false, false, false, false, false, true] (Is.keeps _) (by kernel_rfl)
      · intro w1 h1
        simp only [List.nil_append, List.cons_append, Given]
        rintro _ rfl
        go_wp2_with fail
        exact Post.isv (Ext.refl _) rfl rfl rfl
      -- 17: Op.indexAddr 33 t44 t45   [guarded: some (13, false)]
      apply Stage.step (Is _) [false, false, false, false, false, false, false, false, false, false, false, false, false, true, false, true, true] (Is.keeps _) (by kernel_rfl)
      · intro w1 h1
        simp only [List.nil_append, List.cons_append, Given]
        rintro _ rfl
        rintro _ rfl
        rintro _ rfl
        go_wp2_with fail
        exact Post.isv (Ext.refl _) rfl rfl rfl
      -- 18: Op.fieldAddr 42 t46 1   [guarded: some (13, false)]
      apply Stage.step (Is _) [false, false, false, false, false, false, false, false, false, false, false, false, false, true, false, false, false, true] (Is.keeps _) (by kernel_rfl)
      · intro w1 h1
        simp only [List.nil_append, List.cons_append, Given]
        rintro _ rfl
        rintro _ rfl
        go_wp2_with fail
        exact Post.isv (Ext.refl _) rfl rfl rfl
      -- 19: Op.load 22 t47   [guarded: some (13, false)]
      apply Stage.step (Is _) [false, false, false, false, false, false, false, false, false, false, false, false, false, true, false, false, false, false, true] (Is.keeps _) (by kernel_rfl)
      · intro w1 h1
        simp only [List.nil_append, List.cons_append, Given]
        rintro _ rfl
        rintro _ rfl
        have hq := h1.cell a1
        go_wp2_with fail
        exact Post.isv (Ext.refl _) rfl rfl rfl
      -- 20: Op.convert 22 9 t48   [guarded: some (13, false)]
      apply Stage.step (Is _) [false, false, false, false, false, false, false, false, false, false, false, false, false, true, false, false, false, false, false, true] (Is.keeps _) (by kernel_rfl)
      · intro w1 h1
        simp only [List.nil_append, List.cons_append, Given]
        rintro _ rfl
        rintro _ rfl
        have ht := run_text_u8 (sa.ext h1)
        go_wp2_with fail
        exact Post.isv (Ext.refl _) rfl rfl rfl
      -- 21: Op.fieldAddr 35 t3 1   [guarded: some (13, false)]
      apply Stage.step (Is _) [false, false, false, false, false, false, false, false, false, false, false, false, false, true] (Is.keeps _) (by kernel_rfl)
      · intro w1 h1
        simp only [List.nil_append, List.cons_append, Given]
        rintro _ rfl
        go_wp2_with fail
        exact Post.isv (Ext.refl _) rfl rfl rfl
      -- 22: Op.load 33 t50   [guarded: some (13, false)]
      apply Stage.step (Is _) [false, false, false, false, false, false, false, false, false, false, false, false, false, true, false, false, false, false, false, false, false, true] (Is.keeps _) (by kernel_rfl)
      · intro w1 h1
        simp only [List.nil_append, List.cons_append, Given]
        rintro _ rfl
        rintro _ rfl
        have hq := h1.cell d1
        go_wp2_with fail
        exact Post.isv (Ext.refl _) rfl rfl rfl
      -- 23: Op.move t5   [guarded: some (13, false)]
      apply Stage.step (Is _) [false, false, false, false, false, false, false, false, false, false, false, false, false, true] (Is.keeps _) (by kernel_rfl)
      · intro w1 h1
        simp only [List.nil_append, List.cons_append, Given]
        rintro _ rfl
        go_wp2_with fail
        exact Post.isv (Ext.refl _) rfl rfl rfl
      -- 24: Op.indexAddr 33 t51 t52   [guarded: some (13, false)]
      apply Stage.step (Is _) [false, false, false, false, false, false, false, false, false, false, false, false, false, true, false, false, false, false, false, false, false, false, true, true] (Is.keeps _) (by kernel_rfl)
      · intro w1 h1
        simp only [List.nil_append, List.cons_append, Given]
        rintro _ rfl
        rintro _ rfl
        rintro _ rfl
        go_wp2_with fail
        exact Post.isv (Ext.refl _) rfl rfl rfl
      -- 25: Op.fieldAddr 42 t53 1   [guarded: some (13, false)]
      apply Stage.step (Is _) [false, false, false, false, false, false, false, false, false, false, false, false, false, true, false, false, false, false, false, false, false, false, false, false, true] (Is.keeps _) (by kernel_rfl)
      · intro w1 h1
        simp only [List.nil_append, List.cons_append, Given]
        rintro _ rfl
        rintro _ rfl
        go_wp2_with fail
        exact Post.isv (Ext.refl _) rfl rfl rfl
      -- 26: Op.load 22 t54   [guarded: some (13, false)]
      apply Stage.step (Is _) [false, false, false, false, false, false, false, false, false, false, false, false, false, true, false, false, false, false, false, false, false, false, false, false, false, true] (Is.keeps _) (by kernel_rfl)
      · intro w1 h1
        simp only [List.nil_append, List.cons_append, Given]
        rintro _ rfl
        rintro _ rfl
        have hq := h1.cell b1
        go_wp2_with fail
        exact Post.isv (Ext.refl _) rfl rfl rfl
      -- 27: Op.convert 22 9 t55   [guarded: some (13, false)]
      apply Stage.step (Is _) [false, false, false, false, false, false, false, false, false, false, false, false, false, true, false, false, false, false, false, false, false, false, false, false, false, false, true] (Is.keeps _) (by kernel_rfl)
      · intro w1 h1
        simp only [List.nil_append, List.cons_append, Given]
        rintro _ rfl
        rintro _ rfl
        have ht := run_text_u8 (sb.ext h1)
        go_wp2_with fail
        exact Post.isv (Ext.refl _) rfl rfl rfl
      -- 28: Op.binOp BinOp.neq 9 t49 t56 9   [guarded: some (13, false)]
      apply Stage.step (Is _) [false, false, false, false, false, false, false, false, false, false, false, false, false, true, false, false, false, false, false, false, true, false, false, false, false, false, false, true] (Is.keeps _) (by kernel_rfl)
      · intro w1 h1
        simp only [List.nil_append, List.cons_append, Given]
        rintro _ rfl
        rintro _ rfl
        rintro _ rfl
        go_wp2_with fail
        exact Post.isv (Ext.refl _) rfl rfl rfl
      -- 29: Op.pick t42 (const (Value.bool true)) t57
      apply Stage.step (Is _) [false, false, false, false, false, false, false, false, false, false, false, false, false, true, false, false, false, false, false, false, false, false, false, false, false, false, false, false, true] (Is.keeps _) (by kernel_rfl)
      · intro w1 h1
        simp only [List.nil_append, List.cons_append, Given]
        rintro _ rfl
        rintro _ rfl
        go_wp2_with fail
        exact Post.isv (Ext.refl _) rfl rfl rfl
      apply Stage.nil
      intro w1 h1
      simp only [List.nil_append, List.cons_append]
      refine Fin.is_ ?_
      refine Fin.is_ ?_
      refine Fin.is_ ?_
      refine Fin.is_ ?_
      refine Fin.is_ ?_
      refine Fin.is_ ?_
      refine Fin.is_ ?_
      refine Fin.is_ ?_
      refine Fin.is_ ?_
      refine Fin.is_ ?_
      refine Fin.is_ ?_
      refine Fin.is_ ?_
      refine Fin.is_ ?_
      refine Fin.is_ ?_
      refine Fin.is_ ?_
      refine Fin.is_ ?_
      refine Fin.is_ ?_
      refine Fin.is_ ?_
      refine Fin.is_ ?_
      refine Fin.is_ ?_
      refine Fin.is_ ?_
      refine Fin.is_ ?_
      refine Fin.is_ ?_
      refine Fin.is_ ?_
      refine Fin.is_ ?_
      refine Fin.is_ ?_
      refine Fin.is_ ?_
      refine Fin.is_ ?_
      refine Fin.is_ ?_
      refine Fin.is_ ?_
      refine Fin.nil_ ?_
      go_simp
      go_wp2_with fail
      go_roundw
      case rel => exact ⟨k + 1, by omega, by go_num, hye, hxr.trans h1⟩
      case measure => simp [intOf]; omega
    · have e := ht.out
      rw [List.take_of_length_le (by rw [l1.len]; omega), List.take_of_length_le (by rw [l2.len]; omega)] at e
      obtain rfl : r = true := by rw [HRR.out]; simpa using e
      clear HRR ht e
      go_wp2_with fail
      go_ret
      exact ⟨rfl, g0.trans hxr⟩
end Go.Proofs.Ytcklkjklepmabaa
