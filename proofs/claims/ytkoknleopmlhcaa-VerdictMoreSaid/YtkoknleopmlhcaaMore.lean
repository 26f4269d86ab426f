/-
  Chapter 23: contracts of the program's copied, goes, More, Ripe and of the reference's More and Ripe.
-/
import Derived.Test.YtkoknleopmlhcaaMorePlain
import Derived.Test.YtkoknleopmlhcaaAppL
import Derived.Test.YtkoknleopmlhcaaFrameRt
import Derived.Test.YtkoknleopmlhcaaEvGetRef
import Derived.Test.YtkoknleopmlhcaaOpenL
namespace Go.Proofs.Ytkoknleopmlhcaa
open Go.RowKit
set_option linter.unusedVariables false
set_option linter.unusedSimpArgs false
set_option linter.unnecessarySimpa false
set_option maxRecDepth 100000

set_option maxHeartbeats 1000000 in
theorem verdict_copied {t s : Int} {A : Option Addr} {n c : Nat} {d : List UInt8} {w : World} (hd : Sl w A n c d) (hn : n ≤ 1000000) :
    Calls Try.prog 62 #[enV t s A n c] w fun e w' => ∃ A' c', e = .returned (enV t s A' n c') ∧ Fsl w' w.heap.size A' n c' d ∧ Ext w w' := by
  have h63 := hd.n63
  go_enter Try.func62, Try.ntmps62
  go_wp2_with fail
  refine (slices_Clone A n c d _ (hd.ext ((Ext.alloc _ _).trans (Ext.alloc _ _))) hn).mono ?_
  rintro e w2 ⟨A7, c7, rfl, h7, hx7⟩
  have hlt : w.heap.size + 1 < w2.heap.size := by have := hx7.size; simp at this; omega
  have g0 : w2.cell? ⟨w.heap.size, 0, none⟩ = some (.int .i64 t) := hx7.cell ((Ext.alloc _ _).cell (cell_new w _ _ 0))
  have e0 : w2.frozen? ⟨w.heap.size, 0, none⟩ = false := hx7.frozenF ((Ext.alloc _ _).cell (cell_new w _ _ 0)) ((Ext.alloc _ _).frozenF (cell_new w _ _ 0) (fr_new w _ _ 0))
  have k0 : w2.cell? ⟨w.heap.size + 1, 0, none⟩ = some (.int .i64 0) := hx7.cell (cell_new2 w _ _ _ _ 0)
  have f0 : w2.frozen? ⟨w.heap.size + 1, 0, none⟩ = false := fr_new2 w _ _ _ _ 0 hx7
  have g1 : w2.cell? ⟨w.heap.size, 1, none⟩ = some (.int .i64 s) := hx7.cell ((Ext.alloc _ _).cell (cell_new w _ _ 1))
  have e1 : w2.frozen? ⟨w.heap.size, 1, none⟩ = false := hx7.frozenF ((Ext.alloc _ _).cell (cell_new w _ _ 1)) ((Ext.alloc _ _).frozenF (cell_new w _ _ 1) (fr_new w _ _ 1))
  have k1 : w2.cell? ⟨w.heap.size + 1, 1, none⟩ = some (.int .i64 0) := hx7.cell (cell_new2 w _ _ _ _ 1)
  have f1 : w2.frozen? ⟨w.heap.size + 1, 1, none⟩ = false := fr_new2 w _ _ _ _ 1 hx7
  have g2 : w2.cell? ⟨w.heap.size, 2, none⟩ = some (.slice A n c) := hx7.cell ((Ext.alloc _ _).cell (cell_new w _ _ 2))
  have e2 : w2.frozen? ⟨w.heap.size, 2, none⟩ = false := hx7.frozenF ((Ext.alloc _ _).cell (cell_new w _ _ 2)) ((Ext.alloc _ _).frozenF (cell_new w _ _ 2) (fr_new w _ _ 2))
  have k2 : w2.cell? ⟨w.heap.size + 1, 2, none⟩ = some (.slice none 0 0) := hx7.cell (cell_new2 w _ _ _ _ 2)
  have f2 : w2.frozen? ⟨w.heap.size + 1, 2, none⟩ = false := fr_new2 w _ _ _ _ 2 hx7
  have hx8 : Ext w w2 := ((Ext.alloc w _).allocs _).trans hx7
  clear hx7
  go_wp2_with fail
  refine bodyPost_ret (v := enV t s A7 n c7) ?hres rfl ⟨_, _, rfl, ?hsl, ?hxx⟩
  case hres => simp [results, Try.results62, go_sem, g0, g1, g2, k0, k1, k2]
  case hsl => exact (((h7.fsl.sets (by first | (simp; done) | (simp; omega)) _).sets (by first | (simp; done) | (simp; omega)) _).sets (by first | (simp; done) | (simp; omega)) _).sets (by first | (simp; done) | (simp; omega)) _ |>.low (by first | (simp; done) | (simp; omega))
  case hxx => (repeat (first | (with_reducible exact Ext.refl _) | (with_reducible assumption) | (with_reducible refine Ext.draws ?_) | (with_reducible refine Ext.allocs ?_ _) | (with_reducible refine Ext.sets ?_ ?_ _) | (with_reducible exact Nat.le_refl _) | (exact (by simp)) | (exact (by simp; omega))))

theorem wrap_go {e s1 s2 : Int} {k : Nat} (hk : k ≤ 100) (he : Hid (-9223372036854775808 ≤ e ∧ e ≤ 9223372036854775807)) (h1 : wrap64 (e + (k : Int)) = s1) (h2 : wrap64 (s1 + 1) = s2) (tags : List Tg) (to : Int) (x : En) : goB tags to s2 x = goB tags to (e + (k : Int) + 1) x := by
  have he := he.out
  have h : s2 = e + (k : Int) + 1 ∨ (¬ (0 ≤ s2 ∧ s2 ≤ 1099511627776) ∧ ¬ (0 ≤ e + (k : Int) + 1 ∧ e + (k : Int) + 1 ≤ 1099511627776)) := by
    rw [← h2, ← h1]
    unfold wrap64
    omega
  rcases h with h | ⟨h3, h4⟩
  · rw [h]
  · rw [goB_no (fun hc => by have := rightN_iff.1 hc.2.1; have := hc.1; omega), goB_no (fun hc => by have := rightN_iff.1 hc.2.1; have := hc.1; omega)]
set_option maxHeartbeats 4000000 in
theorem verdict_goes {xt xs : Int} {A : Option Addr} {n c : Nat} {d : List UInt8} {At : Option Addr} {nt ct : Nat} {tags : List Tg} {sq to : Int} {w : World} (hd : Sl w A n c d) (hn : n ≤ 1000000) (HB : Hid (enB ⟨xt, xs, d⟩)) (l3 : Lst 4 tgR w At nt ct tags) {r : Bool} (hr : Hid (goB tags to sq ⟨xt, xs, d⟩ = r)) :
    Calls Try.prog 63 #[enV xt xs A n c, .int .i64 sq, .slice At nt ct, .int .i64 to] w fun e w' => e = .returned (.bool r) ∧ Ext w w' := by
  have h63 := hd.n63
  have hn63 := h63.1
  have hdl := hd.len
  obtain ⟨rr, hrr⟩ : ∃ q, rightN xt xs n = q := ⟨_, rfl⟩
  obtain ⟨og, hog⟩ : ∃ q, ofI tags sq 0 = q := ⟨_, rfl⟩
  have HO := Lib.hid hog
  by_cases e1 : xs = sq
  case neg =>
    obtain rfl : r = false := by rw [← hr.out]; exact goB_no (fun hc => e1 hc.1)
    have q1 : (xs != sq) = true := by simpa using e1
    clear hog hr
    go_enter Try.func63, Try.ntmps63
    go_wp2_with fail
    have c0 := cell_new w #[.int .i64 xt, .int .i64 xs, .slice A n c] 39 0
    have c1 := cell_new w #[.int .i64 xt, .int .i64 xs, .slice A n c] 39 1
    have c2 := cell_new w #[.int .i64 xt, .int .i64 xs, .slice A n c] 39 2
    have g0 := Ext.alloc w (.cells #[.int .i64 xt, .int .i64 xs, .slice A n c] 39)
    obtain ⟨W, hW⟩ : ∃ W, w.alloc (.cells #[.int .i64 xt, .int .i64 xs, .slice A n c] 39) = W := ⟨_, rfl⟩
    rw [hW] at c0 c1 c2 g0
    rw [hW]
    replace l3 := l3.ext tg_rep g0
    refine wp_region_typed Ext.steady rfl 41 rfl (by kernel_rfl) ?_
    -- 0: Op.fieldAddr 39 t4 1
    apply Stage.step (Is _) [] (Is.keeps _) (by kernel_rfl)
    · intro w1 h1
      simp only [Given]
      go_wp2_with fail
      exact Post.isv (Ext.refl _) rfl rfl rfl
    -- 1: Op.load 3 t11
    apply Stage.step (Is _) [true] (Is.keeps _) (by kernel_rfl)
    · intro w1 h1
      simp only [List.nil_append, Given]
      rintro _ rfl
      have hq := h1.cell c1
      go_wp2_with fail
      exact Post.isv (Ext.refl _) rfl rfl rfl
    -- 2: Op.move t1
    apply Stage.step (Is _) [] (Is.keeps _) (by kernel_rfl)
    · intro w1 h1
      simp only [Given]
      go_wp2_with fail
      exact Post.isv (Ext.refl _) rfl rfl rfl
    -- 3: Op.binOp BinOp.neq 3 t12 t13 3
    apply Stage.step (Is _) [false, true, true] (Is.keeps _) (by kernel_rfl)
    · intro w1 h1
      simp only [List.nil_append, List.cons_append, Given]
      rintro _ rfl
      rintro _ rfl
      go_wp2_with fail
      exact Post.isv (Ext.refl _) rfl rfl rfl
    -- 4: Op.move t14
    apply Stage.step (Is _) [false, false, false, true] (Is.keeps _) (by kernel_rfl)
    · intro w1 h1
      simp only [List.nil_append, List.cons_append, Given]
      rintro _ rfl
      go_wp2_with fail
      exact Post.isv (Ext.refl _) rfl rfl rfl
    -- 5: Op.load 39 t4   [guarded: some (4, false)]
    apply Stage.step (Is _) [false, false, false, false, true] (Is.keeps _) (by kernel_rfl)
    · intro w1 h1
      simp only [List.nil_append, List.cons_append, Given]
      rintro _ rfl
      have hq0 := h1.cell c0
      have hq1 := h1.cell c1
      have hq2 := h1.cell c2
      go_wp2_with fail
      exact Post.isv (Ext.refl _) rfl rfl rfl
    -- 6: Op.call { value (Operand.func 71), args := #[t16], argTypes := #[39] }   [guarded: some (4, false)]
    apply Stage.step (Is _) [false, false, false, false, true, true] (Is.keeps _) (by kernel_rfl)
    · intro w1 h1
      simp only [List.nil_append, List.cons_append, Given]
      rintro _ rfl
      rintro _ rfl
      go_wp2_with fail
      first
        | exact Post.isv (Ext.refl _) rfl rfl rfl
        | (refine (frame_Right xt xs A n c _ hn63 HB.out.1.2 HB.out.2.2).mono ?_
           rintro e w2 ⟨rfl, hx2⟩
           rw [hrr]
           go_wp2_with fail
           exact Post.isv hx2 rfl rfl rfl)
    -- 7: Op.unOp UnOp.not 4 t17   [guarded: some (4, false)]
    apply Stage.step (Is _) [false, false, false, false, true, false, true] (Is.keeps _) (by kernel_rfl)
    · intro w1 h1
      simp only [List.nil_append, List.cons_append, Given]
      rintro _ rfl
      rintro _ rfl
      go_wp2_with fail
      exact Post.isv (Ext.refl _) rfl rfl rfl
    -- 8: Op.pick t15 (const (Value.bool true)) t18
    apply Stage.step (Is _) [false, false, false, false, true, false, false, true] (Is.keeps _) (by kernel_rfl)
    · intro w1 h1
      simp only [List.nil_append, List.cons_append, Given]
      rintro _ rfl
      rintro _ rfl
      go_wp2_with fail
      exact Post.isv (Ext.refl _) rfl rfl rfl
    -- 9: Op.move t19
    apply Stage.step (Is _) [false, false, false, false, false, false, false, false, true] (Is.keeps _) (by kernel_rfl)
    · intro w1 h1
      simp only [List.nil_append, List.cons_append, Given]
      rintro _ rfl
      go_wp2_with fail
      exact Post.isv (Ext.refl _) rfl rfl rfl
    -- 10: Op.move t1   [guarded: some (9, false)]
    apply Stage.step (Is _) [false, false, false, false, false, false, false, false, false, true] (Is.keeps _) (by kernel_rfl)
    · intro w1 h1
      simp only [List.nil_append, List.cons_append, Given]
      rintro _ rfl
      go_wp2_with fail
      exact Post.isv (Ext.refl _) rfl rfl rfl
    -- 11: Op.move t3   [guarded: some (9, false)]
    apply Stage.step (Is _) [false, false, false, false, false, false, false, false, false, true] (Is.keeps _) (by kernel_rfl)
    · intro w1 h1
      simp only [List.nil_append, List.cons_append, Given]
      rintro _ rfl
      go_wp2_with fail
      exact Post.isv (Ext.refl _) rfl rfl rfl
    -- 12: Op.binOp BinOp.gtr 3 t21 t22 3   [guarded: some (9, false)]
    apply Stage.step (Is _) [false, false, false, false, false, false, false, false, false, true, true, true] (Is.keeps _) (by kernel_rfl)
    · intro w1 h1
      simp only [List.nil_append, List.cons_append, Given]
      rintro _ rfl
      rintro _ rfl
      rintro _ rfl
      go_wp2_with fail
      exact Post.isv (Ext.refl _) rfl rfl rfl
    -- 13: Op.pick t20 (const (Value.bool true)) t23
    apply Stage.step (Is _) [false, false, false, false, false, false, false, false, false, true, false, false, true] (Is.keeps _) (by kernel_rfl)
    · intro w1 h1
      simp only [List.nil_append, List.cons_append, Given]
      rintro _ rfl
      rintro _ rfl
      go_wp2_with fail
      exact Post.isv (Ext.refl _) rfl rfl rfl
    -- 14: Op.move t24
    apply Stage.step (Is _) [false, false, false, false, false, false, false, false, false, false, false, false, false, true] (Is.keeps _) (by kernel_rfl)
    · intro w1 h1
      simp only [List.nil_append, List.cons_append, Given]
      rintro _ rfl
      go_wp2_with fail
      exact Post.isv (Ext.refl _) rfl rfl rfl
    -- 15: Op.fieldAddr 39 t4 0   [guarded: some (14, false)]
    apply Stage.step (Is _) [false, false, false, false, false, false, false, false, false, false, false, false, false, false, true] (Is.keeps _) (by kernel_rfl)
    · intro w1 h1
      simp only [List.nil_append, List.cons_append, Given]
      rintro _ rfl
      go_wp2_with fail
      exact Post.isv (Ext.refl _) rfl rfl rfl
    -- 16: Op.load 3 t26   [guarded: some (14, false)]
    apply Stage.step (Is _) [false, false, false, false, false, false, false, false, false, false, false, false, false, false, true, true] (Is.keeps _) (by kernel_rfl)
    · intro w1 h1
      simp only [List.nil_append, List.cons_append, Given]
      rintro _ rfl
      rintro _ rfl
      have hq := h1.cell c0
      go_wp2_with fail
      exact Post.isv (Ext.refl _) rfl rfl rfl
    -- 17: Op.move t2   [guarded: some (14, false)]
    apply Stage.step (Is _) [false, false, false, false, false, false, false, false, false, false, false, false, false, false, true] (Is.keeps _) (by kernel_rfl)
    · intro w1 h1
      simp only [List.nil_append, List.cons_append, Given]
      rintro _ rfl
      go_wp2_with fail
      exact Post.isv (Ext.refl _) rfl rfl rfl
    -- 18: Op.move t1   [guarded: some (14, false)]
    apply Stage.step (Is _) [false, false, false, false, false, false, false, false, false, false, false, false, false, false, true] (Is.keeps _) (by kernel_rfl)
    · intro w1 h1
      simp only [List.nil_append, List.cons_append, Given]
      rintro _ rfl
      go_wp2_with fail
      exact Post.isv (Ext.refl _) rfl rfl rfl
    -- 19: Op.call { value (Operand.func 36), args := #[t28, t29], argTypes := #[24, 3] }   [guarded: some (14,
    apply Stage.step (Is _) [false, false, false, false, false, false, false, false, false, false, false, false, false, false, true, false, false, true, true] (Is.keeps _) (by kernel_rfl)
    · intro w1 h1
      simp only [List.nil_append, List.cons_append, Given]
      rintro _ rfl
      rintro _ rfl
      rintro _ rfl
      go_wp2_with fail
      first
        | exact Post.isv (Ext.refl _) rfl rfl rfl
        | (refine (chain_Of (l3.ext tg_rep h1) HO).mono ?_
           rintro e w2 ⟨rfl, hx2⟩
           go_wp2_with fail
           exact Post.isv hx2 rfl rfl rfl)
    -- 20: Op.binOp BinOp.neq 3 t27 t30 3   [guarded: some (14, false)]
    apply Stage.step (Is _) [false, false, false, false, false, false, false, false, false, false, false, false, false, false, true, false, true, false, false, true] (Is.keeps _) (by kernel_rfl)
    · intro w1 h1
      simp only [List.nil_append, List.cons_append, Given]
      rintro _ rfl
      rintro _ rfl
      rintro _ rfl
      go_wp2_with fail
      exact Post.isv (Ext.refl _) rfl rfl rfl
    -- 21: Op.pick t25 (const (Value.bool true)) t31
    apply Stage.step (Is _) [false, false, false, false, false, false, false, false, false, false, false, false, false, false, true, false, false, false, false, false, true] (Is.keeps _) (by kernel_rfl)
    · intro w1 h1
      simp only [List.nil_append, List.cons_append, Given]
      rintro _ rfl
      rintro _ rfl
      go_wp2_with fail
      exact Post.isv (Ext.refl _) rfl rfl rfl
    apply Stage.nil
    intro w1 h1
    simp only [List.nil_append, List.cons_append]
    refine Fin.is_ ?_
    refine Fin.is_ ?_
    refine Fin.is_ ?_
    refine Fin.is_ ?_
    refine Fin.is_ ?_
    refine Fin.is_ ?_
    refine Fin.is_ ?_
    refine Fin.is_ ?_
    refine Fin.is_ ?_
    refine Fin.is_ ?_
    refine Fin.is_ ?_
    refine Fin.is_ ?_
    refine Fin.is_ ?_
    refine Fin.is_ ?_
    refine Fin.is_ ?_
    refine Fin.is_ ?_
    refine Fin.is_ ?_
    refine Fin.is_ ?_
    refine Fin.is_ ?_
    refine Fin.is_ ?_
    refine Fin.is_ ?_
    refine Fin.is_ ?_
    refine Fin.nil_ ?_
    go_simp
    go_wp2_with fail
    go_ret
    exact ⟨rfl, g0.trans h1⟩
  subst e1
  have q1 : (xs != xs) = false := by simp
  cases rr with
  | false =>
    obtain rfl : r = false := by rw [← hr.out]; exact goB_no (fun hc => by have := hc.2.1; simp only [hdl] at this; rw [hrr] at this; cases this)
    clear hog hr
    go_enter Try.func63, Try.ntmps63
    go_wp2_with fail
    have c0 := cell_new w #[.int .i64 xt, .int .i64 xs, .slice A n c] 39 0
    have c1 := cell_new w #[.int .i64 xt, .int .i64 xs, .slice A n c] 39 1
    have c2 := cell_new w #[.int .i64 xt, .int .i64 xs, .slice A n c] 39 2
    have g0 := Ext.alloc w (.cells #[.int .i64 xt, .int .i64 xs, .slice A n c] 39)
    obtain ⟨W, hW⟩ : ∃ W, w.alloc (.cells #[.int .i64 xt, .int .i64 xs, .slice A n c] 39) = W := ⟨_, rfl⟩
    rw [hW] at c0 c1 c2 g0
    rw [hW]
    replace l3 := l3.ext tg_rep g0
    refine wp_region_typed Ext.steady rfl 41 rfl (by kernel_rfl) ?_
    -- 0: Op.fieldAddr 39 t4 1
    apply Stage.step (Is _) [] (Is.keeps _) (by kernel_rfl)
    · intro w1 h1
      simp only [Given]
      go_wp2_with fail
      exact Post.isv (Ext.refl _) rfl rfl rfl
    -- 1: Op.load 3 t11
    apply Stage.step (Is _) [true] (Is.keeps _) (by kernel_rfl)
    · intro w1 h1
      simp only [List.nil_append, Given]
      rintro _ rfl
      have hq := h1.cell c1
      go_wp2_with fail
      exact Post.isv (Ext.refl _) rfl rfl rfl
    -- 2: Op.move t1
    apply Stage.step (Is _) [] (Is.keeps _) (by kernel_rfl)
    · intro w1 h1
      simp only [Given]
      go_wp2_with fail
      exact Post.isv (Ext.refl _) rfl rfl rfl
    -- 3: Op.binOp BinOp.neq 3 t12 t13 3
    apply Stage.step (Is _) [false, true, true] (Is.keeps _) (by kernel_rfl)
    · intro w1 h1
      simp only [List.nil_append, List.cons_append, Given]
      rintro _ rfl
      rintro _ rfl
      go_wp2_with fail
      exact Post.isv (Ext.refl _) rfl rfl rfl
    -- 4: Op.move t14
    apply Stage.step (Is _) [false, false, false, true] (Is.keeps _) (by kernel_rfl)
    · intro w1 h1
      simp only [List.nil_append, List.cons_append, Given]
      rintro _ rfl
      go_wp2_with fail
      exact Post.isv (Ext.refl _) rfl rfl rfl
    -- 5: Op.load 39 t4   [guarded: some (4, false)]
    apply Stage.step (Is _) [false, false, false, false, true] (Is.keeps _) (by kernel_rfl)
    · intro w1 h1
      simp only [List.nil_append, List.cons_append, Given]
      rintro _ rfl
      have hq0 := h1.cell c0
      have hq1 := h1.cell c1
      have hq2 := h1.cell c2
      go_wp2_with fail
      exact Post.isv (Ext.refl _) rfl rfl rfl
    -- 6: Op.call { value (Operand.func 71), args := #[t16], argTypes := #[39] }   [guarded: some (4, false)]
    apply Stage.step (Is _) [false, false, false, false, true, true] (Is.keeps _) (by kernel_rfl)
    · intro w1 h1
      simp only [List.nil_append, List.cons_append, Given]
      rintro _ rfl
      rintro _ rfl
      go_wp2_with fail
      first
        | exact Post.isv (Ext.refl _) rfl rfl rfl
        | (refine (frame_Right xt xs A n c _ hn63 HB.out.1.2 HB.out.2.2).mono ?_
           rintro e w2 ⟨rfl, hx2⟩
           rw [hrr]
           go_wp2_with fail
           exact Post.isv hx2 rfl rfl rfl)
    -- 7: Op.unOp UnOp.not 4 t17   [guarded: some (4, false)]
    apply Stage.step (Is _) [false, false, false, false, true, false, true] (Is.keeps _) (by kernel_rfl)
    · intro w1 h1
      simp only [List.nil_append, List.cons_append, Given]
      rintro _ rfl
      rintro _ rfl
      go_wp2_with fail
      exact Post.isv (Ext.refl _) rfl rfl rfl
    -- 8: Op.pick t15 (const (Value.bool true)) t18
    apply Stage.step (Is _) [false, false, false, false, true, false, false, true] (Is.keeps _) (by kernel_rfl)
    · intro w1 h1
      simp only [List.nil_append, List.cons_append, Given]
      rintro _ rfl
      rintro _ rfl
      go_wp2_with fail
      exact Post.isv (Ext.refl _) rfl rfl rfl
    -- 9: Op.move t19
    apply Stage.step (Is _) [false, false, false, false, false, false, false, false, true] (Is.keeps _) (by kernel_rfl)
    · intro w1 h1
      simp only [List.nil_append, List.cons_append, Given]
      rintro _ rfl
      go_wp2_with fail
      exact Post.isv (Ext.refl _) rfl rfl rfl
    -- 10: Op.move t1   [guarded: some (9, false)]
    apply Stage.step (Is _) [false, false, false, false, false, false, false, false, false, true] (Is.keeps _) (by kernel_rfl)
    · intro w1 h1
      simp only [List.nil_append, List.cons_append, Given]
      rintro _ rfl
      go_wp2_with fail
      exact Post.isv (Ext.refl _) rfl rfl rfl
    -- 11: Op.move t3   [guarded: some (9, false)]
    apply Stage.step (Is _) [false, false, false, false, false, false, false, false, false, true] (Is.keeps _) (by kernel_rfl)
    · intro w1 h1
      simp only [List.nil_append, List.cons_append, Given]
      rintro _ rfl
      go_wp2_with fail
      exact Post.isv (Ext.refl _) rfl rfl rfl
    -- 12: Op.binOp BinOp.gtr 3 t21 t22 3   [guarded: some (9, false)]
    apply Stage.step (Is _) [false, false, false, false, false, false, false, false, false, true, true, true] (Is.keeps _) (by kernel_rfl)
    · intro w1 h1
      simp only [List.nil_append, List.cons_append, Given]
      rintro _ rfl
      rintro _ rfl
      rintro _ rfl
      go_wp2_with fail
      exact Post.isv (Ext.refl _) rfl rfl rfl
    -- 13: Op.pick t20 (const (Value.bool true)) t23
    apply Stage.step (Is _) [false, false, false, false, false, false, false, false, false, true, false, false, true] (Is.keeps _) (by kernel_rfl)
    · intro w1 h1
      simp only [List.nil_append, List.cons_append, Given]
      rintro _ rfl
      rintro _ rfl
      go_wp2_with fail
      exact Post.isv (Ext.refl _) rfl rfl rfl
    -- 14: Op.move t24
    apply Stage.step (Is _) [false, false, false, false, false, false, false, false, false, false, false, false, false, true] (Is.keeps _) (by kernel_rfl)
    · intro w1 h1
      simp only [List.nil_append, List.cons_append, Given]
      rintro _ rfl
      go_wp2_with fail
      exact Post.isv (Ext.refl _) rfl rfl rfl
    -- 15: Op.fieldAddr 39 t4 0   [guarded: some (14, false)]
    apply Stage.step (Is _) [false, false, false, false, false, false, false, false, false, false, false, false, false, false, true] (Is.keeps _) (by kernel_rfl)
    · intro w1 h1
      simp only [List.nil_append, List.cons_append, Given]
      rintro _ rfl
      go_wp2_with fail
      exact Post.isv (Ext.refl _) rfl rfl rfl
    -- 16: Op.load 3 t26   [guarded: some (14, false)]
    apply Stage.step (Is _) [false, false, false, false, false, false, false, false, false, false, false, false, false, false, true, true] (Is.keeps _) (by kernel_rfl)
    · intro w1 h1
      simp only [List.nil_append, List.cons_append, Given]
      rintro _ rfl
      rintro _ rfl
      have hq := h1.cell c0
      go_wp2_with fail
      exact Post.isv (Ext.refl _) rfl rfl rfl
    -- 17: Op.move t2   [guarded: some (14, false)]
    apply Stage.step (Is _) [false, false, false, false, false, false, false, false, false, false, false, false, false, false, true] (Is.keeps _) (by kernel_rfl)
    · intro w1 h1
      simp only [List.nil_append, List.cons_append, Given]
      rintro _ rfl
      go_wp2_with fail
      exact Post.isv (Ext.refl _) rfl rfl rfl
    -- 18: Op.move t1   [guarded: some (14, false)]
    apply Stage.step (Is _) [false, false, false, false, false, false, false, false, false, false, false, false, false, false, true] (Is.keeps _) (by kernel_rfl)
    · intro w1 h1
      simp only [List.nil_append, List.cons_append, Given]
      rintro _ rfl
      go_wp2_with fail
      exact Post.isv (Ext.refl _) rfl rfl rfl
    -- 19: Op.call { value (Operand.func 36), args := #[t28, t29], argTypes := #[24, 3] }   [guarded: some (14,
    apply Stage.step (Is _) [false, false, false, false, false, false, false, false, false, false, false, false, false, false, true, false, false, true, true] (Is.keeps _) (by kernel_rfl)
    · intro w1 h1
      simp only [List.nil_append, List.cons_append, Given]
      rintro _ rfl
      rintro _ rfl
      rintro _ rfl
      go_wp2_with fail
      first
        | exact Post.isv (Ext.refl _) rfl rfl rfl
        | (refine (chain_Of (l3.ext tg_rep h1) HO).mono ?_
           rintro e w2 ⟨rfl, hx2⟩
           go_wp2_with fail
           exact Post.isv hx2 rfl rfl rfl)
    -- 20: Op.binOp BinOp.neq 3 t27 t30 3   [guarded: some (14, false)]
    apply Stage.step (Is _) [false, false, false, false, false, false, false, false, false, false, false, false, false, false, true, false, true, false, false, true] (Is.keeps _) (by kernel_rfl)
    · intro w1 h1
      simp only [List.nil_append, List.cons_append, Given]
      rintro _ rfl
      rintro _ rfl
      rintro _ rfl
      go_wp2_with fail
      exact Post.isv (Ext.refl _) rfl rfl rfl
    -- 21: Op.pick t25 (const (Value.bool true)) t31
    apply Stage.step (Is _) [false, false, false, false, false, false, false, false, false, false, false, false, false, false, true, false, false, false, false, false, true] (Is.keeps _) (by kernel_rfl)
    · intro w1 h1
      simp only [List.nil_append, List.cons_append, Given]
      rintro _ rfl
      rintro _ rfl
      go_wp2_with fail
      exact Post.isv (Ext.refl _) rfl rfl rfl
    apply Stage.nil
    intro w1 h1
    simp only [List.nil_append, List.cons_append]
    refine Fin.is_ ?_
    refine Fin.is_ ?_
    refine Fin.is_ ?_
    refine Fin.is_ ?_
    refine Fin.is_ ?_
    refine Fin.is_ ?_
    refine Fin.is_ ?_
    refine Fin.is_ ?_
    refine Fin.is_ ?_
    refine Fin.is_ ?_
    refine Fin.is_ ?_
    refine Fin.is_ ?_
    refine Fin.is_ ?_
    refine Fin.is_ ?_
    refine Fin.is_ ?_
    refine Fin.is_ ?_
    refine Fin.is_ ?_
    refine Fin.is_ ?_
    refine Fin.is_ ?_
    refine Fin.is_ ?_
    refine Fin.is_ ?_
    refine Fin.is_ ?_
    refine Fin.nil_ ?_
    go_simp
    go_wp2_with fail
    go_ret
    exact ⟨rfl, g0.trans h1⟩
  | true =>
    by_cases e3 : xs ≤ to
    case neg =>
      obtain rfl : r = false := by rw [← hr.out]; exact goB_no (fun hc => e3 hc.2.2.1)
      have q3 : decide (to < xs) = true := by simp; omega
      clear e3
      clear hog hr
      go_enter Try.func63, Try.ntmps63
      go_wp2_with fail
      have c0 := cell_new w #[.int .i64 xt, .int .i64 xs, .slice A n c] 39 0
      have c1 := cell_new w #[.int .i64 xt, .int .i64 xs, .slice A n c] 39 1
      have c2 := cell_new w #[.int .i64 xt, .int .i64 xs, .slice A n c] 39 2
      have g0 := Ext.alloc w (.cells #[.int .i64 xt, .int .i64 xs, .slice A n c] 39)
      obtain ⟨W, hW⟩ : ∃ W, w.alloc (.cells #[.int .i64 xt, .int .i64 xs, .slice A n c] 39) = W := ⟨_, rfl⟩
      rw [hW] at c0 c1 c2 g0
      rw [hW]
      replace l3 := l3.ext tg_rep g0
      refine wp_region_typed Ext.steady rfl 41 rfl (by kernel_rfl) ?_
      -- 0: Op.fieldAddr 39 t4 1
      apply Stage.step (Is _) [] (Is.keeps _) (by kernel_rfl)
      · intro w1 h1
        simp only [Given]
        go_wp2_with fail
        exact Post.isv (Ext.refl _) rfl rfl rfl
      -- 1: Op.load 3 t11
      apply Stage.step (Is _) [true] (Is.keeps _) (by kernel_rfl)
      · intro w1 h1
        simp only [List.nil_append, Given]
        rintro _ rfl
        have hq := h1.cell c1
        go_wp2_with fail
        exact Post.isv (Ext.refl _) rfl rfl rfl
      -- 2: Op.move t1
      apply Stage.step (Is _) [] (Is.keeps _) (by kernel_rfl)
      · intro w1 h1
        simp only [Given]
        go_wp2_with fail
        exact Post.isv (Ext.refl _) rfl rfl rfl
      -- 3: Op.binOp BinOp.neq 3 t12 t13 3
      apply Stage.step (Is _) [false, true, true] (Is.keeps _) (by kernel_rfl)
      · intro w1 h1
        simp only [List.nil_append, List.cons_append, Given]
        rintro _ rfl
        rintro _ rfl
        go_wp2_with fail
        exact Post.isv (Ext.refl _) rfl rfl rfl
      -- 4: Op.move t14
      apply Stage.step (Is _) [false, false, false, true] (Is.keeps _) (by kernel_rfl)
      · intro w1 h1
        simp only [List.nil_append, List.cons_append, Given]
        rintro _ rfl
        go_wp2_with fail
        exact Post.isv (Ext.refl _) rfl rfl rfl
      -- 5: Op.load 39 t4   [guarded: some (4, false)]
      apply Stage.step (Is _) [false, false, false, false, true] (Is.keeps _) (by kernel_rfl)
      · intro w1 h1
        simp only [List.nil_append, List.cons_append, Given]
        rintro _ rfl
        have hq0 := h1.cell c0
        have hq1 := h1.cell c1
        have hq2 := h1.cell c2
        go_wp2_with fail
        exact Post.isv (Ext.refl _) rfl rfl rfl
      -- 6: Op.call { value (Operand.func 71), args := #[t16], argTypes := #[39] }   [guarded: some (4, false)]
      apply Stage.step (Is _) [false, false, false, false, true, true] (Is.keeps _) (by kernel_rfl)
      · intro w1 h1
        simp only [List.nil_append, List.cons_append, Given]
        rintro _ rfl
        rintro _ rfl
        go_wp2_with fail
        first
          | exact Post.isv (Ext.refl _) rfl rfl rfl
          | (refine (frame_Right xt xs A n c _ hn63 HB.out.1.2 HB.out.2.2).mono ?_
             rintro e w2 ⟨rfl, hx2⟩
             rw [hrr]
             go_wp2_with fail
             exact Post.isv hx2 rfl rfl rfl)
      -- 7: Op.unOp UnOp.not 4 t17   [guarded: some (4, false)]
      apply Stage.step (Is _) [false, false, false, false, true, false, true] (Is.keeps _) (by kernel_rfl)
      · intro w1 h1
        simp only [List.nil_append, List.cons_append, Given]
        rintro _ rfl
        rintro _ rfl
        go_wp2_with fail
        exact Post.isv (Ext.refl _) rfl rfl rfl
      -- 8: Op.pick t15 (const (Value.bool true)) t18
      apply Stage.step (Is _) [false, false, false, false, true, false, false, true] (Is.keeps _) (by kernel_rfl)
      · intro w1 h1
        simp only [List.nil_append, List.cons_append, Given]
        rintro _ rfl
        rintro _ rfl
        go_wp2_with fail
        exact Post.isv (Ext.refl _) rfl rfl rfl
      -- 9: Op.move t19
      apply Stage.step (Is _) [false, false, false, false, false, false, false, false, true] (Is.keeps _) (by kernel_rfl)
      · intro w1 h1
        simp only [List.nil_append, List.cons_append, Given]
        rintro _ rfl
        go_wp2_with fail
        exact Post.isv (Ext.refl _) rfl rfl rfl
      -- 10: Op.move t1   [guarded: some (9, false)]
      apply Stage.step (Is _) [false, false, false, false, false, false, false, false, false, true] (Is.keeps _) (by kernel_rfl)
      · intro w1 h1
        simp only [List.nil_append, List.cons_append, Given]
        rintro _ rfl
        go_wp2_with fail
        exact Post.isv (Ext.refl _) rfl rfl rfl
      -- 11: Op.move t3   [guarded: some (9, false)]
      apply Stage.step (Is _) [false, false, false, false, false, false, false, false, false, true] (Is.keeps _) (by kernel_rfl)
      · intro w1 h1
        simp only [List.nil_append, List.cons_append, Given]
        rintro _ rfl
        go_wp2_with fail
        exact Post.isv (Ext.refl _) rfl rfl rfl
      -- 12: Op.binOp BinOp.gtr 3 t21 t22 3   [guarded: some (9, false)]
      apply Stage.step (Is _) [false, false, false, false, false, false, false, false, false, true, true, true] (Is.keeps _) (by kernel_rfl)
      · intro w1 h1
        simp only [List.nil_append, List.cons_append, Given]
        rintro _ rfl
        rintro _ rfl
        rintro _ rfl
        go_wp2_with fail
        exact Post.isv (Ext.refl _) rfl rfl rfl
      -- 13: Op.pick t20 (const (Value.bool true)) t23
      apply Stage.step (Is _) [false, false, false, false, false, false, false, false, false, true, false, false, true] (Is.keeps _) (by kernel_rfl)
      · intro w1 h1
        simp only [List.nil_append, List.cons_append, Given]
        rintro _ rfl
        rintro _ rfl
        go_wp2_with fail
        exact Post.isv (Ext.refl _) rfl rfl rfl
      -- 14: Op.move t24
      apply Stage.step (Is _) [false, false, false, false, false, false, false, false, false, false, false, false, false, true] (Is.keeps _) (by kernel_rfl)
      · intro w1 h1
        simp only [List.nil_append, List.cons_append, Given]
        rintro _ rfl
        go_wp2_with fail
        exact Post.isv (Ext.refl _) rfl rfl rfl
      -- 15: Op.fieldAddr 39 t4 0   [guarded: some (14, false)]
      apply Stage.step (Is _) [false, false, false, false, false, false, false, false, false, false, false, false, false, false, true] (Is.keeps _) (by kernel_rfl)
      · intro w1 h1
        simp only [List.nil_append, List.cons_append, Given]
        rintro _ rfl
        go_wp2_with fail
        exact Post.isv (Ext.refl _) rfl rfl rfl
      -- 16: Op.load 3 t26   [guarded: some (14, false)]
      apply Stage.step (Is _) [false, false, false, false, false, false, false, false, false, false, false, false, false, false, true, true] (Is.keeps _) (by kernel_rfl)
      · intro w1 h1
        simp only [List.nil_append, List.cons_append, Given]
        rintro _ rfl
        rintro _ rfl
        have hq := h1.cell c0
        go_wp2_with fail
        exact Post.isv (Ext.refl _) rfl rfl rfl
      -- 17: Op.move t2   [guarded: some (14, false)]
      apply Stage.step (Is _) [false, false, false, false, false, false, false, false, false, false, false, false, false, false, true] (Is.keeps _) (by kernel_rfl)
      · intro w1 h1
        simp only [List.nil_append, List.cons_append, Given]
        rintro _ rfl
        go_wp2_with fail
        exact Post.isv (Ext.refl _) rfl rfl rfl
      -- 18: Op.move t1   [guarded: some (14, false)]
      apply Stage.step (Is _) [false, false, false, false, false, false, false, false, false, false, false, false, false, false, true] (Is.keeps _) (by kernel_rfl)
      · intro w1 h1
        simp only [List.nil_append, List.cons_append, Given]
        rintro _ rfl
        go_wp2_with fail
        exact Post.isv (Ext.refl _) rfl rfl rfl
      -- 19: Op.call { value (Operand.func 36), args := #[t28, t29], argTypes := #[24, 3] }   [guarded: some (14,
      apply Stage.step (Is _) [false, false, false, false, false, false, false, false, false, false, false, false, false, false, true, false, false, true, true] (Is.keeps _) (by kernel_rfl)
      · intro w1 h1
        simp only [List.nil_append, List.cons_append, Given]
        rintro _ rfl
        rintro _ rfl
        rintro _ rfl
        go_wp2_with fail
        first
          | exact Post.isv (Ext.refl _) rfl rfl rfl
          | (refine (chain_Of (l3.ext tg_rep h1) HO).mono ?_
             rintro e w2 ⟨rfl, hx2⟩
             go_wp2_with fail
             exact Post.isv hx2 rfl rfl rfl)
      -- 20: Op.binOp BinOp.neq 3 t27 t30 3   [guarded: some (14, false)]
      apply Stage.step (Is _) [false, false, false, false, false, false, false, false, false, false, false, false, false, false, true, false, true, false, false, true] (Is.keeps _) (by kernel_rfl)
      · intro w1 h1
        simp only [List.nil_append, List.cons_append, Given]
        rintro _ rfl
        rintro _ rfl
        rintro _ rfl
        go_wp2_with fail
        exact Post.isv (Ext.refl _) rfl rfl rfl
      -- 21: Op.pick t25 (const (Value.bool true)) t31
      apply Stage.step (Is _) [false, false, false, false, false, false, false, false, false, false, false, false, false, false, true, false, false, false, false, false, true] (Is.keeps _) (by kernel_rfl)
      · intro w1 h1
        simp only [List.nil_append, List.cons_append, Given]
        rintro _ rfl
        rintro _ rfl
        go_wp2_with fail
        exact Post.isv (Ext.refl _) rfl rfl rfl
      apply Stage.nil
      intro w1 h1
      simp only [List.nil_append, List.cons_append]
      refine Fin.is_ ?_
      refine Fin.is_ ?_
      refine Fin.is_ ?_
      refine Fin.is_ ?_
      refine Fin.is_ ?_
      refine Fin.is_ ?_
      refine Fin.is_ ?_
      refine Fin.is_ ?_
      refine Fin.is_ ?_
      refine Fin.is_ ?_
      refine Fin.is_ ?_
      refine Fin.is_ ?_
      refine Fin.is_ ?_
      refine Fin.is_ ?_
      refine Fin.is_ ?_
      refine Fin.is_ ?_
      refine Fin.is_ ?_
      refine Fin.is_ ?_
      refine Fin.is_ ?_
      refine Fin.is_ ?_
      refine Fin.is_ ?_
      refine Fin.is_ ?_
      refine Fin.nil_ ?_
      go_simp
      go_wp2_with fail
      go_ret
      exact ⟨rfl, g0.trans h1⟩
    have q3 : decide (to < xs) = false := by simp; omega
    by_cases e4 : xt = og
    case neg =>
      obtain rfl : r = false := by rw [← hr.out]; exact goB_no (fun hc => e4 (hc.2.2.2.trans hog))
      have q4 : (xt != og) = true := by simpa using e4
      clear e4
      clear hog hr
      go_enter Try.func63, Try.ntmps63
      go_wp2_with fail
      have c0 := cell_new w #[.int .i64 xt, .int .i64 xs, .slice A n c] 39 0
      have c1 := cell_new w #[.int .i64 xt, .int .i64 xs, .slice A n c] 39 1
      have c2 := cell_new w #[.int .i64 xt, .int .i64 xs, .slice A n c] 39 2
      have g0 := Ext.alloc w (.cells #[.int .i64 xt, .int .i64 xs, .slice A n c] 39)
      obtain ⟨W, hW⟩ : ∃ W, w.alloc (.cells #[.int .i64 xt, .int .i64 xs, .slice A n c] 39) = W := ⟨_, rfl⟩
      rw [hW] at c0 c1 c2 g0
      rw [hW]
      replace l3 := l3.ext tg_rep g0
      refine wp_region_typed Ext.steady rfl 41 rfl (by kernel_rfl) ?_
      -- 0: Op.fieldAddr 39 t4 1
      apply Stage.step (Is _) [] (Is.keeps _) (by kernel_rfl)
      · intro w1 h1
        simp only [Given]
        go_wp2_with fail
        exact Post.isv (Ext.refl _) rfl rfl rfl
      -- 1: Op.load 3 t11
      apply Stage.step (Is _) [true] (Is.keeps _) (by kernel_rfl)
      · intro w1 h1
        simp only [List.nil_append, Given]
        rintro _ rfl
        have hq := h1.cell c1
        go_wp2_with fail
        exact Post.isv (Ext.refl _) rfl rfl rfl
      -- 2: Op.move t1
      apply Stage.step (Is _) [] (Is.keeps _) (by kernel_rfl)
      · intro w1 h1
        simp only [Given]
        go_wp2_with fail
        exact Post.isv (Ext.refl _) rfl rfl rfl
      -- 3: Op.binOp BinOp.neq 3 t12 t13 3
      apply Stage.step (Is _) [false, true, true] (Is.keeps _) (by kernel_rfl)
      · intro w1 h1
        simp only [List.nil_append, List.cons_append, Given]
        rintro _ rfl
        rintro _ rfl
        go_wp2_with fail
        exact Post.isv (Ext.refl _) rfl rfl rfl
      -- 4: Op.move t14
      apply Stage.step (Is _) [false, false, false, true] (Is.keeps _) (by kernel_rfl)
      · intro w1 h1
        simp only [List.nil_append, List.cons_append, Given]
        rintro _ rfl
        go_wp2_with fail
        exact Post.isv (Ext.refl _) rfl rfl rfl
      -- 5: Op.load 39 t4   [guarded: some (4, false)]
      apply Stage.step (Is _) [false, false, false, false, true] (Is.keeps _) (by kernel_rfl)
      · intro w1 h1
        simp only [List.nil_append, List.cons_append, Given]
        rintro _ rfl
        have hq0 := h1.cell c0
        have hq1 := h1.cell c1
        have hq2 := h1.cell c2
        go_wp2_with fail
        exact Post.isv (Ext.refl _) rfl rfl rfl
      -- 6: Op.call { value (Operand.func 71), args := #[t16], argTypes := #[39] }   [guarded: some (4, false)]
      apply Stage.step (Is _) [false, false, false, false, true, true] (Is.keeps _) (by kernel_rfl)
      · intro w1 h1
        simp only [List.nil_append, List.cons_append, Given]
        rintro _ rfl
        rintro _ rfl
        go_wp2_with fail
        first
          | exact Post.isv (Ext.refl _) rfl rfl rfl
          | (refine (frame_Right xt xs A n c _ hn63 HB.out.1.2 HB.out.2.2).mono ?_
             rintro e w2 ⟨rfl, hx2⟩
             rw [hrr]
             go_wp2_with fail
             exact Post.isv hx2 rfl rfl rfl)
      -- 7: Op.unOp UnOp.not 4 t17   [guarded: some (4, false)]
      apply Stage.step (Is _) [false, false, false, false, true, false, true] (Is.keeps _) (by kernel_rfl)
      · intro w1 h1
        simp only [List.nil_append, List.cons_append, Given]
        rintro _ rfl
        rintro _ rfl
        go_wp2_with fail
        exact Post.isv (Ext.refl _) rfl rfl rfl
      -- 8: Op.pick t15 (const (Value.bool true)) t18
      apply Stage.step (Is _) [false, false, false, false, true, false, false, true] (Is.keeps _) (by kernel_rfl)
      · intro w1 h1
        simp only [List.nil_append, List.cons_append, Given]
        rintro _ rfl
        rintro _ rfl
        go_wp2_with fail
        exact Post.isv (Ext.refl _) rfl rfl rfl
      -- 9: Op.move t19
      apply Stage.step (Is _) [false, false, false, false, false, false, false, false, true] (Is.keeps _) (by kernel_rfl)
      · intro w1 h1
        simp only [List.nil_append, List.cons_append, Given]
        rintro _ rfl
        go_wp2_with fail
        exact Post.isv (Ext.refl _) rfl rfl rfl
      -- 10: Op.move t1   [guarded: some (9, false)]
      apply Stage.step (Is _) [false, false, false, false, false, false, false, false, false, true] (Is.keeps _) (by kernel_rfl)
      · intro w1 h1
        simp only [List.nil_append, List.cons_append, Given]
        rintro _ rfl
        go_wp2_with fail
        exact Post.isv (Ext.refl _) rfl rfl rfl
      -- 11: Op.move t3   [guarded: some (9, false)]
      apply Stage.step (Is _) [false, false, false, false, false, false, false, false, false, true] (Is.keeps _) (by kernel_rfl)
      · intro w1 h1
        simp only [List.nil_append, List.cons_append, Given]
        rintro _ rfl
        go_wp2_with fail
        exact Post.isv (Ext.refl _) rfl rfl rfl
      -- 12: Op.binOp BinOp.gtr 3 t21 t22 3   [guarded: some (9, false)]
      apply Stage.step (Is _) [false, false, false, false, false, false, false, false, false, true, true, true] (Is.keeps _) (by kernel_rfl)
      · intro w1 h1
        simp only [List.nil_append, List.cons_append, Given]
        rintro _ rfl
        rintro _ rfl
        rintro _ rfl
        go_wp2_with fail
        exact Post.isv (Ext.refl _) rfl rfl rfl
      -- 13: Op.pick t20 (const (Value.bool true)) t23
      apply Stage.step (Is _) [false, false, false, false, false, false, false, false, false, true, false, false, true] (Is.keeps _) (by kernel_rfl)
      · intro w1 h1
        simp only [List.nil_append, List.cons_append, Given]
        rintro _ rfl
        rintro _ rfl
        go_wp2_with fail
        exact Post.isv (Ext.refl _) rfl rfl rfl
      -- 14: Op.move t24
      apply Stage.step (Is _) [false, false, false, false, false, false, false, false, false, false, false, false, false, true] (Is.keeps _) (by kernel_rfl)
      · intro w1 h1
        simp only [List.nil_append, List.cons_append, Given]
        rintro _ rfl
        go_wp2_with fail
        exact Post.isv (Ext.refl _) rfl rfl rfl
      -- 15: Op.fieldAddr 39 t4 0   [guarded: some (14, false)]
      apply Stage.step (Is _) [false, false, false, false, false, false, false, false, false, false, false, false, false, false, true] (Is.keeps _) (by kernel_rfl)
      · intro w1 h1
        simp only [List.nil_append, List.cons_append, Given]
        rintro _ rfl
        go_wp2_with fail
        exact Post.isv (Ext.refl _) rfl rfl rfl
      -- 16: Op.load 3 t26   [guarded: some (14, false)]
      apply Stage.step (Is _) [false, false, false, false, false, false, false, false, false, false, false, false, false, false, true, true] (Is.keeps _) (by kernel_rfl)
      · intro w1 h1
        simp only [List.nil_append, List.cons_append, Given]
        rintro _ rfl
        rintro _ rfl
        have hq := h1.cell c0
        go_wp2_with fail
        exact Post.isv (Ext.refl _) rfl rfl rfl
      -- 17: Op.move t2   [guarded: some (14, false)]
      apply Stage.step (Is _) [false, false, false, false, false, false, false, false, false, false, false, false, false, false, true] (Is.keeps _) (by kernel_rfl)
      · intro w1 h1
        simp only [List.nil_append, List.cons_append, Given]
        rintro _ rfl
        go_wp2_with fail
        exact Post.isv (Ext.refl _) rfl rfl rfl
      -- 18: Op.move t1   [guarded: some (14, false)]
      apply Stage.step (Is _) [false, false, false, false, false, false, false, false, false, false, false, false, false, false, true] (Is.keeps _) (by kernel_rfl)
      · intro w1 h1
        simp only [List.nil_append, List.cons_append, Given]
        rintro _ rfl
        go_wp2_with fail
        exact Post.isv (Ext.refl _) rfl rfl rfl
      -- 19: Op.call { value (Operand.func 36), args := #[t28, t29], argTypes := #[24, 3] }   [guarded: some (14,
      apply Stage.step (Is _) [false, false, false, false, false, false, false, false, false, false, false, false, false, false, true, false, false, true, true] (Is.keeps _) (by kernel_rfl)
      · intro w1 h1
        simp only [List.nil_append, List.cons_append, Given]
        rintro _ rfl
        rintro _ rfl
        rintro _ rfl
        go_wp2_with fail
        first
          | exact Post.isv (Ext.refl _) rfl rfl rfl
          | (refine (chain_Of (l3.ext tg_rep h1) HO).mono ?_
             rintro e w2 ⟨rfl, hx2⟩
             go_wp2_with fail
             exact Post.isv hx2 rfl rfl rfl)
      -- 20: Op.binOp BinOp.neq 3 t27 t30 3   [guarded: some (14, false)]
      apply Stage.step (Is _) [false, false, false, false, false, false, false, false, false, false, false, false, false, false, true, false, true, false, false, true] (Is.keeps _) (by kernel_rfl)
      · intro w1 h1
        simp only [List.nil_append, List.cons_append, Given]
        rintro _ rfl
        rintro _ rfl
        rintro _ rfl
        go_wp2_with fail
        exact Post.isv (Ext.refl _) rfl rfl rfl
      -- 21: Op.pick t25 (const (Value.bool true)) t31
      apply Stage.step (Is _) [false, false, false, false, false, false, false, false, false, false, false, false, false, false, true, false, false, false, false, false, true] (Is.keeps _) (by kernel_rfl)
      · intro w1 h1
        simp only [List.nil_append, List.cons_append, Given]
        rintro _ rfl
        rintro _ rfl
        go_wp2_with fail
        exact Post.isv (Ext.refl _) rfl rfl rfl
      apply Stage.nil
      intro w1 h1
      simp only [List.nil_append, List.cons_append]
      refine Fin.is_ ?_
      refine Fin.is_ ?_
      refine Fin.is_ ?_
      refine Fin.is_ ?_
      refine Fin.is_ ?_
      refine Fin.is_ ?_
      refine Fin.is_ ?_
      refine Fin.is_ ?_
      refine Fin.is_ ?_
      refine Fin.is_ ?_
      refine Fin.is_ ?_
      refine Fin.is_ ?_
      refine Fin.is_ ?_
      refine Fin.is_ ?_
      refine Fin.is_ ?_
      refine Fin.is_ ?_
      refine Fin.is_ ?_
      refine Fin.is_ ?_
      refine Fin.is_ ?_
      refine Fin.is_ ?_
      refine Fin.is_ ?_
      refine Fin.is_ ?_
      refine Fin.nil_ ?_
      go_simp
      go_wp2_with fail
      go_ret
      exact ⟨rfl, g0.trans h1⟩
    subst e4
    have q4 : (xt != xt) = false := by simp
    have hev : Hid (evOk d = r) := by
      unfold Hid
      rw [← hr.out]
      exact (goB_tag (x := ⟨xt, xs, d⟩) rfl (by simp only [hdl]; exact hrr) e3 hog.symm rfl).symm
    obtain ⟨⟨K, O, M, L, S⟩, hg⟩ : ∃ q, gotE d = q := ⟨_, rfl⟩
    have HG := Lib.hid hg
    clear hg
    clear hog hr
    go_enter Try.func63, Try.ntmps63
    go_wp2_with fail
    have c0 := cell_new w #[.int .i64 xt, .int .i64 xs, .slice A n c] 39 0
    have c1 := cell_new w #[.int .i64 xt, .int .i64 xs, .slice A n c] 39 1
    have c2 := cell_new w #[.int .i64 xt, .int .i64 xs, .slice A n c] 39 2
    have g0 := Ext.alloc w (.cells #[.int .i64 xt, .int .i64 xs, .slice A n c] 39)
    obtain ⟨W, hW⟩ : ∃ W, w.alloc (.cells #[.int .i64 xt, .int .i64 xs, .slice A n c] 39) = W := ⟨_, rfl⟩
    rw [hW] at c0 c1 c2 g0
    rw [hW]
    replace l3 := l3.ext tg_rep g0
    refine wp_region_typed Ext.steady rfl 41 rfl (by kernel_rfl) ?_
    -- 0: Op.fieldAddr 39 t4 1
    apply Stage.step (Is _) [] (Is.keeps _) (by kernel_rfl)
    · intro w1 h1
      simp only [Given]
      go_wp2_with fail
      exact Post.isv (Ext.refl _) rfl rfl rfl
    -- 1: Op.load 3 t11
    apply Stage.step (Is _) [true] (Is.keeps _) (by kernel_rfl)
    · intro w1 h1
      simp only [List.nil_append, Given]
      rintro _ rfl
      have hq := h1.cell c1
      go_wp2_with fail
      exact Post.isv (Ext.refl _) rfl rfl rfl
    -- 2: Op.move t1
    apply Stage.step (Is _) [] (Is.keeps _) (by kernel_rfl)
    · intro w1 h1
      simp only [Given]
      go_wp2_with fail
      exact Post.isv (Ext.refl _) rfl rfl rfl
    -- 3: Op.binOp BinOp.neq 3 t12 t13 3
    apply Stage.step (Is _) [false, true, true] (Is.keeps _) (by kernel_rfl)
    · intro w1 h1
      simp only [List.nil_append, List.cons_append, Given]
      rintro _ rfl
      rintro _ rfl
      go_wp2_with fail
      exact Post.isv (Ext.refl _) rfl rfl rfl
    -- 4: Op.move t14
    apply Stage.step (Is _) [false, false, false, true] (Is.keeps _) (by kernel_rfl)
    · intro w1 h1
      simp only [List.nil_append, List.cons_append, Given]
      rintro _ rfl
      go_wp2_with fail
      exact Post.isv (Ext.refl _) rfl rfl rfl
    -- 5: Op.load 39 t4   [guarded: some (4, false)]
    apply Stage.step (Is _) [false, false, false, false, true] (Is.keeps _) (by kernel_rfl)
    · intro w1 h1
      simp only [List.nil_append, List.cons_append, Given]
      rintro _ rfl
      have hq0 := h1.cell c0
      have hq1 := h1.cell c1
      have hq2 := h1.cell c2
      go_wp2_with fail
      exact Post.isv (Ext.refl _) rfl rfl rfl
    -- 6: Op.call { value (Operand.func 71), args := #[t16], argTypes := #[39] }   [guarded: some (4, false)]
    apply Stage.step (Is _) [false, false, false, false, true, true] (Is.keeps _) (by kernel_rfl)
    · intro w1 h1
      simp only [List.nil_append, List.cons_append, Given]
      rintro _ rfl
      rintro _ rfl
      go_wp2_with fail
      first
        | exact Post.isv (Ext.refl _) rfl rfl rfl
        | (refine (frame_Right xt xs A n c _ hn63 HB.out.1.2 HB.out.2.2).mono ?_
           rintro e w2 ⟨rfl, hx2⟩
           rw [hrr]
           go_wp2_with fail
           exact Post.isv hx2 rfl rfl rfl)
    -- 7: Op.unOp UnOp.not 4 t17   [guarded: some (4, false)]
    apply Stage.step (Is _) [false, false, false, false, true, false, true] (Is.keeps _) (by kernel_rfl)
    · intro w1 h1
      simp only [List.nil_append, List.cons_append, Given]
      rintro _ rfl
      rintro _ rfl
      go_wp2_with fail
      exact Post.isv (Ext.refl _) rfl rfl rfl
    -- 8: Op.pick t15 (const (Value.bool true)) t18
    apply Stage.step (Is _) [false, false, false, false, true, false, false, true] (Is.keeps _) (by kernel_rfl)
    · intro w1 h1
      simp only [List.nil_append, List.cons_append, Given]
      rintro _ rfl
      rintro _ rfl
      go_wp2_with fail
      exact Post.isv (Ext.refl _) rfl rfl rfl
    -- 9: Op.move t19
    apply Stage.step (Is _) [false, false, false, false, false, false, false, false, true] (Is.keeps _) (by kernel_rfl)
    · intro w1 h1
      simp only [List.nil_append, List.cons_append, Given]
      rintro _ rfl
      go_wp2_with fail
      exact Post.isv (Ext.refl _) rfl rfl rfl
    -- 10: Op.move t1   [guarded: some (9, false)]
    apply Stage.step (Is _) [false, false, false, false, false, false, false, false, false, true] (Is.keeps _) (by kernel_rfl)
    · intro w1 h1
      simp only [List.nil_append, List.cons_append, Given]
      rintro _ rfl
      go_wp2_with fail
      exact Post.isv (Ext.refl _) rfl rfl rfl
    -- 11: Op.move t3   [guarded: some (9, false)]
    apply Stage.step (Is _) [false, false, false, false, false, false, false, false, false, true] (Is.keeps _) (by kernel_rfl)
    · intro w1 h1
      simp only [List.nil_append, List.cons_append, Given]
      rintro _ rfl
      go_wp2_with fail
      exact Post.isv (Ext.refl _) rfl rfl rfl
    -- 12: Op.binOp BinOp.gtr 3 t21 t22 3   [guarded: some (9, false)]
    apply Stage.step (Is _) [false, false, false, false, false, false, false, false, false, true, true, true] (Is.keeps _) (by kernel_rfl)
    · intro w1 h1
      simp only [List.nil_append, List.cons_append, Given]
      rintro _ rfl
      rintro _ rfl
      rintro _ rfl
      go_wp2_with fail
      exact Post.isv (Ext.refl _) rfl rfl rfl
    -- 13: Op.pick t20 (const (Value.bool true)) t23
    apply Stage.step (Is _) [false, false, false, false, false, false, false, false, false, true, false, false, true] (Is.keeps _) (by kernel_rfl)
    · intro w1 h1
      simp only [List.nil_append, List.cons_append, Given]
      rintro _ rfl
      rintro _ rfl
      go_wp2_with fail
      exact Post.isv (Ext.refl _) rfl rfl rfl
    -- 14: Op.move t24
    apply Stage.step (Is _) [false, false, false, false, false, false, false, false, false, false, false, false, false, true] (Is.keeps _) (by kernel_rfl)
    · intro w1 h1
      simp only [List.nil_append, List.cons_append, Given]
      rintro _ rfl
      go_wp2_with fail
      exact Post.isv (Ext.refl _) rfl rfl rfl
    -- 15: Op.fieldAddr 39 t4 0   [guarded: some (14, false)]
    apply Stage.step (Is _) [false, false, false, false, false, false, false, false, false, false, false, false, false, false, true] (Is.keeps _) (by kernel_rfl)
    · intro w1 h1
      simp only [List.nil_append, List.cons_append, Given]
      rintro _ rfl
      go_wp2_with fail
      exact Post.isv (Ext.refl _) rfl rfl rfl
    -- 16: Op.load 3 t26   [guarded: some (14, false)]
    apply Stage.step (Is _) [false, false, false, false, false, false, false, false, false, false, false, false, false, false, true, true] (Is.keeps _) (by kernel_rfl)
    · intro w1 h1
      simp only [List.nil_append, List.cons_append, Given]
      rintro _ rfl
      rintro _ rfl
      have hq := h1.cell c0
      go_wp2_with fail
      exact Post.isv (Ext.refl _) rfl rfl rfl
    -- 17: Op.move t2   [guarded: some (14, false)]
    apply Stage.step (Is _) [false, false, false, false, false, false, false, false, false, false, false, false, false, false, true] (Is.keeps _) (by kernel_rfl)
    · intro w1 h1
      simp only [List.nil_append, List.cons_append, Given]
      rintro _ rfl
      go_wp2_with fail
      exact Post.isv (Ext.refl _) rfl rfl rfl
    -- 18: Op.move t1   [guarded: some (14, false)]
    apply Stage.step (Is _) [false, false, false, false, false, false, false, false, false, false, false, false, false, false, true] (Is.keeps _) (by kernel_rfl)
    · intro w1 h1
      simp only [List.nil_append, List.cons_append, Given]
      rintro _ rfl
      go_wp2_with fail
      exact Post.isv (Ext.refl _) rfl rfl rfl
    -- 19: Op.call { value (Operand.func 36), args := #[t28, t29], argTypes := #[24, 3] }   [guarded: some (14,
    apply Stage.step (Is _) [false, false, false, false, false, false, false, false, false, false, false, false, false, false, true, false, false, true, true] (Is.keeps _) (by kernel_rfl)
    · intro w1 h1
      simp only [List.nil_append, List.cons_append, Given]
      rintro _ rfl
      rintro _ rfl
      rintro _ rfl
      go_wp2_with fail
      first
        | exact Post.isv (Ext.refl _) rfl rfl rfl
        | (refine (chain_Of (l3.ext tg_rep h1) HO).mono ?_
           rintro e w2 ⟨rfl, hx2⟩
           go_wp2_with fail
           exact Post.isv hx2 rfl rfl rfl)
    -- 20: Op.binOp BinOp.neq 3 t27 t30 3   [guarded: some (14, false)]
    apply Stage.step (Is _) [false, false, false, false, false, false, false, false, false, false, false, false, false, false, true, false, true, false, false, true] (Is.keeps _) (by kernel_rfl)
    · intro w1 h1
      simp only [List.nil_append, List.cons_append, Given]
      rintro _ rfl
      rintro _ rfl
      rintro _ rfl
      go_wp2_with fail
      exact Post.isv (Ext.refl _) rfl rfl rfl
    -- 21: Op.pick t25 (const (Value.bool true)) t31
    apply Stage.step (Is _) [false, false, false, false, false, false, false, false, false, false, false, false, false, false, true, false, false, false, false, false, true] (Is.keeps _) (by kernel_rfl)
    · intro w1 h1
      simp only [List.nil_append, List.cons_append, Given]
      rintro _ rfl
      rintro _ rfl
      go_wp2_with fail
      exact Post.isv (Ext.refl _) rfl rfl rfl
    apply Stage.nil
    intro w1 h1
    simp only [List.nil_append, List.cons_append]
    refine Fin.is_ ?_
    refine Fin.is_ ?_
    refine Fin.is_ ?_
    refine Fin.is_ ?_
    refine Fin.is_ ?_
    refine Fin.is_ ?_
    refine Fin.is_ ?_
    refine Fin.is_ ?_
    refine Fin.is_ ?_
    refine Fin.is_ ?_
    refine Fin.is_ ?_
    refine Fin.is_ ?_
    refine Fin.is_ ?_
    refine Fin.is_ ?_
    refine Fin.is_ ?_
    refine Fin.is_ ?_
    refine Fin.is_ ?_
    refine Fin.is_ ?_
    refine Fin.is_ ?_
    refine Fin.is_ ?_
    refine Fin.is_ ?_
    refine Fin.is_ ?_
    refine Fin.nil_ ?_
    go_simp
    have hq := h1.cell c2
    go_wp2_with fail
    refine (event_Get (hd.ext (g0.trans h1)) hn hev HG).mono ?_
    rintro e w2 ⟨A2, n2, c2, rfl, hb2, hx2⟩
    cases r
    · go_wp2_with fail
      go_ret
      exact ⟨rfl, ((g0.trans h1).trans hx2).trans (Ext.alloc _ _)⟩
    · go_wp2_with fail
      go_ret
      exact ⟨rfl, ((g0.trans h1).trans hx2).trans (Ext.alloc _ _)⟩

set_option maxHeartbeats 2000000 in
theorem verdict_Ripe {A : Option Addr} {n c : Nat} {xs : List En} {w : World} (l1 : Lst 3 enR w A n c xs) (hn : n ≤ 1000000) (hxs : ∀ x ∈ xs, x.d.length ≤ 1000) {r : Nat} (hr : Hid (ripeL xs = r)) :
    Calls Try.prog 22 #[.slice A n c] w fun e w' => e = .returned (.int .i64 r) ∧ Ext w w' := by
  have h63 := l1.n63
  go_enter Try.func22, Try.ntmps22
  go_wp2_with fail
  go_loopw [3, 10] (fun v i wr => ∃ k m : Nat, k ≤ n ∧ m ≤ 1000000 ∧ v = .int .i64 m ∧ i = .int .i64 k ∧ Hid (ripeF (xs.drop k) k m = r) ∧ Ext w wr) (fun _ i _ => n - (intOf i).toNat)
  case atStart => exact ⟨0, 0, by omega, by omega, rfl, rfl, by unfold Hid; rw [← hr.out]; simp [ripeL], Ext.refl _⟩
  case round =>
    obtain ⟨k, m, hk, hm, rfl, rfl, hrk, hxr⟩ := hrel
    clear hr
    by_cases hlt : k < n
    · obtain ⟨ga, oa, x, cs, rfl, hx, ⟨Aa, na, ca, rfl, sa0⟩, ha⟩ := l1.at2 en_rep (by omega) hlt
      have a0 : wr.cell? ⟨ga, oa + k * 3, none⟩ = _ := hxr.cell (ha 0 _ rfl)
      have a1 := hxr.cell (ha 1 _ rfl)
      have a2 := hxr.cell (ha 2 _ rfl)
      have sa := sa0.ext hxr
      have hna : na ≤ 1000 := by have := hxs x (List.mem_of_getElem? hx); rw [sa0.len] at this; exact this
      have hY : isF x = true → Hid (ripeF (xs.drop (k + 1)) (k + 1) (k + 1) = r) := fun h => ripe_yes hrk.out hx h
      have hN : isF x = false → Hid (ripeF (xs.drop (k + 1)) (k + 1) m = r) := fun h => ripe_no hrk.out hx h
      obtain ⟨xt, xs', xd⟩ := x
      simp only at a0 a1 a2 sa
      obtain ⟨ev, hev⟩ : ∃ q, evOk xd = q := ⟨_, rfl⟩
      obtain ⟨⟨K, O, M, L, S⟩, hg⟩ : ∃ q, gotE xd = q := ⟨_, rfl⟩
      have HEV := Lib.hid hev
      have HG := Lib.hid hg
      have hKF : ev = true → parK xd = K := fun h => by
        rw [gotE_yes (hev.trans h)] at hg
        injection hg
      have hiF : isF ⟨xt, xs', xd⟩ = (ev && decide (K = 8)) := by
        cases ev with
        | false => simp [isF, hev]
        | true => simp [isF, hev, hKF rfl]
      rw [hiF] at hY hN
      clear hev hg hx ha sa0 hrk hKF hiF
      cases ev with
      | false =>
        replace hN := hN rfl
        clear hY
        go_wp2_with fail
        refine (event_Get (sa.ext (Ext.alloc _ _)) (by omega) HEV HG).mono ?_
        rintro e w2 ⟨A2, n2, c2, rfl, hb2, hx2⟩
        go_wp2_with fail
        go_roundw
        case rel => exact ⟨k + 1, m, by omega, by omega, rfl, by go_num, hN, ((hxr.allocs _).trans hx2).trans (Ext.alloc _ _)⟩
        case measure => simp [intOf]; omega
      | true =>
        by_cases hK : K = 8
        · subst hK
          replace hY := hY rfl
          clear hN
          go_wp2_with fail
          refine (event_Get (sa.ext (Ext.alloc _ _)) (by omega) HEV HG).mono ?_
          rintro e w2 ⟨A2, n2, c2, rfl, hb2, hx2⟩
          have d0 := cell_new w2 #[.int .i64 8, .int .i64 O, .int .i64 M, .slice A2 n2 c2, .string S] 63 0
          go_wp2_with fail
          go_roundw
          case rel => exact ⟨k + 1, k + 1, by omega, by omega, by go_num, by go_num, hY, ((hxr.allocs _).trans hx2).trans (Ext.alloc _ _)⟩
          case measure => simp [intOf]; omega
        · replace hN := hN (by simpa using hK)
          have hKq : (K == 8) = false := by simpa using hK
          clear hY
          go_wp2_with fail
          refine (event_Get (sa.ext (Ext.alloc _ _)) (by omega) HEV HG).mono ?_
          rintro e w2 ⟨A2, n2, c2, rfl, hb2, hx2⟩
          have d0 := cell_new w2 #[.int .i64 K, .int .i64 O, .int .i64 M, .slice A2 n2 c2, .string S] 63 0
          go_wp2_with fail
          go_roundw
          case rel => exact ⟨k + 1, m, by omega, by omega, rfl, by go_num, hN, ((hxr.allocs _).trans hx2).trans (Ext.alloc _ _)⟩
          case measure => simp [intOf]; omega
    · have e := ripe_end hrk.out (by rw [l1.len]; omega)
      subst e
      clear hrk
      go_wp2_with fail
      go_ret
      exact ⟨rfl, hxr⟩
set_option maxHeartbeats 2000000 in
theorem ref_Ripe {A : Option Addr} {n c : Nat} {xs : List En} {w : World} (l1 : Lst 3 enR w A n c xs) (hn : n ≤ 1000000) (hxs : ∀ x ∈ xs, x.d.length ≤ 1000) {r : Nat} (hr : Hid (ripeL xs = r)) :
    Calls Try.prog 48 #[.slice A n c] w fun e w' => e = .returned (.int .i64 r) ∧ Ext w w' := by
  have h63 := l1.n63
  go_enter Try.func48, Try.ntmps48
  go_wp2_with fail
  go_loopw [3, 4] (fun v i wr => ∃ k m : Nat, k ≤ n ∧ m ≤ 1000000 ∧ v = .int .i64 m ∧ i = .int .i64 k ∧ Hid (ripeF (xs.drop k) k m = r) ∧ Ext w wr) (fun _ i _ => n - (intOf i).toNat)
  case atStart => exact ⟨0, 0, by omega, by omega, rfl, rfl, by unfold Hid; rw [← hr.out]; simp [ripeL], Ext.refl _⟩
  case round =>
    obtain ⟨k, m, hk, hm, rfl, rfl, hrk, hxr⟩ := hrel
    clear hr
    by_cases hlt : k < n
    · obtain ⟨ga, oa, x, cs, rfl, hx, ⟨Aa, na, ca, rfl, sa0⟩, ha⟩ := l1.at2 en_rep (by omega) hlt
      have a0 : wr.cell? ⟨ga, oa + k * 3, none⟩ = _ := hxr.cell (ha 0 _ rfl)
      have a1 := hxr.cell (ha 1 _ rfl)
      have a2 := hxr.cell (ha 2 _ rfl)
      have sa := sa0.ext hxr
      have hna : na ≤ 1000 := by have := hxs x (List.mem_of_getElem? hx); rw [sa0.len] at this; exact this
      have hY : isF x = true → Hid (ripeF (xs.drop (k + 1)) (k + 1) (k + 1) = r) := fun h => ripe_yes hrk.out hx h
      have hN : isF x = false → Hid (ripeF (xs.drop (k + 1)) (k + 1) m = r) := fun h => ripe_no hrk.out hx h
      obtain ⟨xt, xs', xd⟩ := x
      simp only at a0 a1 a2 sa
      obtain ⟨ev, hev⟩ : ∃ q, evOk xd = q := ⟨_, rfl⟩
      obtain ⟨⟨K, O, M, L, S⟩, hg⟩ : ∃ q, gotE xd = q := ⟨_, rfl⟩
      have HEV := Lib.hid hev
      have HG := Lib.hid hg
      have hKF : ev = true → parK xd = K := fun h => by
        rw [gotE_yes (hev.trans h)] at hg
        injection hg
      have hiF : isF ⟨xt, xs', xd⟩ = (ev && decide (K = 8)) := by
        cases ev with
        | false => simp [isF, hev]
        | true => simp [isF, hev, hKF rfl]
      rw [hiF] at hY hN
      clear hev hg hx ha sa0 hrk hKF hiF
      cases ev with
      | false =>
        replace hN := hN rfl
        clear hY
        go_wp2_with fail
        refine (ref_GetEvent (sa.ext (Ext.refl _)) (by omega) HEV HG).mono ?_
        rintro e w2 ⟨A2, n2, c2, rfl, hb2, hx2⟩
        go_wp2_with fail
        go_roundw
        case rel => exact ⟨k + 1, m, by omega, by omega, rfl, by go_num, hN, (hxr.trans hx2).trans (Ext.alloc _ _)⟩
        case measure => simp [intOf]; omega
      | true =>
        by_cases hK : K = 8
        · subst hK
          replace hY := hY rfl
          clear hN
          go_wp2_with fail
          refine (ref_GetEvent (sa.ext (Ext.refl _)) (by omega) HEV HG).mono ?_
          rintro e w2 ⟨A2, n2, c2, rfl, hb2, hx2⟩
          have d0 := cell_new w2 #[.int .i64 8, .int .i64 O, .int .i64 M, .slice A2 n2 c2, .string S] 63 0
          go_wp2_with fail
          go_roundw
          case rel => exact ⟨k + 1, k + 1, by omega, by omega, by go_num, by go_num, hY, (hxr.trans hx2).trans (Ext.alloc _ _)⟩
          case measure => simp [intOf]; omega
        · replace hN := hN (by simpa using hK)
          have hKq : (K == 8) = false := by simpa using hK
          clear hY
          go_wp2_with fail
          refine (ref_GetEvent (sa.ext (Ext.refl _)) (by omega) HEV HG).mono ?_
          rintro e w2 ⟨A2, n2, c2, rfl, hb2, hx2⟩
          have d0 := cell_new w2 #[.int .i64 K, .int .i64 O, .int .i64 M, .slice A2 n2 c2, .string S] 63 0
          go_wp2_with fail
          go_roundw
          case rel => exact ⟨k + 1, m, by omega, by omega, rfl, by go_num, hN, (hxr.trans hx2).trans (Ext.alloc _ _)⟩
          case measure => simp [intOf]; omega
    · have e := ripe_end hrk.out (by rw [l1.len]; omega)
      subst e
      clear hrk
      go_wp2_with fail
      go_ret
      exact ⟨rfl, hxr⟩

theorem take_step {α : Type} {xs : List α} {k : Nat} {x : α} (hx : xs[k]? = some x) : xs.take k ++ [x] = xs.take (k + 1) := by rw [List.take_add_one, hx]; rfl
set_option maxHeartbeats 4000000 in
theorem verdict_More {A : Option Addr} {n c : Nat} {xs : List En} {A' : Option Addr} {n' c' : Nat} {ys : List En} {e to : Int} {At : Option Addr} {nt ct : Nat} {tags : List Tg} {w : World} (l1 : Lst 3 enR w A n c xs) (l2 : Lst 3 enR w A' n' c' ys) (l3 : Lst 4 tgR w At nt ct tags)
    (hn : n ≤ 50) (hn' : n' ≤ 50) (hxs : ∀ x ∈ xs, x.d.length ≤ 1000) (hys : ∀ x ∈ ys, x.d.length ≤ 1000) (hyb : ∀ x ∈ ys, enB x) (he : Hid (-9223372036854775808 ≤ e ∧ e ≤ 9223372036854775807)) {R : List En} (hR : Hid (moreF tags e to xs ys = R)) :
    Calls Try.prog 46 #[.slice A n c, .int .i64 e, .slice A' n' c', .slice At nt ct, .int .i64 to] w fun e w' => ∃ A3 n3 c3, e = .returned (.slice A3 n3 c3) ∧ OwnL TEn 3 enR w' w.heap.size A3 n3 c3 R ∧ Ext w w' := by
  have h63 := l1.n63
  have h63' := l2.n63
  obtain ⟨i0, hi0, hz0, hz1, hz2⟩ := info_parts info_en
  have hmk := run_makeSlice (P := Try.prog) w 32 TEn i0 _ under_ens hi0 hz0 .i64 .i64 0 ((n : Int) + (n' : Int)) (by omega) (by omega) (by rw [hz1]; omega) (by rw [hz2]; omega) (by omega)
  rw [hz1, show ((n : Int) + (n' : Int)).toNat = n + n' by omega, show (0 : Int).toNat = 0 from rfl] at hmk
  obtain ⟨C, hC⟩ : ∃ C, madeCells (Value.agg #[.int .i64 0, .int .i64 0, .slice none 0 0]).cells ((n + n') * 3) = C := ⟨_, rfl⟩
  have hCs : C.size = (n + n') * 3 := by rw [← hC]; simp [madeCells]
  rw [hC] at hmk
  have ho0 : OwnL TEn 3 enR (w.alloc (.cells C TEn)) w.heap.size (some ⟨w.heap.size, 0, none⟩) 0 (n + n') [] := ⟨rfl, [], .nil, by simpa using Own.made w w.heap.size TEn 3 C 0 (n + n') (Nat.le_refl _) (by omega) (by simp only [maxLen]; omega) hCs, by simp⟩
  go_enter Try.func46, Try.ntmps46
  go_wp2_with fail
  go_loopw [11, 24] (fun v i wr => ∃ (k : Nat) (Ak : Option Addr) (ck : Nat), k ≤ n ∧ v = .slice Ak k ck ∧ i = .int .i64 k ∧ OwnL TEn 3 enR wr w.heap.size Ak k ck (xs.take k) ∧ Ext w wr) (fun _ i _ => n - (intOf i).toNat)
  case atStart => exact ⟨0, _, _, by omega, rfl, rfl, ho0, Ext.alloc _ _⟩
  case round =>
    obtain ⟨k, Ak, ck, hk, rfl, rfl, hown, hxr⟩ := hrel
    clear hmk ho0 hC hCs
    by_cases hlt : k < n
    · obtain ⟨ga, oa, x, cs, rfl, hx, ⟨Aa, na, ca, rfl, sa0⟩, ha⟩ := l1.at2 en_rep (by omega) hlt
      have a0 : wr.cell? ⟨ga, oa + k * 3, none⟩ = _ := hxr.cell (ha 0 _ rfl)
      have a1 := hxr.cell (ha 1 _ rfl)
      have a2 := hxr.cell (ha 2 _ rfl)
      have sa := sa0.ext hxr
      have hna : na ≤ 1000 := by have := hxs x (List.mem_of_getElem? hx); rw [sa0.len] at this; exact this
      have HT := Lib.hid (take_step hx)
      obtain ⟨xt, xs', xd⟩ := x
      simp only at a0 a1 a2 sa
      clear hx ha sa0
      go_wp2_with fail
      have d0 := cell_new wr #[.int .i64 xt, .int .i64 xs', .slice Aa na ca] 39 0
      refine (verdict_copied (sa.ext (Ext.alloc _ _)) (by omega)).mono ?_
      rintro e1 w2 ⟨A2, c2, rfl, hb2, hx2⟩
      have hx3 : Ext w w2 := (hxr.allocs _).trans hx2
      have hown2 := hown.ext en_rep ((Ext.alloc _ _).trans hx2)
      have hfd := Feed.lit (P := Try.prog) (e := 39) (tx := 32) (A := Ak) (c := ck) en_rep #[.int .i64 xt, .int .i64 xs', .slice A2 na c2] ⟨xt, xs', xd⟩ ⟨A2, na, c2, rfl, hb2.sl⟩ under_ens (fun j hj e => by
        obtain ⟨ad, q1, q2, q3⟩ := pts_en hj
        have h4 := hb2.fr ad q1 q2
        have h5 := (hown.row_lt j e).2
        have h6 := (Ext.alloc wr (.cells #[.int .i64 xt, .int .i64 xs', .slice Aa na ca] 39)).size
        omega) rfl
      clear a0 a1 a2
      go_wp2_with (
        at_builtin
        refine wpList_append_lst (w0 := w) en_rep rfl _ _ _ _ rfl TEn i0 _ 40 under_ens hi0 hz0 hz1 hz2 rfl Ak k ck _ rfl (hown2.ext en_rep (Ext.alloc _ _)) _ 1 [⟨xt, xs', xd⟩] rfl hfd (k + 1) rfl _ HT.out (by simp only [maxLen]; omega) (by omega) (hx3.allocs _) ?_
        intro A3 c3 w3 hb3 hx4)
      go_wp2_with fail
      go_roundw
      case rel => exact ⟨k + 1, A3, c3, by omega, rfl, by go_num, hb3, hx4⟩
      case measure => simp [intOf]; omega
    · obtain rfl : n = k := by omega
      have hown1 : OwnL TEn 3 enR wr w.heap.size Ak n ck xs := by
        have := hown
        rwa [List.take_of_length_le (by rw [l1.len]; exact Nat.le_refl _)] at this
      clear hown
      have hxr0 := hxr
      clear hxr
      go_wp2_with fail
      go_loopw [11, 36] (fun v i wr => ∃ (k m : Nat) (Ak : Option Addr) (ck : Nat) (out : List En), k ≤ n' ∧ m ≤ n + k ∧ v = .slice Ak m ck ∧ i = .int .i64 k ∧ OwnL TEn 3 enR wr w.heap.size Ak m ck out ∧ Hid (moreF tags e to out (ys.drop k) = R) ∧ Ext w wr) (fun _ i _ => n' - (intOf i).toNat)
      case atStart => exact ⟨0, n, _, _, xs, by omega, by omega, rfl, rfl, hown1, by unfold Hid; rw [List.drop_zero]; exact hR.out, hxr0⟩
      case round =>
        obtain ⟨k, m, Ak, ck, out, hk, hm, rfl, rfl, hown, hrk, hxr⟩ := hrel
        clear hR hown1 hxr0
        have hol := hown.len
        by_cases hlt : k < n'
        · obtain ⟨ga, oa, x, cs, rfl, hx, ⟨Aa, na, ca, rfl, sa0⟩, ha⟩ := l2.at2 en_rep (by omega) hlt
          have a0 : wr.cell? ⟨ga, oa + k * 3, none⟩ = _ := hxr.cell (ha 0 _ rfl)
          have a1 := hxr.cell (ha 1 _ rfl)
          have a2 := hxr.cell (ha 2 _ rfl)
          have sa := sa0.ext hxr
          by_cases h18 : m < 18
          case neg =>
            obtain rfl := more_full hrk.out (by rw [hol]; exact h18)
            clear ha hx hrk
            go_wp2_with fail
            go_ret
            exact ⟨_, _, _, rfl, hown.ext en_rep (Ext.alloc _ _), hxr.trans (Ext.alloc _ _)⟩
          have hna : na ≤ 1000 := by have := hys x (List.mem_of_getElem? hx); rw [sa0.len] at this; exact this
          have hB := hyb x (List.mem_of_getElem? hx)
          obtain ⟨s1, hs1⟩ : ∃ q, wrap64 (e + (m : Int)) = q := ⟨_, rfl⟩
          obtain ⟨s2, hs2⟩ : ∃ q, wrap64 (s1 + 1) = q := ⟨_, rfl⟩
          have hgo := wrap_go (by omega) he hs1 hs2 tags to x
          have hY : goB tags to s2 x = true → Hid (moreF tags e to (out ++ [x]) (ys.drop (k + 1)) = R) := fun h => more_yes hrk.out hx (by rw [hol]; exact h18) (by rw [hol, ← hgo]; exact h)
          have hN : goB tags to s2 x = false → Hid (R = out) := fun h => more_no hrk.out hx (by rw [hol, ← hgo]; exact h)
          obtain ⟨r, hr⟩ : ∃ q, goB tags to s2 x = q := ⟨_, rfl⟩
          have HR := Lib.hid hr
          rw [hr] at hY hN
          have HB := Lib.hid hB
          obtain ⟨xt, xs', xd⟩ := x
          simp only at a0 a1 a2 sa
          clear hx ha sa0 hgo hr hB hrk hol
          cases r with
          | false =>
            obtain rfl := (hN rfl).out
            clear hY hN
            go_wp2_with fail
            refine (verdict_goes (sa.ext (Ext.alloc _ _)) (by omega) HB ((l3.ext tg_rep hxr).ext tg_rep (Ext.alloc _ _)) HR).mono ?_
            rintro e1 w2 ⟨rfl, hx2⟩
            go_wp2_with fail
            go_ret
            exact ⟨_, _, _, rfl, (hown.ext en_rep (Ext.alloc _ _)).ext en_rep hx2, (hxr.allocs _).trans hx2⟩
          | true =>
            replace hY := hY rfl
            clear hN
            go_wp2_with fail
            refine (verdict_goes (sa.ext (Ext.alloc _ _)) (by omega) HB ((l3.ext tg_rep hxr).ext tg_rep (Ext.alloc _ _)) HR).mono ?_
            rintro e1 w2 ⟨rfl, hx2⟩
            have d0 := hx2.cell (cell_new wr #[.int .i64 xt, .int .i64 xs', .slice Aa na ca] 39 0)
            have d1 := hx2.cell (cell_new wr #[.int .i64 xt, .int .i64 xs', .slice Aa na ca] 39 1)
            have d2 := hx2.cell (cell_new wr #[.int .i64 xt, .int .i64 xs', .slice Aa na ca] 39 2)
            have hx3 : Ext w w2 := (hxr.allocs _).trans hx2
            have hown2 := hown.ext en_rep ((Ext.alloc _ _).trans hx2)
            clear a0 a1 a2
            go_wp2_with fail
            refine (verdict_copied ((sa.ext (Ext.alloc _ _)).ext hx2) (by omega)).mono ?_
            rintro e1 w3 ⟨A2, c2, rfl, hb2, hx4⟩
            have hfd := Feed.lit (P := Try.prog) (e := 39) (tx := 32) (A := Ak) (c := ck) en_rep #[.int .i64 xt, .int .i64 xs', .slice A2 na c2] ⟨xt, xs', xd⟩ ⟨A2, na, c2, rfl, hb2.sl⟩ under_ens (fun j hj e => by
              obtain ⟨ad, q1, q2, q3⟩ := pts_en hj
              have h4 := hb2.fr ad q1 q2
              have h5 := (hown2.row_lt j e).2
              omega) rfl
            clear d0 d1 d2
            go_wp2_with (
              at_builtin
              refine wpList_append_lst (w0 := w) en_rep rfl _ _ _ _ rfl TEn i0 _ 40 under_ens hi0 hz0 hz1 hz2 rfl Ak m ck _ rfl ((hown2.ext en_rep hx4).ext en_rep (Ext.alloc _ _)) _ 1 [⟨xt, xs', xd⟩] rfl hfd (m + 1) rfl _ rfl (by simp only [maxLen]; omega) (by omega) ((hx3.trans hx4).allocs _) ?_
              intro A3 c3 w4 hb3 hx5)
            go_wp2_with fail
            go_roundw
            case rel => exact ⟨k + 1, m + 1, A3, c3, _, by omega, by omega, rfl, by go_num, hb3, hY, hx5⟩
            case measure => simp [intOf]; omega
        · obtain rfl := more_end hrk.out (by rw [l2.len]; omega)
          clear hrk
          go_wp2_with fail
          go_ret
          exact ⟨_, _, _, rfl, hown, hxr⟩

theorem Sl.lt_old {w : World} {A : Option Addr} {n c : Nat} {l : List UInt8} (h : Sl w A n c l) {e : TypeId} {size : Nat} {α : Type} {R : α → List Value → World → Prop} {w' : World} {Ao : Option Addr} {m co : Nat} {xs : List α} (ho : OwnL e size R w' w.heap.size Ao m co xs) {ad : Addr} (h1 : A = some ad) (h2 : 0 < n) {j : Nat} (hj : ad.block = j) (e2 : rowOf Ao co = some j) : False := by
  have h3 := h.blk ad h1 h2
  have h4 := (ho.row_lt j e2).1
  omega
set_option maxHeartbeats 8000000 in
theorem ref_More {A : Option Addr} {n c : Nat} {xs : List En} {A' : Option Addr} {n' c' : Nat} {ys : List En} {e to : Int} {At : Option Addr} {nt ct : Nat} {tags : List Tg} {w : World} (l1 : Lst 3 enR w A n c xs) (l2 : Lst 3 enR w A' n' c' ys) (l3 : Lst 4 tgR w At nt ct tags)
    (hn : n ≤ 50) (hn' : n' ≤ 50) (hys : ∀ x ∈ ys, x.d.length ≤ 1000) {R : List En} (hR : Hid (moreF tags e to xs ys = R)) :
    Calls Try.prog 47 #[.slice A n c, .int .i64 e, .slice A' n' c', .slice At nt ct, .int .i64 to] w fun e w' => ∃ A3 n3 c3, e = .returned (.slice A3 n3 c3) ∧ OwnL TEn 3 enR w' w.heap.size A3 n3 c3 R ∧ Ext w w' := by
  have h63 := l1.n63
  have h63' := l2.n63
  obtain ⟨i0, hi0, hz0, hz1, hz2⟩ := info_parts info_en
  go_enter Try.func47, Try.ntmps47
  have hfd0 := Feed.old (P := Try.prog) (tx := 32) (w := w.alloc (.cells #[] TEn)) en_rep (OwnL.nil (size := 3) (R := enR) TEn (w.alloc (.cells #[] TEn)) w.heap.size (some ⟨w.heap.size, 0, none⟩)) l1 (Ext.alloc _ _) under_ens
  go_wp2_with (
    at_builtin
    refine wpList_append_lst (w0 := w) en_rep rfl _ _ _ _ rfl TEn i0 _ 40 under_ens hi0 hz0 hz1 hz2 rfl _ 0 0 [] rfl (OwnL.nil _ _ _ _) _ n xs rfl hfd0 n (by omega) xs rfl (by simp only [maxLen]; omega) (by omega) (Ext.alloc _ _) ?_
    intro A1 c1 w1 hb1 hx1)
  clear hfd0
  go_wp2_with fail
  go_loopw [11, 12] (fun v i wr => ∃ (k m : Nat) (Ak : Option Addr) (ck : Nat) (out : List En), k ≤ n' ∧ m ≤ n + k ∧ v = .slice Ak m ck ∧ i = .int .i64 k ∧ OwnL TEn 3 enR wr w.heap.size Ak m ck out ∧ Hid (moreF tags e to out (ys.drop k) = R) ∧ Ext w wr) (fun _ i _ => n' - (intOf i).toNat)
  case atStart => exact ⟨0, n, _, _, xs, by omega, by omega, rfl, rfl, hb1, by unfold Hid; rw [List.drop_zero]; exact hR.out, hx1⟩
  case round =>
    obtain ⟨k, m, Ak, ck, out, hk, hm, rfl, rfl, hown, hrk, hxr⟩ := hrel
    clear hR hb1 hx1
    have hol := hown.len
    by_cases hlt : k < n'
    case neg =>
      obtain rfl := more_end hrk.out (by rw [l2.len]; omega)
      clear hrk
      go_wp2_with fail
      go_ret
      exact ⟨_, _, _, rfl, hown, hxr⟩
    by_cases h18 : m < 18
    case neg =>
      obtain rfl := more_full hrk.out (by rw [hol]; exact h18)
      clear hrk
      go_wp2_with fail
      go_ret
      exact ⟨_, _, _, rfl, hown, hxr⟩
    obtain ⟨ga, oa, x, cs, rfl, hx, ⟨Aa, na, ca, rfl, sa0⟩, ha⟩ := l2.at2 en_rep (by omega) hlt
    have a0 : wr.cell? ⟨ga, oa + k * 3, none⟩ = _ := hxr.cell (ha 0 _ rfl)
    have a1 := hxr.cell (ha 1 _ rfl)
    have a2 := hxr.cell (ha 2 _ rfl)
    have sa := sa0.ext hxr
    have hna : na ≤ 1000 := by have := hys x (List.mem_of_getElem? hx); rw [sa0.len] at this; exact this
    have hna63 : na ≤ 9223372036854775807 := by omega
    have hdl := sa0.len
    have hY : goB tags to (e + (m : Int) + 1) x = true → Hid (moreF tags e to (out ++ [x]) (ys.drop (k + 1)) = R) := fun h => more_yes hrk.out hx (by rw [hol]; exact h18) (by rw [hol]; exact h)
    have hN : goB tags to (e + (m : Int) + 1) x = false → Hid (R = out) := fun h => more_no hrk.out hx (by rw [hol]; exact h)
    obtain ⟨r, hr⟩ : ∃ q, goB tags to (e + (m : Int) + 1) x = q := ⟨_, rfl⟩
    rw [hr] at hY hN
    obtain ⟨xt, xs', xd⟩ := x
    simp only at a0 a1 a2 sa hdl
    obtain ⟨rr, hrr⟩ : ∃ q, rightN xt xs' na = q := ⟨_, rfl⟩
    obtain ⟨og, hog⟩ : ∃ q, ofI tags xs' 0 = q := ⟨_, rfl⟩
    have HO := Lib.hid hog
    obtain ⟨ev, hev⟩ : ∃ q, evOk xd = q := ⟨_, rfl⟩
    obtain ⟨⟨K, O, M, L, S⟩, hg⟩ : ∃ q, gotE xd = q := ⟨_, rfl⟩
    have HG := Lib.hid hg
    have HE := Lib.hid hev
    have hp : ∀ j, Pts [.int .i64 xt, .int .i64 xs', .slice Aa na ca] j → rowOf Ak ck ≠ some j := fun j hj e => by
      obtain ⟨ad, q1, q2, q3⟩ := pts_en hj
      exact sa0.lt_old hown q1 q2 q3 e
    obtain ⟨er, her⟩ : ∃ q : Int, (if ev = true then (0 : Int) else 2) = q := ⟨_, rfl⟩
    have HER := Lib.hid her
    clear hg hx ha sa0 hrk hol
    cases rr with
    | false =>
      obtain rfl : r = false := by rw [← hr]; exact goB_no (fun hc => by have := hc.2.1; simp only [hdl] at this; rw [hrr] at this; cases this)
      obtain rfl := (hN rfl).out
      clear hN her
      clear hY hog hr
      go_wp2_with fail
      refine (ref_GetEvent (sa.ext (Ext.alloc _ _)) (by omega) HE HG).mono ?_
      rintro e1 w2 ⟨A2, n2, c2, rfl, hb2, hx2⟩
      have hx3 : Ext w (w2.alloc (.cells #[.int .i64 K, .int .i64 O, .int .i64 M, .slice A2 n2 c2, .string S] 63)) := ((hxr.allocs _).trans hx2).allocs _
      have d0 := (Ext.alloc w2 (.cells #[.int .i64 K, .int .i64 O, .int .i64 M, .slice A2 n2 c2, .string S] 63)).cell (hx2.cell (cell_new wr #[.int .i64 xt, .int .i64 xs', .slice Aa na ca] 39 0))
      have d1 := (Ext.alloc w2 (.cells #[.int .i64 K, .int .i64 O, .int .i64 M, .slice A2 n2 c2, .string S] 63)).cell (hx2.cell (cell_new wr #[.int .i64 xt, .int .i64 xs', .slice Aa na ca] 39 1))
      have d2 := (Ext.alloc w2 (.cells #[.int .i64 K, .int .i64 O, .int .i64 M, .slice A2 n2 c2, .string S] 63)).cell (hx2.cell (cell_new wr #[.int .i64 xt, .int .i64 xs', .slice Aa na ca] 39 2))
      have hown2 := (hown.ext en_rep ((Ext.alloc _ _).trans hx2)).ext en_rep (Ext.alloc w2 (.cells #[.int .i64 K, .int .i64 O, .int .i64 M, .slice A2 n2 c2, .string S] 63))
      have l3' := l3.ext tg_rep hx3
      clear a0 a1 a2
      rw [HER.out]
      go_wp2_with fail
      refine wp_region_typed Ext.steady rfl 77 rfl (by kernel_rfl) ?_
      -- 0: Op.load 39 t13
      apply Stage.step (Is _) [] (Is.keeps _) (by kernel_rfl)
      · intro w1 h1
        simp only [Given]
        have hq0 := h1.cell d0
        have hq1 := h1.cell d1
        have hq2 := h1.cell d2
        go_wp2_with fail
        exact Post.isv (Ext.refl _) rfl rfl rfl
      -- 1: Op.call { value (Operand.func 65), args := #[t40], argTypes := #[39] }
      apply Stage.step (Is _) [true] (Is.keeps _) (by kernel_rfl)
      · intro w1 h1
        simp only [List.nil_append, Given]
        rintro _ rfl
        go_wp2_with fail
        refine (ref_RightEntry xt xs' Aa na ca _ hna63).mono ?_
        rintro e w2 ⟨rfl, hx2⟩
        rw [hrr]
        go_wp2_with fail
        exact Post.isv hx2 rfl rfl rfl
      -- 2: Op.unOp UnOp.not 4 t41
      apply Stage.step (Is _) [false, true] (Is.keeps _) (by kernel_rfl)
      · intro w1 h1
        simp only [List.nil_append, List.cons_append, Given]
        rintro _ rfl
        go_wp2_with fail
        exact Post.isv (Ext.refl _) rfl rfl rfl
      -- 3: Op.move t42
      apply Stage.step (Is _) [false, false, true] (Is.keeps _) (by kernel_rfl)
      · intro w1 h1
        simp only [List.nil_append, List.cons_append, Given]
        rintro _ rfl
        go_wp2_with fail
        exact Post.isv (Ext.refl _) rfl rfl rfl
      -- 4: Op.fieldAddr 39 t13 1   [guarded: some (3, false)]
      apply Stage.step (Is _) [false, false, false, true] (Is.keeps _) (by kernel_rfl)
      · intro w1 h1
        simp only [List.nil_append, List.cons_append, Given]
        rintro _ rfl
        go_wp2_with fail
        exact Post.isv (Ext.refl _) rfl rfl rfl
      -- 5: Op.load 3 t44   [guarded: some (3, false)]
      apply Stage.step (Is _) [false, false, false, true, true] (Is.keeps _) (by kernel_rfl)
      · intro w1 h1
        simp only [List.nil_append, List.cons_append, Given]
        rintro _ rfl
        rintro _ rfl
        have hq := h1.cell d1
        go_wp2_with fail
        exact Post.isv (Ext.refl _) rfl rfl rfl
      -- 6: Op.move t11   [guarded: some (3, false)]
      apply Stage.step (Is _) [false, false, false, true] (Is.keeps _) (by kernel_rfl)
      · intro w1 h1
        simp only [List.nil_append, List.cons_append, Given]
        rintro _ rfl
        go_wp2_with fail
        exact Post.isv (Ext.refl _) rfl rfl rfl
      -- 7: Op.call { builtin len, args := #[t46], argTypes := #[32] }   [guarded: some (3, false)]
      apply Stage.step (Is _) [false, false, false, true, false, false, true] (Is.keeps _) (by kernel_rfl)
      · intro w1 h1
        simp only [List.nil_append, List.cons_append, Given]
        rintro _ rfl
        rintro _ rfl
        go_wp2_with fail
        exact Post.isv (Ext.refl _) rfl rfl rfl
      -- 8: Op.binOp BinOp.sub 3 t45 t47 3   [guarded: some (3, false)]
      apply Stage.step (Is _) [false, false, false, true, false, true, false, true] (Is.keeps _) (by kernel_rfl)
      · intro w1 h1
        simp only [List.nil_append, List.cons_append, Given]
        rintro _ rfl
        rintro _ rfl
        rintro _ rfl
        go_wp2_with fail
        exact Post.isv (Ext.refl _) rfl rfl rfl
      -- 9: Op.binOp BinOp.sub 3 t48 (const (1:i64)) 3   [guarded: some (3, false)]
      apply Stage.step (Is _) [false, false, false, true, false, false, false, false, true] (Is.keeps _) (by kernel_rfl)
      · intro w1 h1
        simp only [List.nil_append, List.cons_append, Given]
        rintro _ rfl
        rintro _ rfl
        go_wp2_with fail
        exact Post.isv (Ext.refl _) rfl rfl rfl
      -- 10: Op.move t1   [guarded: some (3, false)]
      apply Stage.step (Is _) [false, false, false, true] (Is.keeps _) (by kernel_rfl)
      · intro w1 h1
        simp only [List.nil_append, List.cons_append, Given]
        rintro _ rfl
        go_wp2_with fail
        exact Post.isv (Ext.refl _) rfl rfl rfl
      -- 11: Op.binOp BinOp.neq 3 t49 t50 3   [guarded: some (3, false)]
      apply Stage.step (Is _) [false, false, false, true, false, false, false, false, false, true, true] (Is.keeps _) (by kernel_rfl)
      · intro w1 h1
        simp only [List.nil_append, List.cons_append, Given]
        rintro _ rfl
        rintro _ rfl
        rintro _ rfl
        go_wp2_with fail
        exact Post.isv (Ext.refl _) rfl rfl rfl
      -- 12: Op.pick t43 (const (Value.bool true)) t51
      apply Stage.step (Is _) [false, false, false, true, false, false, false, false, false, false, false, true] (Is.keeps _) (by kernel_rfl)
      · intro w1 h1
        simp only [List.nil_append, List.cons_append, Given]
        rintro _ rfl
        rintro _ rfl
        go_wp2_with fail
        exact Post.isv (Ext.refl _) rfl rfl rfl
      -- 13: Op.move t52
      apply Stage.step (Is _) [false, false, false, false, false, false, false, false, false, false, false, false, true] (Is.keeps _) (by kernel_rfl)
      · intro w1 h1
        simp only [List.nil_append, List.cons_append, Given]
        rintro _ rfl
        go_wp2_with fail
        exact Post.isv (Ext.refl _) rfl rfl rfl
      -- 14: Op.fieldAddr 39 t13 1   [guarded: some (13, false)]
      apply Stage.step (Is _) [false, false, false, false, false, false, false, false, false, false, false, false, false, true] (Is.keeps _) (by kernel_rfl)
      · intro w1 h1
        simp only [List.nil_append, List.cons_append, Given]
        rintro _ rfl
        go_wp2_with fail
        exact Post.isv (Ext.refl _) rfl rfl rfl
      -- 15: Op.load 3 t54   [guarded: some (13, false)]
      apply Stage.step (Is _) [false, false, false, false, false, false, false, false, false, false, false, false, false, true, true] (Is.keeps _) (by kernel_rfl)
      · intro w1 h1
        simp only [List.nil_append, List.cons_append, Given]
        rintro _ rfl
        rintro _ rfl
        have hq := h1.cell d1
        go_wp2_with fail
        exact Post.isv (Ext.refl _) rfl rfl rfl
      -- 16: Op.move t4   [guarded: some (13, false)]
      apply Stage.step (Is _) [false, false, false, false, false, false, false, false, false, false, false, false, false, true] (Is.keeps _) (by kernel_rfl)
      · intro w1 h1
        simp only [List.nil_append, List.cons_append, Given]
        rintro _ rfl
        go_wp2_with fail
        exact Post.isv (Ext.refl _) rfl rfl rfl
      -- 17: Op.binOp BinOp.gtr 3 t55 t56 3   [guarded: some (13, false)]
      apply Stage.step (Is _) [false, false, false, false, false, false, false, false, false, false, false, false, false, true, false, true, true] (Is.keeps _) (by kernel_rfl)
      · intro w1 h1
        simp only [List.nil_append, List.cons_append, Given]
        rintro _ rfl
        rintro _ rfl
        rintro _ rfl
        go_wp2_with fail
        exact Post.isv (Ext.refl _) rfl rfl rfl
      -- 18: Op.pick t53 (const (Value.bool true)) t57
      apply Stage.step (Is _) [false, false, false, false, false, false, false, false, false, false, false, false, false, true, false, false, false, true] (Is.keeps _) (by kernel_rfl)
      · intro w1 h1
        simp only [List.nil_append, List.cons_append, Given]
        rintro _ rfl
        rintro _ rfl
        go_wp2_with fail
        exact Post.isv (Ext.refl _) rfl rfl rfl
      -- 19: Op.move t58
      apply Stage.step (Is _) [false, false, false, false, false, false, false, false, false, false, false, false, false, false, false, false, false, false, true] (Is.keeps _) (by kernel_rfl)
      · intro w1 h1
        simp only [List.nil_append, List.cons_append, Given]
        rintro _ rfl
        go_wp2_with fail
        exact Post.isv (Ext.refl _) rfl rfl rfl
      -- 20: Op.fieldAddr 39 t13 0   [guarded: some (19, false)]
      apply Stage.step (Is _) [false, false, false, false, false, false, false, false, false, false, false, false, false, false, false, false, false, false, false, true] (Is.keeps _) (by kernel_rfl)
      · intro w1 h1
        simp only [List.nil_append, List.cons_append, Given]
        rintro _ rfl
        go_wp2_with fail
        exact Post.isv (Ext.refl _) rfl rfl rfl
      -- 21: Op.load 3 t60   [guarded: some (19, false)]
      apply Stage.step (Is _) [false, false, false, false, false, false, false, false, false, false, false, false, false, false, false, false, false, false, false, true, true] (Is.keeps _) (by kernel_rfl)
      · intro w1 h1
        simp only [List.nil_append, List.cons_append, Given]
        rintro _ rfl
        rintro _ rfl
        have hq := h1.cell d0
        go_wp2_with fail
        exact Post.isv (Ext.refl _) rfl rfl rfl
      -- 22: Op.move t3   [guarded: some (19, false)]
      apply Stage.step (Is _) [false, false, false, false, false, false, false, false, false, false, false, false, false, false, false, false, false, false, false, true] (Is.keeps _) (by kernel_rfl)
      · intro w1 h1
        simp only [List.nil_append, List.cons_append, Given]
        rintro _ rfl
        go_wp2_with fail
        exact Post.isv (Ext.refl _) rfl rfl rfl
      -- 23: Op.fieldAddr 39 t13 1   [guarded: some (19, false)]
      apply Stage.step (Is _) [false, false, false, false, false, false, false, false, false, false, false, false, false, false, false, false, false, false, false, true] (Is.keeps _) (by kernel_rfl)
      · intro w1 h1
        simp only [List.nil_append, List.cons_append, Given]
        rintro _ rfl
        go_wp2_with fail
        exact Post.isv (Ext.refl _) rfl rfl rfl
      -- 24: Op.load 3 t63   [guarded: some (19, false)]
      apply Stage.step (Is _) [false, false, false, false, false, false, false, false, false, false, false, false, false, false, false, false, false, false, false, true, false, false, false, true] (Is.keeps _) (by kernel_rfl)
      · intro w1 h1
        simp only [List.nil_append, List.cons_append, Given]
        rintro _ rfl
        rintro _ rfl
        have hq := h1.cell d1
        go_wp2_with fail
        exact Post.isv (Ext.refl _) rfl rfl rfl
      -- 25: Op.call { value (Operand.func 41), args := #[t62, t64], argTypes := #[24, 3] }   [guarded: some (19,
      apply Stage.step (Is _) [false, false, false, false, false, false, false, false, false, false, false, false, false, false, false, false, false, false, false, true, false, false, true, false, true] (Is.keeps _) (by kernel_rfl)
      · intro w1 h1
        simp only [List.nil_append, List.cons_append, Given]
        rintro _ rfl
        rintro _ rfl
        rintro _ rfl
        go_wp2_with fail
        first
          | exact Post.isv (Ext.refl _) rfl rfl rfl
          | (refine (ref_TagOf (l3'.ext tg_rep h1) HO).mono ?_
             rintro e w2 ⟨rfl, hx2⟩
             go_wp2_with fail
             exact Post.isv hx2 rfl rfl rfl)
      -- 26: Op.binOp BinOp.neq 3 t61 t65 3   [guarded: some (19, false)]
      apply Stage.step (Is _) [false, false, false, false, false, false, false, false, false, false, false, false, false, false, false, false, false, false, false, true, false, true, false, false, false, true] (Is.keeps _) (by kernel_rfl)
      · intro w1 h1
        simp only [List.nil_append, List.cons_append, Given]
        rintro _ rfl
        rintro _ rfl
        rintro _ rfl
        go_wp2_with fail
        exact Post.isv (Ext.refl _) rfl rfl rfl
      -- 27: Op.pick t59 (const (Value.bool true)) t66
      apply Stage.step (Is _) [false, false, false, false, false, false, false, false, false, false, false, false, false, false, false, false, false, false, false, true, false, false, false, false, false, false, true] (Is.keeps _) (by kernel_rfl)
      · intro w1 h1
        simp only [List.nil_append, List.cons_append, Given]
        rintro _ rfl
        rintro _ rfl
        go_wp2_with fail
        exact Post.isv (Ext.refl _) rfl rfl rfl
      -- 28: Op.move t67
      apply Stage.step (Is _) [false, false, false, false, false, false, false, false, false, false, false, false, false, false, false, false, false, false, false, false, false, false, false, false, false, false, false, true] (Is.keeps _) (by kernel_rfl)
      · intro w1 h1
        simp only [List.nil_append, List.cons_append, Given]
        rintro _ rfl
        go_wp2_with fail
        exact Post.isv (Ext.refl _) rfl rfl rfl
      -- 29: Op.move t15   [guarded: some (28, false)]
      apply Stage.step (Is _) [false, false, false, false, false, false, false, false, false, false, false, false, false, false, false, false, false, false, false, false, false, false, false, false, false, false, false, false, true] (Is.keeps _) (by kernel_rfl)
      · intro w1 h1
        simp only [List.nil_append, List.cons_append, Given]
        rintro _ rfl
        go_wp2_with fail
        exact Post.isv (Ext.refl _) rfl rfl rfl
      -- 30: Op.binOp BinOp.neq 41 t69 (const (0:i64)) 41   [guarded: some (28, false)]
      apply Stage.step (Is _) [false, false, false, false, false, false, false, false, false, false, false, false, false, false, false, false, false, false, false, false, false, false, false, false, false, false, false, false, true, true] (Is.keeps _) (by kernel_rfl)
      · intro w1 h1
        simp only [List.nil_append, List.cons_append, Given]
        rintro _ rfl
        rintro _ rfl
        go_wp2_with fail
        exact Post.isv (Ext.refl _) rfl rfl rfl
      -- 31: Op.pick t68 (const (Value.bool true)) t70
      apply Stage.step (Is _) [false, false, false, false, false, false, false, false, false, false, false, false, false, false, false, false, false, false, false, false, false, false, false, false, false, false, false, false, true, false, true] (Is.keeps _) (by kernel_rfl)
      · intro w1 h1
        simp only [List.nil_append, List.cons_append, Given]
        rintro _ rfl
        rintro _ rfl
        go_wp2_with fail
        exact Post.isv (Ext.refl _) rfl rfl rfl
      apply Stage.nil
      intro w1 h1
      simp only [List.nil_append, List.cons_append]
      refine Fin.is_ ?_
      refine Fin.is_ ?_
      refine Fin.is_ ?_
      refine Fin.is_ ?_
      refine Fin.is_ ?_
      refine Fin.is_ ?_
      refine Fin.is_ ?_
      refine Fin.is_ ?_
      refine Fin.is_ ?_
      refine Fin.is_ ?_
      refine Fin.is_ ?_
      refine Fin.is_ ?_
      refine Fin.is_ ?_
      refine Fin.is_ ?_
      refine Fin.is_ ?_
      refine Fin.is_ ?_
      refine Fin.is_ ?_
      refine Fin.is_ ?_
      refine Fin.is_ ?_
      refine Fin.is_ ?_
      refine Fin.is_ ?_
      refine Fin.is_ ?_
      refine Fin.is_ ?_
      refine Fin.is_ ?_
      refine Fin.is_ ?_
      refine Fin.is_ ?_
      refine Fin.is_ ?_
      refine Fin.is_ ?_
      refine Fin.is_ ?_
      refine Fin.is_ ?_
      refine Fin.is_ ?_
      refine Fin.is_ ?_
      refine Fin.nil_ ?_
      go_simp
      go_wp2_with fail
      go_ret
      exact ⟨_, _, _, rfl, hown2.ext en_rep h1, hx3.trans h1⟩
    | true =>
      have hrb := rightN_iff.1 hrr
      have hb1 : 1 ≤ xs' := hrb.2.2.1
      have hb2 : xs' ≤ 1099511627776 := hrb.2.2.2.1
      clear hrb
      by_cases e2 : xs' = e + (m : Int) + 1
      case neg =>
        obtain rfl : r = false := by rw [← hr]; exact goB_no (fun hc => e2 hc.1)
        obtain rfl := (hN rfl).out
        have q2 : (xs' - (m : Int) - 1 != e) = true := by simp; omega
        clear hN hev e2 her
        clear hY hog hr
        go_wp2_with fail
        refine (ref_GetEvent (sa.ext (Ext.alloc _ _)) (by omega) HE HG).mono ?_
        rintro e1 w2 ⟨A2, n2, c2, rfl, hb2, hx2⟩
        have hx3 : Ext w (w2.alloc (.cells #[.int .i64 K, .int .i64 O, .int .i64 M, .slice A2 n2 c2, .string S] 63)) := ((hxr.allocs _).trans hx2).allocs _
        have d0 := (Ext.alloc w2 (.cells #[.int .i64 K, .int .i64 O, .int .i64 M, .slice A2 n2 c2, .string S] 63)).cell (hx2.cell (cell_new wr #[.int .i64 xt, .int .i64 xs', .slice Aa na ca] 39 0))
        have d1 := (Ext.alloc w2 (.cells #[.int .i64 K, .int .i64 O, .int .i64 M, .slice A2 n2 c2, .string S] 63)).cell (hx2.cell (cell_new wr #[.int .i64 xt, .int .i64 xs', .slice Aa na ca] 39 1))
        have d2 := (Ext.alloc w2 (.cells #[.int .i64 K, .int .i64 O, .int .i64 M, .slice A2 n2 c2, .string S] 63)).cell (hx2.cell (cell_new wr #[.int .i64 xt, .int .i64 xs', .slice Aa na ca] 39 2))
        have hown2 := (hown.ext en_rep ((Ext.alloc _ _).trans hx2)).ext en_rep (Ext.alloc w2 (.cells #[.int .i64 K, .int .i64 O, .int .i64 M, .slice A2 n2 c2, .string S] 63))
        have l3' := l3.ext tg_rep hx3
        clear a0 a1 a2
        rw [HER.out]
        go_wp2_with fail
        refine wp_region_typed Ext.steady rfl 77 rfl (by kernel_rfl) ?_
        -- 0: Op.load 39 t13
        apply Stage.step (Is _) [] (Is.keeps _) (by kernel_rfl)
        · intro w1 h1
          simp only [Given]
          have hq0 := h1.cell d0
          have hq1 := h1.cell d1
          have hq2 := h1.cell d2
          go_wp2_with fail
          exact Post.isv (Ext.refl _) rfl rfl rfl
        -- 1: Op.call { value (Operand.func 65), args := #[t40], argTypes := #[39] }
        apply Stage.step (Is _) [true] (Is.keeps _) (by kernel_rfl)
        · intro w1 h1
          simp only [List.nil_append, Given]
          rintro _ rfl
          go_wp2_with fail
          refine (ref_RightEntry xt xs' Aa na ca _ hna63).mono ?_
          rintro e w2 ⟨rfl, hx2⟩
          rw [hrr]
          go_wp2_with fail
          exact Post.isv hx2 rfl rfl rfl
        -- 2: Op.unOp UnOp.not 4 t41
        apply Stage.step (Is _) [false, true] (Is.keeps _) (by kernel_rfl)
        · intro w1 h1
          simp only [List.nil_append, List.cons_append, Given]
          rintro _ rfl
          go_wp2_with fail
          exact Post.isv (Ext.refl _) rfl rfl rfl
        -- 3: Op.move t42
        apply Stage.step (Is _) [false, false, true] (Is.keeps _) (by kernel_rfl)
        · intro w1 h1
          simp only [List.nil_append, List.cons_append, Given]
          rintro _ rfl
          go_wp2_with fail
          exact Post.isv (Ext.refl _) rfl rfl rfl
        -- 4: Op.fieldAddr 39 t13 1   [guarded: some (3, false)]
        apply Stage.step (Is _) [false, false, false, true] (Is.keeps _) (by kernel_rfl)
        · intro w1 h1
          simp only [List.nil_append, List.cons_append, Given]
          rintro _ rfl
          go_wp2_with fail
          exact Post.isv (Ext.refl _) rfl rfl rfl
        -- 5: Op.load 3 t44   [guarded: some (3, false)]
        apply Stage.step (Is _) [false, false, false, true, true] (Is.keeps _) (by kernel_rfl)
        · intro w1 h1
          simp only [List.nil_append, List.cons_append, Given]
          rintro _ rfl
          rintro _ rfl
          have hq := h1.cell d1
          go_wp2_with fail
          exact Post.isv (Ext.refl _) rfl rfl rfl
        -- 6: Op.move t11   [guarded: some (3, false)]
        apply Stage.step (Is _) [false, false, false, true] (Is.keeps _) (by kernel_rfl)
        · intro w1 h1
          simp only [List.nil_append, List.cons_append, Given]
          rintro _ rfl
          go_wp2_with fail
          exact Post.isv (Ext.refl _) rfl rfl rfl
        -- 7: Op.call { builtin len, args := #[t46], argTypes := #[32] }   [guarded: some (3, false)]
        apply Stage.step (Is _) [false, false, false, true, false, false, true] (Is.keeps _) (by kernel_rfl)
        · intro w1 h1
          simp only [List.nil_append, List.cons_append, Given]
          rintro _ rfl
          rintro _ rfl
          go_wp2_with fail
          exact Post.isv (Ext.refl _) rfl rfl rfl
        -- 8: Op.binOp BinOp.sub 3 t45 t47 3   [guarded: some (3, false)]
        apply Stage.step (Is _) [false, false, false, true, false, true, false, true] (Is.keeps _) (by kernel_rfl)
        · intro w1 h1
          simp only [List.nil_append, List.cons_append, Given]
          rintro _ rfl
          rintro _ rfl
          rintro _ rfl
          go_wp2_with fail
          exact Post.isv (Ext.refl _) rfl rfl rfl
        -- 9: Op.binOp BinOp.sub 3 t48 (const (1:i64)) 3   [guarded: some (3, false)]
        apply Stage.step (Is _) [false, false, false, true, false, false, false, false, true] (Is.keeps _) (by kernel_rfl)
        · intro w1 h1
          simp only [List.nil_append, List.cons_append, Given]
          rintro _ rfl
          rintro _ rfl
          go_wp2_with fail
          exact Post.isv (Ext.refl _) rfl rfl rfl
        -- 10: Op.move t1   [guarded: some (3, false)]
        apply Stage.step (Is _) [false, false, false, true] (Is.keeps _) (by kernel_rfl)
        · intro w1 h1
          simp only [List.nil_append, List.cons_append, Given]
          rintro _ rfl
          go_wp2_with fail
          exact Post.isv (Ext.refl _) rfl rfl rfl
        -- 11: Op.binOp BinOp.neq 3 t49 t50 3   [guarded: some (3, false)]
        apply Stage.step (Is _) [false, false, false, true, false, false, false, false, false, true, true] (Is.keeps _) (by kernel_rfl)
        · intro w1 h1
          simp only [List.nil_append, List.cons_append, Given]
          rintro _ rfl
          rintro _ rfl
          rintro _ rfl
          go_wp2_with fail
          exact Post.isv (Ext.refl _) rfl rfl rfl
        -- 12: Op.pick t43 (const (Value.bool true)) t51
        apply Stage.step (Is _) [false, false, false, true, false, false, false, false, false, false, false, true] (Is.keeps _) (by kernel_rfl)
        · intro w1 h1
          simp only [List.nil_append, List.cons_append, Given]
          rintro _ rfl
          rintro _ rfl
          go_wp2_with fail
          exact Post.isv (Ext.refl _) rfl rfl rfl
        -- 13: Op.move t52
        apply Stage.step (Is _) [false, false, false, false, false, false, false, false, false, false, false, false, true] (Is.keeps _) (by kernel_rfl)
        · intro w1 h1
          simp only [List.nil_append, List.cons_append, Given]
          rintro _ rfl
          go_wp2_with fail
          exact Post.isv (Ext.refl _) rfl rfl rfl
        -- 14: Op.fieldAddr 39 t13 1   [guarded: some (13, false)]
        apply Stage.step (Is _) [false, false, false, false, false, false, false, false, false, false, false, false, false, true] (Is.keeps _) (by kernel_rfl)
        · intro w1 h1
          simp only [List.nil_append, List.cons_append, Given]
          rintro _ rfl
          go_wp2_with fail
          exact Post.isv (Ext.refl _) rfl rfl rfl
        -- 15: Op.load 3 t54   [guarded: some (13, false)]
        apply Stage.step (Is _) [false, false, false, false, false, false, false, false, false, false, false, false, false, true, true] (Is.keeps _) (by kernel_rfl)
        · intro w1 h1
          simp only [List.nil_append, List.cons_append, Given]
          rintro _ rfl
          rintro _ rfl
          have hq := h1.cell d1
          go_wp2_with fail
          exact Post.isv (Ext.refl _) rfl rfl rfl
        -- 16: Op.move t4   [guarded: some (13, false)]
        apply Stage.step (Is _) [false, false, false, false, false, false, false, false, false, false, false, false, false, true] (Is.keeps _) (by kernel_rfl)
        · intro w1 h1
          simp only [List.nil_append, List.cons_append, Given]
          rintro _ rfl
          go_wp2_with fail
          exact Post.isv (Ext.refl _) rfl rfl rfl
        -- 17: Op.binOp BinOp.gtr 3 t55 t56 3   [guarded: some (13, false)]
        apply Stage.step (Is _) [false, false, false, false, false, false, false, false, false, false, false, false, false, true, false, true, true] (Is.keeps _) (by kernel_rfl)
        · intro w1 h1
          simp only [List.nil_append, List.cons_append, Given]
          rintro _ rfl
          rintro _ rfl
          rintro _ rfl
          go_wp2_with fail
          exact Post.isv (Ext.refl _) rfl rfl rfl
        -- 18: Op.pick t53 (const (Value.bool true)) t57
        apply Stage.step (Is _) [false, false, false, false, false, false, false, false, false, false, false, false, false, true, false, false, false, true] (Is.keeps _) (by kernel_rfl)
        · intro w1 h1
          simp only [List.nil_append, List.cons_append, Given]
          rintro _ rfl
          rintro _ rfl
          go_wp2_with fail
          exact Post.isv (Ext.refl _) rfl rfl rfl
        -- 19: Op.move t58
        apply Stage.step (Is _) [false, false, false, false, false, false, false, false, false, false, false, false, false, false, false, false, false, false, true] (Is.keeps _) (by kernel_rfl)
        · intro w1 h1
          simp only [List.nil_append, List.cons_append, Given]
          rintro _ rfl
          go_wp2_with fail
          exact Post.isv (Ext.refl _) rfl rfl rfl
        -- 20: Op.fieldAddr 39 t13 0   [guarded: some (19, false)]
        apply Stage.step (Is _) [false, false, false, false, false, false, false, false, false, false, false, false, false, false, false, false, false, false, false, true] (Is.keeps _) (by kernel_rfl)
        · intro w1 h1
          simp only [List.nil_append, List.cons_append, Given]
          rintro _ rfl
          go_wp2_with fail
          exact Post.isv (Ext.refl _) rfl rfl rfl
        -- 21: Op.load 3 t60   [guarded: some (19, false)]
        apply Stage.step (Is _) [false, false, false, false, false, false, false, false, false, false, false, false, false, false, false, false, false, false, false, true, true] (Is.keeps _) (by kernel_rfl)
        · intro w1 h1
          simp only [List.nil_append, List.cons_append, Given]
          rintro _ rfl
          rintro _ rfl
          have hq := h1.cell d0
          go_wp2_with fail
          exact Post.isv (Ext.refl _) rfl rfl rfl
        -- 22: Op.move t3   [guarded: some (19, false)]
        apply Stage.step (Is _) [false, false, false, false, false, false, false, false, false, false, false, false, false, false, false, false, false, false, false, true] (Is.keeps _) (by kernel_rfl)
        · intro w1 h1
          simp only [List.nil_append, List.cons_append, Given]
          rintro _ rfl
          go_wp2_with fail
          exact Post.isv (Ext.refl _) rfl rfl rfl
        -- 23: Op.fieldAddr 39 t13 1   [guarded: some (19, false)]
        apply Stage.step (Is _) [false, false, false, false, false, false, false, false, false, false, false, false, false, false, false, false, false, false, false, true] (Is.keeps _) (by kernel_rfl)
        · intro w1 h1
          simp only [List.nil_append, List.cons_append, Given]
          rintro _ rfl
          go_wp2_with fail
          exact Post.isv (Ext.refl _) rfl rfl rfl
        -- 24: Op.load 3 t63   [guarded: some (19, false)]
        apply Stage.step (Is _) [false, false, false, false, false, false, false, false, false, false, false, false, false, false, false, false, false, false, false, true, false, false, false, true] (Is.keeps _) (by kernel_rfl)
        · intro w1 h1
          simp only [List.nil_append, List.cons_append, Given]
          rintro _ rfl
          rintro _ rfl
          have hq := h1.cell d1
          go_wp2_with fail
          exact Post.isv (Ext.refl _) rfl rfl rfl
        -- 25: Op.call { value (Operand.func 41), args := #[t62, t64], argTypes := #[24, 3] }   [guarded: some (19,
        apply Stage.step (Is _) [false, false, false, false, false, false, false, false, false, false, false, false, false, false, false, false, false, false, false, true, false, false, true, false, true] (Is.keeps _) (by kernel_rfl)
        · intro w1 h1
          simp only [List.nil_append, List.cons_append, Given]
          rintro _ rfl
          rintro _ rfl
          rintro _ rfl
          go_wp2_with fail
          first
            | exact Post.isv (Ext.refl _) rfl rfl rfl
            | (refine (ref_TagOf (l3'.ext tg_rep h1) HO).mono ?_
               rintro e w2 ⟨rfl, hx2⟩
               go_wp2_with fail
               exact Post.isv hx2 rfl rfl rfl)
        -- 26: Op.binOp BinOp.neq 3 t61 t65 3   [guarded: some (19, false)]
        apply Stage.step (Is _) [false, false, false, false, false, false, false, false, false, false, false, false, false, false, false, false, false, false, false, true, false, true, false, false, false, true] (Is.keeps _) (by kernel_rfl)
        · intro w1 h1
          simp only [List.nil_append, List.cons_append, Given]
          rintro _ rfl
          rintro _ rfl
          rintro _ rfl
          go_wp2_with fail
          exact Post.isv (Ext.refl _) rfl rfl rfl
        -- 27: Op.pick t59 (const (Value.bool true)) t66
        apply Stage.step (Is _) [false, false, false, false, false, false, false, false, false, false, false, false, false, false, false, false, false, false, false, true, false, false, false, false, false, false, true] (Is.keeps _) (by kernel_rfl)
        · intro w1 h1
          simp only [List.nil_append, List.cons_append, Given]
          rintro _ rfl
          rintro _ rfl
          go_wp2_with fail
          exact Post.isv (Ext.refl _) rfl rfl rfl
        -- 28: Op.move t67
        apply Stage.step (Is _) [false, false, false, false, false, false, false, false, false, false, false, false, false, false, false, false, false, false, false, false, false, false, false, false, false, false, false, true] (Is.keeps _) (by kernel_rfl)
        · intro w1 h1
          simp only [List.nil_append, List.cons_append, Given]
          rintro _ rfl
          go_wp2_with fail
          exact Post.isv (Ext.refl _) rfl rfl rfl
        -- 29: Op.move t15   [guarded: some (28, false)]
        apply Stage.step (Is _) [false, false, false, false, false, false, false, false, false, false, false, false, false, false, false, false, false, false, false, false, false, false, false, false, false, false, false, false, true] (Is.keeps _) (by kernel_rfl)
        · intro w1 h1
          simp only [List.nil_append, List.cons_append, Given]
          rintro _ rfl
          go_wp2_with fail
          exact Post.isv (Ext.refl _) rfl rfl rfl
        -- 30: Op.binOp BinOp.neq 41 t69 (const (0:i64)) 41   [guarded: some (28, false)]
        apply Stage.step (Is _) [false, false, false, false, false, false, false, false, false, false, false, false, false, false, false, false, false, false, false, false, false, false, false, false, false, false, false, false, true, true] (Is.keeps _) (by kernel_rfl)
        · intro w1 h1
          simp only [List.nil_append, List.cons_append, Given]
          rintro _ rfl
          rintro _ rfl
          go_wp2_with fail
          exact Post.isv (Ext.refl _) rfl rfl rfl
        -- 31: Op.pick t68 (const (Value.bool true)) t70
        apply Stage.step (Is _) [false, false, false, false, false, false, false, false, false, false, false, false, false, false, false, false, false, false, false, false, false, false, false, false, false, false, false, false, true, false, true] (Is.keeps _) (by kernel_rfl)
        · intro w1 h1
          simp only [List.nil_append, List.cons_append, Given]
          rintro _ rfl
          rintro _ rfl
          go_wp2_with fail
          exact Post.isv (Ext.refl _) rfl rfl rfl
        apply Stage.nil
        intro w1 h1
        simp only [List.nil_append, List.cons_append]
        refine Fin.is_ ?_
        refine Fin.is_ ?_
        refine Fin.is_ ?_
        refine Fin.is_ ?_
        refine Fin.is_ ?_
        refine Fin.is_ ?_
        refine Fin.is_ ?_
        refine Fin.is_ ?_
        refine Fin.is_ ?_
        refine Fin.is_ ?_
        refine Fin.is_ ?_
        refine Fin.is_ ?_
        refine Fin.is_ ?_
        refine Fin.is_ ?_
        refine Fin.is_ ?_
        refine Fin.is_ ?_
        refine Fin.is_ ?_
        refine Fin.is_ ?_
        refine Fin.is_ ?_
        refine Fin.is_ ?_
        refine Fin.is_ ?_
        refine Fin.is_ ?_
        refine Fin.is_ ?_
        refine Fin.is_ ?_
        refine Fin.is_ ?_
        refine Fin.is_ ?_
        refine Fin.is_ ?_
        refine Fin.is_ ?_
        refine Fin.is_ ?_
        refine Fin.is_ ?_
        refine Fin.is_ ?_
        refine Fin.is_ ?_
        refine Fin.nil_ ?_
        go_simp
        go_wp2_with fail
        go_ret
        exact ⟨_, _, _, rfl, hown2.ext en_rep h1, hx3.trans h1⟩
      have q2 : (xs' - (m : Int) - 1 != e) = false := by simp; omega
      by_cases e3 : xs' ≤ to
      case neg =>
        obtain rfl : r = false := by rw [← hr]; exact goB_no (fun hc => by have := hc.2.2.1; rw [← e2] at this; exact e3 this)
        obtain rfl := (hN rfl).out
        have q3 : decide (to < xs') = true := by simp; omega
        clear hN hev e2 e3 her
        clear hY hog hr
        go_wp2_with fail
        refine (ref_GetEvent (sa.ext (Ext.alloc _ _)) (by omega) HE HG).mono ?_
        rintro e1 w2 ⟨A2, n2, c2, rfl, hb2, hx2⟩
        have hx3 : Ext w (w2.alloc (.cells #[.int .i64 K, .int .i64 O, .int .i64 M, .slice A2 n2 c2, .string S] 63)) := ((hxr.allocs _).trans hx2).allocs _
        have d0 := (Ext.alloc w2 (.cells #[.int .i64 K, .int .i64 O, .int .i64 M, .slice A2 n2 c2, .string S] 63)).cell (hx2.cell (cell_new wr #[.int .i64 xt, .int .i64 xs', .slice Aa na ca] 39 0))
        have d1 := (Ext.alloc w2 (.cells #[.int .i64 K, .int .i64 O, .int .i64 M, .slice A2 n2 c2, .string S] 63)).cell (hx2.cell (cell_new wr #[.int .i64 xt, .int .i64 xs', .slice Aa na ca] 39 1))
        have d2 := (Ext.alloc w2 (.cells #[.int .i64 K, .int .i64 O, .int .i64 M, .slice A2 n2 c2, .string S] 63)).cell (hx2.cell (cell_new wr #[.int .i64 xt, .int .i64 xs', .slice Aa na ca] 39 2))
        have hown2 := (hown.ext en_rep ((Ext.alloc _ _).trans hx2)).ext en_rep (Ext.alloc w2 (.cells #[.int .i64 K, .int .i64 O, .int .i64 M, .slice A2 n2 c2, .string S] 63))
        have l3' := l3.ext tg_rep hx3
        clear a0 a1 a2
        rw [HER.out]
        go_wp2_with fail
        refine wp_region_typed Ext.steady rfl 77 rfl (by kernel_rfl) ?_
        -- 0: Op.load 39 t13
        apply Stage.step (Is _) [] (Is.keeps _) (by kernel_rfl)
        · intro w1 h1
          simp only [Given]
          have hq0 := h1.cell d0
          have hq1 := h1.cell d1
          have hq2 := h1.cell d2
          go_wp2_with fail
          exact Post.isv (Ext.refl _) rfl rfl rfl
        -- 1: Op.call { value (Operand.func 65), args := #[t40], argTypes := #[39] }
        apply Stage.step (Is _) [true] (Is.keeps _) (by kernel_rfl)
        · intro w1 h1
          simp only [List.nil_append, Given]
          rintro _ rfl
          go_wp2_with fail
          refine (ref_RightEntry xt xs' Aa na ca _ hna63).mono ?_
          rintro e w2 ⟨rfl, hx2⟩
          rw [hrr]
          go_wp2_with fail
          exact Post.isv hx2 rfl rfl rfl
        -- 2: Op.unOp UnOp.not 4 t41
        apply Stage.step (Is _) [false, true] (Is.keeps _) (by kernel_rfl)
        · intro w1 h1
          simp only [List.nil_append, List.cons_append, Given]
          rintro _ rfl
          go_wp2_with fail
          exact Post.isv (Ext.refl _) rfl rfl rfl
        -- 3: Op.move t42
        apply Stage.step (Is _) [false, false, true] (Is.keeps _) (by kernel_rfl)
        · intro w1 h1
          simp only [List.nil_append, List.cons_append, Given]
          rintro _ rfl
          go_wp2_with fail
          exact Post.isv (Ext.refl _) rfl rfl rfl
        -- 4: Op.fieldAddr 39 t13 1   [guarded: some (3, false)]
        apply Stage.step (Is _) [false, false, false, true] (Is.keeps _) (by kernel_rfl)
        · intro w1 h1
          simp only [List.nil_append, List.cons_append, Given]
          rintro _ rfl
          go_wp2_with fail
          exact Post.isv (Ext.refl _) rfl rfl rfl
        -- 5: Op.load 3 t44   [guarded: some (3, false)]
        apply Stage.step (Is _) [false, false, false, true, true] (Is.keeps _) (by kernel_rfl)
        · intro w1 h1
          simp only [List.nil_append, List.cons_append, Given]
          rintro _ rfl
          rintro _ rfl
          have hq := h1.cell d1
          go_wp2_with fail
          exact Post.isv (Ext.refl _) rfl rfl rfl
        -- 6: Op.move t11   [guarded: some (3, false)]
        apply Stage.step (Is _) [false, false, false, true] (Is.keeps _) (by kernel_rfl)
        · intro w1 h1
          simp only [List.nil_append, List.cons_append, Given]
          rintro _ rfl
          go_wp2_with fail
          exact Post.isv (Ext.refl _) rfl rfl rfl
        -- 7: Op.call { builtin len, args := #[t46], argTypes := #[32] }   [guarded: some (3, false)]
        apply Stage.step (Is _) [false, false, false, true, false, false, true] (Is.keeps _) (by kernel_rfl)
        · intro w1 h1
          simp only [List.nil_append, List.cons_append, Given]
          rintro _ rfl
          rintro _ rfl
          go_wp2_with fail
          exact Post.isv (Ext.refl _) rfl rfl rfl
        -- 8: Op.binOp BinOp.sub 3 t45 t47 3   [guarded: some (3, false)]
        apply Stage.step (Is _) [false, false, false, true, false, true, false, true] (Is.keeps _) (by kernel_rfl)
        · intro w1 h1
          simp only [List.nil_append, List.cons_append, Given]
          rintro _ rfl
          rintro _ rfl
          rintro _ rfl
          go_wp2_with fail
          exact Post.isv (Ext.refl _) rfl rfl rfl
        -- 9: Op.binOp BinOp.sub 3 t48 (const (1:i64)) 3   [guarded: some (3, false)]
        apply Stage.step (Is _) [false, false, false, true, false, false, false, false, true] (Is.keeps _) (by kernel_rfl)
        · intro w1 h1
          simp only [List.nil_append, List.cons_append, Given]
          rintro _ rfl
          rintro _ rfl
          go_wp2_with fail
          exact Post.isv (Ext.refl _) rfl rfl rfl
        -- 10: Op.move t1   [guarded: some (3, false)]
        apply Stage.step (Is _) [false, false, false, true] (Is.keeps _) (by kernel_rfl)
        · intro w1 h1
          simp only [List.nil_append, List.cons_append, Given]
          rintro _ rfl
          go_wp2_with fail
          exact Post.isv (Ext.refl _) rfl rfl rfl
        -- 11: Op.binOp BinOp.neq 3 t49 t50 3   [guarded: some (3, false)]
        apply Stage.step (Is _) [false, false, false, true, false, false, false, false, false, true, true] (Is.keeps _) (by kernel_rfl)
        · intro w1 h1
          simp only [List.nil_append, List.cons_append, Given]
          rintro _ rfl
          rintro _ rfl
          rintro _ rfl
          go_wp2_with fail
          exact Post.isv (Ext.refl _) rfl rfl rfl
        -- 12: Op.pick t43 (const (Value.bool true)) t51
        apply Stage.step (Is _) [false, false, false, true, false, false, false, false, false, false, false, true] (Is.keeps _) (by kernel_rfl)
        · intro w1 h1
          simp only [List.nil_append, List.cons_append, Given]
          rintro _ rfl
          rintro _ rfl
          go_wp2_with fail
          exact Post.isv (Ext.refl _) rfl rfl rfl
        -- 13: Op.move t52
        apply Stage.step (Is _) [false, false, false, false, false, false, false, false, false, false, false, false, true] (Is.keeps _) (by kernel_rfl)
        · intro w1 h1
          simp only [List.nil_append, List.cons_append, Given]
          rintro _ rfl
          go_wp2_with fail
          exact Post.isv (Ext.refl _) rfl rfl rfl
        -- 14: Op.fieldAddr 39 t13 1   [guarded: some (13, false)]
        apply Stage.step (Is _) [false, false, false, false, false, false, false, false, false, false, false, false, false, true] (Is.keeps _) (by kernel_rfl)
        · intro w1 h1
          simp only [List.nil_append, List.cons_append, Given]
          rintro _ rfl
          go_wp2_with fail
          exact Post.isv (Ext.refl _) rfl rfl rfl
        -- 15: Op.load 3 t54   [guarded: some (13, false)]
        apply Stage.step (Is _) [false, false, false, false, false, false, false, false, false, false, false, false, false, true, true] (Is.keeps _) (by kernel_rfl)
        · intro w1 h1
          simp only [List.nil_append, List.cons_append, Given]
          rintro _ rfl
          rintro _ rfl
          have hq := h1.cell d1
          go_wp2_with fail
          exact Post.isv (Ext.refl _) rfl rfl rfl
        -- 16: Op.move t4   [guarded: some (13, false)]
        apply Stage.step (Is _) [false, false, false, false, false, false, false, false, false, false, false, false, false, true] (Is.keeps _) (by kernel_rfl)
        · intro w1 h1
          simp only [List.nil_append, List.cons_append, Given]
          rintro _ rfl
          go_wp2_with fail
          exact Post.isv (Ext.refl _) rfl rfl rfl
        -- 17: Op.binOp BinOp.gtr 3 t55 t56 3   [guarded: some (13, false)]
        apply Stage.step (Is _) [false, false, false, false, false, false, false, false, false, false, false, false, false, true, false, true, true] (Is.keeps _) (by kernel_rfl)
        · intro w1 h1
          simp only [List.nil_append, List.cons_append, Given]
          rintro _ rfl
          rintro _ rfl
          rintro _ rfl
          go_wp2_with fail
          exact Post.isv (Ext.refl _) rfl rfl rfl
        -- 18: Op.pick t53 (const (Value.bool true)) t57
        apply Stage.step (Is _) [false, false, false, false, false, false, false, false, false, false, false, false, false, true, false, false, false, true] (Is.keeps _) (by kernel_rfl)
        · intro w1 h1
          simp only [List.nil_append, List.cons_append, Given]
          rintro _ rfl
          rintro _ rfl
          go_wp2_with fail
          exact Post.isv (Ext.refl _) rfl rfl rfl
        -- 19: Op.move t58
        apply Stage.step (Is _) [false, false, false, false, false, false, false, false, false, false, false, false, false, false, false, false, false, false, true] (Is.keeps _) (by kernel_rfl)
        · intro w1 h1
          simp only [List.nil_append, List.cons_append, Given]
          rintro _ rfl
          go_wp2_with fail
          exact Post.isv (Ext.refl _) rfl rfl rfl
        -- 20: Op.fieldAddr 39 t13 0   [guarded: some (19, false)]
        apply Stage.step (Is _) [false, false, false, false, false, false, false, false, false, false, false, false, false, false, false, false, false, false, false, true] (Is.keeps _) (by kernel_rfl)
        · intro w1 h1
          simp only [List.nil_append, List.cons_append, Given]
          rintro _ rfl
          go_wp2_with fail
          exact Post.isv (Ext.refl _) rfl rfl rfl
        -- 21: Op.load 3 t60   [guarded: some (19, false)]
        apply Stage.step (Is _) [false, false, false, false, false, false, false, false, false, false, false, false, false, false, false, false, false, false, false, true, true] (Is.keeps _) (by kernel_rfl)
        · intro w1 h1
          simp only [List.nil_append, List.cons_append, Given]
          rintro _ rfl
          rintro _ rfl
          have hq := h1.cell d0
          go_wp2_with fail
          exact Post.isv (Ext.refl _) rfl rfl rfl
        -- 22: Op.move t3   [guarded: some (19, false)]
        apply Stage.step (Is _) [false, false, false, false, false, false, false, false, false, false, false, false, false, false, false, false, false, false, false, true] (Is.keeps _) (by kernel_rfl)
        · intro w1 h1
          simp only [List.nil_append, List.cons_append, Given]
          rintro _ rfl
          go_wp2_with fail
          exact Post.isv (Ext.refl _) rfl rfl rfl
        -- 23: Op.fieldAddr 39 t13 1   [guarded: some (19, false)]
        apply Stage.step (Is _) [false, false, false, false, false, false, false, false, false, false, false, false, false, false, false, false, false, false, false, true] (Is.keeps _) (by kernel_rfl)
        · intro w1 h1
          simp only [List.nil_append, List.cons_append, Given]
          rintro _ rfl
          go_wp2_with fail
          exact Post.isv (Ext.refl _) rfl rfl rfl
        -- 24: Op.load 3 t63   [guarded: some (19, false)]
        apply Stage.step (Is _) [false, false, false, false, false, false, false, false, false, false, false, false, false, false, false, false, false, false, false, true, false, false, false, true] (Is.keeps _) (by kernel_rfl)
        · intro w1 h1
          simp only [List.nil_append, List.cons_append, Given]
          rintro _ rfl
          rintro _ rfl
          have hq := h1.cell d1
          go_wp2_with fail
          exact Post.isv (Ext.refl _) rfl rfl rfl
        -- 25: Op.call { value (Operand.func 41), args := #[t62, t64], argTypes := #[24, 3] }   [guarded: some (19,
        apply Stage.step (Is _) [false, false, false, false, false, false, false, false, false, false, false, false, false, false, false, false, false, false, false, true, false, false, true, false, true] (Is.keeps _) (by kernel_rfl)
        · intro w1 h1
          simp only [List.nil_append, List.cons_append, Given]
          rintro _ rfl
          rintro _ rfl
          rintro _ rfl
          go_wp2_with fail
          first
            | exact Post.isv (Ext.refl _) rfl rfl rfl
            | (refine (ref_TagOf (l3'.ext tg_rep h1) HO).mono ?_
               rintro e w2 ⟨rfl, hx2⟩
               go_wp2_with fail
               exact Post.isv hx2 rfl rfl rfl)
        -- 26: Op.binOp BinOp.neq 3 t61 t65 3   [guarded: some (19, false)]
        apply Stage.step (Is _) [false, false, false, false, false, false, false, false, false, false, false, false, false, false, false, false, false, false, false, true, false, true, false, false, false, true] (Is.keeps _) (by kernel_rfl)
        · intro w1 h1
          simp only [List.nil_append, List.cons_append, Given]
          rintro _ rfl
          rintro _ rfl
          rintro _ rfl
          go_wp2_with fail
          exact Post.isv (Ext.refl _) rfl rfl rfl
        -- 27: Op.pick t59 (const (Value.bool true)) t66
        apply Stage.step (Is _) [false, false, false, false, false, false, false, false, false, false, false, false, false, false, false, false, false, false, false, true, false, false, false, false, false, false, true] (Is.keeps _) (by kernel_rfl)
        · intro w1 h1
          simp only [List.nil_append, List.cons_append, Given]
          rintro _ rfl
          rintro _ rfl
          go_wp2_with fail
          exact Post.isv (Ext.refl _) rfl rfl rfl
        -- 28: Op.move t67
        apply Stage.step (Is _) [false, false, false, false, false, false, false, false, false, false, false, false, false, false, false, false, false, false, false, false, false, false, false, false, false, false, false, true] (Is.keeps _) (by kernel_rfl)
        · intro w1 h1
          simp only [List.nil_append, List.cons_append, Given]
          rintro _ rfl
          go_wp2_with fail
          exact Post.isv (Ext.refl _) rfl rfl rfl
        -- 29: Op.move t15   [guarded: some (28, false)]
        apply Stage.step (Is _) [false, false, false, false, false, false, false, false, false, false, false, false, false, false, false, false, false, false, false, false, false, false, false, false, false, false, false, false, true] (Is.keeps _) (by kernel_rfl)
        · intro w1 h1
          simp only [List.nil_append, List.cons_append, Given]
          rintro _ rfl
          go_wp2_with fail
          exact Post.isv (Ext.refl _) rfl rfl rfl
        -- 30: Op.binOp BinOp.neq 41 t69 (const (0:i64)) 41   [guarded: some (28, false)]
        apply Stage.step (Is _) [false, false, false, false, false, false, false, false, false, false, false, false, false, false, false, false, false, false, false, false, false, false, false, false, false, false, false, false, true, true] (Is.keeps _) (by kernel_rfl)
        · intro w1 h1
          simp only [List.nil_append, List.cons_append, Given]
          rintro _ rfl
          rintro _ rfl
          go_wp2_with fail
          exact Post.isv (Ext.refl _) rfl rfl rfl
        -- 31: Op.pick t68 (const (Value.bool true)) t70
        apply Stage.step (Is _) [false, false, false, false, false, false, false, false, false, false, false, false, false, false, false, false, false, false, false, false, false, false, false, false, false, false, false, false, true, false, true] (Is.keeps _) (by kernel_rfl)
        · intro w1 h1
          simp only [List.nil_append, List.cons_append, Given]
          rintro _ rfl
          rintro _ rfl
          go_wp2_with fail
          exact Post.isv (Ext.refl _) rfl rfl rfl
        apply Stage.nil
        intro w1 h1
        simp only [List.nil_append, List.cons_append]
        refine Fin.is_ ?_
        refine Fin.is_ ?_
        refine Fin.is_ ?_
        refine Fin.is_ ?_
        refine Fin.is_ ?_
        refine Fin.is_ ?_
        refine Fin.is_ ?_
        refine Fin.is_ ?_
        refine Fin.is_ ?_
        refine Fin.is_ ?_
        refine Fin.is_ ?_
        refine Fin.is_ ?_
        refine Fin.is_ ?_
        refine Fin.is_ ?_
        refine Fin.is_ ?_
        refine Fin.is_ ?_
        refine Fin.is_ ?_
        refine Fin.is_ ?_
        refine Fin.is_ ?_
        refine Fin.is_ ?_
        refine Fin.is_ ?_
        refine Fin.is_ ?_
        refine Fin.is_ ?_
        refine Fin.is_ ?_
        refine Fin.is_ ?_
        refine Fin.is_ ?_
        refine Fin.is_ ?_
        refine Fin.is_ ?_
        refine Fin.is_ ?_
        refine Fin.is_ ?_
        refine Fin.is_ ?_
        refine Fin.is_ ?_
        refine Fin.nil_ ?_
        go_simp
        go_wp2_with fail
        go_ret
        exact ⟨_, _, _, rfl, hown2.ext en_rep h1, hx3.trans h1⟩
      have q3 : decide (to < xs') = false := by simp; omega
      by_cases e4 : xt = og
      case neg =>
        obtain rfl : r = false := by rw [← hr]; exact goB_no (fun hc => by have := hc.2.2.2; rw [← e2] at this; exact e4 (this.trans hog))
        obtain rfl := (hN rfl).out
        have q4 : (xt != og) = true := by simpa using e4
        clear hN hev e2 e3 e4 her
        clear hY hog hr
        go_wp2_with fail
        refine (ref_GetEvent (sa.ext (Ext.alloc _ _)) (by omega) HE HG).mono ?_
        rintro e1 w2 ⟨A2, n2, c2, rfl, hb2, hx2⟩
        have hx3 : Ext w (w2.alloc (.cells #[.int .i64 K, .int .i64 O, .int .i64 M, .slice A2 n2 c2, .string S] 63)) := ((hxr.allocs _).trans hx2).allocs _
        have d0 := (Ext.alloc w2 (.cells #[.int .i64 K, .int .i64 O, .int .i64 M, .slice A2 n2 c2, .string S] 63)).cell (hx2.cell (cell_new wr #[.int .i64 xt, .int .i64 xs', .slice Aa na ca] 39 0))
        have d1 := (Ext.alloc w2 (.cells #[.int .i64 K, .int .i64 O, .int .i64 M, .slice A2 n2 c2, .string S] 63)).cell (hx2.cell (cell_new wr #[.int .i64 xt, .int .i64 xs', .slice Aa na ca] 39 1))
        have d2 := (Ext.alloc w2 (.cells #[.int .i64 K, .int .i64 O, .int .i64 M, .slice A2 n2 c2, .string S] 63)).cell (hx2.cell (cell_new wr #[.int .i64 xt, .int .i64 xs', .slice Aa na ca] 39 2))
        have hown2 := (hown.ext en_rep ((Ext.alloc _ _).trans hx2)).ext en_rep (Ext.alloc w2 (.cells #[.int .i64 K, .int .i64 O, .int .i64 M, .slice A2 n2 c2, .string S] 63))
        have l3' := l3.ext tg_rep hx3
        clear a0 a1 a2
        rw [HER.out]
        go_wp2_with fail
        refine wp_region_typed Ext.steady rfl 77 rfl (by kernel_rfl) ?_
        -- 0: Op.load 39 t13
        apply Stage.step (Is _) [] (Is.keeps _) (by kernel_rfl)
        · intro w1 h1
          simp only [Given]
          have hq0 := h1.cell d0
          have hq1 := h1.cell d1
          have hq2 := h1.cell d2
          go_wp2_with fail
          exact Post.isv (Ext.refl _) rfl rfl rfl
        -- 1: Op.call { value (Operand.func 65), args := #[t40], argTypes := #[39] }
        apply Stage.step (Is _) [true] (Is.keeps _) (by kernel_rfl)
        · intro w1 h1
          simp only [List.nil_append, Given]
          rintro _ rfl
          go_wp2_with fail
          refine (ref_RightEntry xt xs' Aa na ca _ hna63).mono ?_
          rintro e w2 ⟨rfl, hx2⟩
          rw [hrr]
          go_wp2_with fail
          exact Post.isv hx2 rfl rfl rfl
        -- 2: Op.unOp UnOp.not 4 t41
        apply Stage.step (Is _) [false, true] (Is.keeps _) (by kernel_rfl)
        · intro w1 h1
          simp only [List.nil_append, List.cons_append, Given]
          rintro _ rfl
          go_wp2_with fail
          exact Post.isv (Ext.refl _) rfl rfl rfl
        -- 3: Op.move t42
        apply Stage.step (Is _) [false, false, true] (Is.keeps _) (by kernel_rfl)
        · intro w1 h1
          simp only [List.nil_append, List.cons_append, Given]
          rintro _ rfl
          go_wp2_with fail
          exact Post.isv (Ext.refl _) rfl rfl rfl
        -- 4: Op.fieldAddr 39 t13 1   [guarded: some (3, false)]
        apply Stage.step (Is _) [false, false, false, true] (Is.keeps _) (by kernel_rfl)
        · intro w1 h1
          simp only [List.nil_append, List.cons_append, Given]
          rintro _ rfl
          go_wp2_with fail
          exact Post.isv (Ext.refl _) rfl rfl rfl
        -- 5: Op.load 3 t44   [guarded: some (3, false)]
        apply Stage.step (Is _) [false, false, false, true, true] (Is.keeps _) (by kernel_rfl)
        · intro w1 h1
          simp only [List.nil_append, List.cons_append, Given]
          rintro _ rfl
          rintro _ rfl
          have hq := h1.cell d1
          go_wp2_with fail
          exact Post.isv (Ext.refl _) rfl rfl rfl
        -- 6: Op.move t11   [guarded: some (3, false)]
        apply Stage.step (Is _) [false, false, false, true] (Is.keeps _) (by kernel_rfl)
        · intro w1 h1
          simp only [List.nil_append, List.cons_append, Given]
          rintro _ rfl
          go_wp2_with fail
          exact Post.isv (Ext.refl _) rfl rfl rfl
        -- 7: Op.call { builtin len, args := #[t46], argTypes := #[32] }   [guarded: some (3, false)]
        apply Stage.step (Is _) [false, false, false, true, false, false, true] (Is.keeps _) (by kernel_rfl)
        · intro w1 h1
          simp only [List.nil_append, List.cons_append, Given]
          rintro _ rfl
          rintro _ rfl
          go_wp2_with fail
          exact Post.isv (Ext.refl _) rfl rfl rfl
        -- 8: Op.binOp BinOp.sub 3 t45 t47 3   [guarded: some (3, false)]
        apply Stage.step (Is _) [false, false, false, true, false, true, false, true] (Is.keeps _) (by kernel_rfl)
        · intro w1 h1
          simp only [List.nil_append, List.cons_append, Given]
          rintro _ rfl
          rintro _ rfl
          rintro _ rfl
          go_wp2_with fail
          exact Post.isv (Ext.refl _) rfl rfl rfl
        -- 9: Op.binOp BinOp.sub 3 t48 (const (1:i64)) 3   [guarded: some (3, false)]
        apply Stage.step (Is _) [false, false, false, true, false, false, false, false, true] (Is.keeps _) (by kernel_rfl)
        · intro w1 h1
          simp only [List.nil_append, List.cons_append, Given]
          rintro _ rfl
          rintro _ rfl
          go_wp2_with fail
          exact Post.isv (Ext.refl _) rfl rfl rfl
        -- 10: Op.move t1   [guarded: some (3, false)]
        apply Stage.step (Is _) [false, false, false, true] (Is.keeps _) (by kernel_rfl)
        · intro w1 h1
          simp only [List.nil_append, List.cons_append, Given]
          rintro _ rfl
          go_wp2_with fail
          exact Post.isv (Ext.refl _) rfl rfl rfl
        -- 11: Op.binOp BinOp.neq 3 t49 t50 3   [guarded: some (3, false)]
        apply Stage.step (Is _) [false, false, false, true, false, false, false, false, false, true, true] (Is.keeps _) (by kernel_rfl)
        · intro w1 h1
          simp only [List.nil_append, List.cons_append, Given]
          rintro _ rfl
          rintro _ rfl
          rintro _ rfl
          go_wp2_with fail
          exact Post.isv (Ext.refl _) rfl rfl rfl
        -- 12: Op.pick t43 (const (Value.bool true)) t51
        apply Stage.step (Is _) [false, false, false, true, false, false, false, false, false, false, false, true] (Is.keeps _) (by kernel_rfl)
        · intro w1 h1
          simp only [List.nil_append, List.cons_append, Given]
          rintro _ rfl
          rintro _ rfl
          go_wp2_with fail
          exact Post.isv (Ext.refl _) rfl rfl rfl
        -- 13: Op.move t52
        apply Stage.step (Is _) [false, false, false, false, false, false, false, false, false, false, false, false, true] (Is.keeps _) (by kernel_rfl)
        · intro w1 h1
          simp only [List.nil_append, List.cons_append, Given]
          rintro _ rfl
          go_wp2_with fail
          exact Post.isv (Ext.refl _) rfl rfl rfl
        -- 14: Op.fieldAddr 39 t13 1   [guarded: some (13, false)]
        apply Stage.step (Is _) [false, false, false, false, false, false, false, false, false, false, false, false, false, true] (Is.keeps _) (by kernel_rfl)
        · intro w1 h1
          simp only [List.nil_append, List.cons_append, Given]
          rintro _ rfl
          go_wp2_with fail
          exact Post.isv (Ext.refl _) rfl rfl rfl
        -- 15: Op.load 3 t54   [guarded: some (13, false)]
        apply Stage.step (Is _) [false, false, false, false, false, false, false, false, false, false, false, false, false, true, true] (Is.keeps _) (by kernel_rfl)
        · intro w1 h1
          simp only [List.nil_append, List.cons_append, Given]
          rintro _ rfl
          rintro _ rfl
          have hq := h1.cell d1
          go_wp2_with fail
          exact Post.isv (Ext.refl _) rfl rfl rfl
        -- 16: Op.move t4   [guarded: some (13, false)]
        apply Stage.step (Is _) [false, false, false, false, false, false, false, false, false, false, false, false, false, true] (Is.keeps _) (by kernel_rfl)
        · intro w1 h1
          simp only [List.nil_append, List.cons_append, Given]
          rintro _ rfl
          go_wp2_with fail
          exact Post.isv (Ext.refl _) rfl rfl rfl
        -- 17: Op.binOp BinOp.gtr 3 t55 t56 3   [guarded: some (13, false)]
        apply Stage.step (Is _) [false, false, false, false, false, false, false, false, false, false, false, false, false, true, false, true, true] (Is.keeps _) (by kernel_rfl)
        · intro w1 h1
          simp only [List.nil_append, List.cons_append, Given]
          rintro _ rfl
          rintro _ rfl
          rintro _ rfl
          go_wp2_with fail
          exact Post.isv (Ext.refl _) rfl rfl rfl
        -- 18: Op.pick t53 (const (Value.bool true)) t57
        apply Stage.step (Is _) [false, false, false, false, false, false, false, false, false, false, false, false, false, true, false, false, false, true] (Is.keeps _) (by kernel_rfl)
        · intro w1 h1
          simp only [List.nil_append, List.cons_append, Given]
          rintro _ rfl
          rintro _ rfl
          go_wp2_with fail
          exact Post.isv (Ext.refl _) rfl rfl rfl
        -- 19: Op.move t58
        apply Stage.step (Is _) [false, false, false, false, false, false, false, false, false, false, false, false, false, false, false, false, false, false, true] (Is.keeps _) (by kernel_rfl)
        · intro w1 h1
          simp only [List.nil_append, List.cons_append, Given]
          rintro _ rfl
          go_wp2_with fail
          exact Post.isv (Ext.refl _) rfl rfl rfl
        -- 20: Op.fieldAddr 39 t13 0   [guarded: some (19, false)]
        apply Stage.step (Is _) [false, false, false, false, false, false, false, false, false, false, false, false, false, false, false, false, false, false, false, true] (Is.keeps _) (by kernel_rfl)
        · intro w1 h1
          simp only [List.nil_append, List.cons_append, Given]
          rintro _ rfl
          go_wp2_with fail
          exact Post.isv (Ext.refl _) rfl rfl rfl
        -- 21: Op.load 3 t60   [guarded: some (19, false)]
        apply Stage.step (Is _) [false, false, false, false, false, false, false, false, false, false, false, false, false, false, false, false, false, false, false, true, true] (Is.keeps _) (by kernel_rfl)
        · intro w1 h1
          simp only [List.nil_append, List.cons_append, Given]
          rintro _ rfl
          rintro _ rfl
          have hq := h1.cell d0
          go_wp2_with fail
          exact Post.isv (Ext.refl _) rfl rfl rfl
        -- 22: Op.move t3   [guarded: some (19, false)]
        apply Stage.step (Is _) [false, false, false, false, false, false, false, false, false, false, false, false, false, false, false, false, false, false, false, true] (Is.keeps _) (by kernel_rfl)
        · intro w1 h1
          simp only [List.nil_append, List.cons_append, Given]
          rintro _ rfl
          go_wp2_with fail
          exact Post.isv (Ext.refl _) rfl rfl rfl
        -- 23: Op.fieldAddr 39 t13 1   [guarded: some (19, false)]
        apply Stage.step (Is _) [false, false, false, false, false, false, false, false, false, false, false, false, false, false, false, false, false, false, false, true] (Is.keeps _) (by kernel_rfl)
        · intro w1 h1
          simp only [List.nil_append, List.cons_append, Given]
          rintro _ rfl
          go_wp2_with fail
          exact Post.isv (Ext.refl _) rfl rfl rfl
        -- 24: Op.load 3 t63   [guarded: some (19, false)]
        apply Stage.step (Is _) [false, false, false, false, false, false, false, false, false, false, false, false, false, false, false, false, false, false, false, true, false, false, false, true] (Is.keeps _) (by kernel_rfl)
        · intro w1 h1
          simp only [List.nil_append, List.cons_append, Given]
          rintro _ rfl
          rintro _ rfl
          have hq := h1.cell d1
          go_wp2_with fail
          exact Post.isv (Ext.refl _) rfl rfl rfl
        -- 25: Op.call { value (Operand.func 41), args := #[t62, t64], argTypes := #[24, 3] }   [guarded: some (19,
        apply Stage.step (Is _) [false, false, false, false, false, false, false, false, false, false, false, false, false, false, false, false, false, false, false, true, false, false, true, false, true] (Is.keeps _) (by kernel_rfl)
        · intro w1 h1
          simp only [List.nil_append, List.cons_append, Given]
          rintro _ rfl
          rintro _ rfl
          rintro _ rfl
          go_wp2_with fail
          first
            | exact Post.isv (Ext.refl _) rfl rfl rfl
            | (refine (ref_TagOf (l3'.ext tg_rep h1) HO).mono ?_
               rintro e w2 ⟨rfl, hx2⟩
               go_wp2_with fail
               exact Post.isv hx2 rfl rfl rfl)
        -- 26: Op.binOp BinOp.neq 3 t61 t65 3   [guarded: some (19, false)]
        apply Stage.step (Is _) [false, false, false, false, false, false, false, false, false, false, false, false, false, false, false, false, false, false, false, true, false, true, false, false, false, true] (Is.keeps _) (by kernel_rfl)
        · intro w1 h1
          simp only [List.nil_append, List.cons_append, Given]
          rintro _ rfl
          rintro _ rfl
          rintro _ rfl
          go_wp2_with fail
          exact Post.isv (Ext.refl _) rfl rfl rfl
        -- 27: Op.pick t59 (const (Value.bool true)) t66
        apply Stage.step (Is _) [false, false, false, false, false, false, false, false, false, false, false, false, false, false, false, false, false, false, false, true, false, false, false, false, false, false, true] (Is.keeps _) (by kernel_rfl)
        · intro w1 h1
          simp only [List.nil_append, List.cons_append, Given]
          rintro _ rfl
          rintro _ rfl
          go_wp2_with fail
          exact Post.isv (Ext.refl _) rfl rfl rfl
        -- 28: Op.move t67
        apply Stage.step (Is _) [false, false, false, false, false, false, false, false, false, false, false, false, false, false, false, false, false, false, false, false, false, false, false, false, false, false, false, true] (Is.keeps _) (by kernel_rfl)
        · intro w1 h1
          simp only [List.nil_append, List.cons_append, Given]
          rintro _ rfl
          go_wp2_with fail
          exact Post.isv (Ext.refl _) rfl rfl rfl
        -- 29: Op.move t15   [guarded: some (28, false)]
        apply Stage.step (Is _) [false, false, false, false, false, false, false, false, false, false, false, false, false, false, false, false, false, false, false, false, false, false, false, false, false, false, false, false, true] (Is.keeps _) (by kernel_rfl)
        · intro w1 h1
          simp only [List.nil_append, List.cons_append, Given]
          rintro _ rfl
          go_wp2_with fail
          exact Post.isv (Ext.refl _) rfl rfl rfl
        -- 30: Op.binOp BinOp.neq 41 t69 (const (0:i64)) 41   [guarded: some (28, false)]
        apply Stage.step (Is _) [false, false, false, false, false, false, false, false, false, false, false, false, false, false, false, false, false, false, false, false, false, false, false, false, false, false, false, false, true, true] (Is.keeps _) (by kernel_rfl)
        · intro w1 h1
          simp only [List.nil_append, List.cons_append, Given]
          rintro _ rfl
          rintro _ rfl
          go_wp2_with fail
          exact Post.isv (Ext.refl _) rfl rfl rfl
        -- 31: Op.pick t68 (const (Value.bool true)) t70
        apply Stage.step (Is _) [false, false, false, false, false, false, false, false, false, false, false, false, false, false, false, false, false, false, false, false, false, false, false, false, false, false, false, false, true, false, true] (Is.keeps _) (by kernel_rfl)
        · intro w1 h1
          simp only [List.nil_append, List.cons_append, Given]
          rintro _ rfl
          rintro _ rfl
          go_wp2_with fail
          exact Post.isv (Ext.refl _) rfl rfl rfl
        apply Stage.nil
        intro w1 h1
        simp only [List.nil_append, List.cons_append]
        refine Fin.is_ ?_
        refine Fin.is_ ?_
        refine Fin.is_ ?_
        refine Fin.is_ ?_
        refine Fin.is_ ?_
        refine Fin.is_ ?_
        refine Fin.is_ ?_
        refine Fin.is_ ?_
        refine Fin.is_ ?_
        refine Fin.is_ ?_
        refine Fin.is_ ?_
        refine Fin.is_ ?_
        refine Fin.is_ ?_
        refine Fin.is_ ?_
        refine Fin.is_ ?_
        refine Fin.is_ ?_
        refine Fin.is_ ?_
        refine Fin.is_ ?_
        refine Fin.is_ ?_
        refine Fin.is_ ?_
        refine Fin.is_ ?_
        refine Fin.is_ ?_
        refine Fin.is_ ?_
        refine Fin.is_ ?_
        refine Fin.is_ ?_
        refine Fin.is_ ?_
        refine Fin.is_ ?_
        refine Fin.is_ ?_
        refine Fin.is_ ?_
        refine Fin.is_ ?_
        refine Fin.is_ ?_
        refine Fin.is_ ?_
        refine Fin.nil_ ?_
        go_simp
        go_wp2_with fail
        go_ret
        exact ⟨_, _, _, rfl, hown2.ext en_rep h1, hx3.trans h1⟩
      have q4 : (xt != og) = false := by simpa using e4
      have hev2 : goB tags to (e + (m : Int) + 1) ⟨xt, xs', xd⟩ = ev := by
        rw [← e2]
        exact goB_tag (x := ⟨xt, xs', xd⟩) rfl (by simp only [hdl]; exact hrr) e3 (e4.trans hog.symm) hev
      by_cases hv : ev = true
      case neg =>
        have hv : ev = false := by simpa using hv
        obtain rfl : r = false := by rw [← hr]; exact hev2.trans hv
        obtain rfl := (hN rfl).out
        have q5 : (er != 0) = true := by rw [← her, hv]; rfl
        clear hN hev hev2 e2 e3 e4 her hv
        clear hY hog hr
        go_wp2_with fail
        refine (ref_GetEvent (sa.ext (Ext.alloc _ _)) (by omega) HE HG).mono ?_
        rintro e1 w2 ⟨A2, n2, c2, rfl, hb2, hx2⟩
        have hx3 : Ext w (w2.alloc (.cells #[.int .i64 K, .int .i64 O, .int .i64 M, .slice A2 n2 c2, .string S] 63)) := ((hxr.allocs _).trans hx2).allocs _
        have d0 := (Ext.alloc w2 (.cells #[.int .i64 K, .int .i64 O, .int .i64 M, .slice A2 n2 c2, .string S] 63)).cell (hx2.cell (cell_new wr #[.int .i64 xt, .int .i64 xs', .slice Aa na ca] 39 0))
        have d1 := (Ext.alloc w2 (.cells #[.int .i64 K, .int .i64 O, .int .i64 M, .slice A2 n2 c2, .string S] 63)).cell (hx2.cell (cell_new wr #[.int .i64 xt, .int .i64 xs', .slice Aa na ca] 39 1))
        have d2 := (Ext.alloc w2 (.cells #[.int .i64 K, .int .i64 O, .int .i64 M, .slice A2 n2 c2, .string S] 63)).cell (hx2.cell (cell_new wr #[.int .i64 xt, .int .i64 xs', .slice Aa na ca] 39 2))
        have hown2 := (hown.ext en_rep ((Ext.alloc _ _).trans hx2)).ext en_rep (Ext.alloc w2 (.cells #[.int .i64 K, .int .i64 O, .int .i64 M, .slice A2 n2 c2, .string S] 63))
        have l3' := l3.ext tg_rep hx3
        clear a0 a1 a2
        rw [HER.out]
        go_wp2_with fail
        refine wp_region_typed Ext.steady rfl 77 rfl (by kernel_rfl) ?_
        -- 0: Op.load 39 t13
        apply Stage.step (Is _) [] (Is.keeps _) (by kernel_rfl)
        · intro w1 h1
          simp only [Given]
          have hq0 := h1.cell d0
          have hq1 := h1.cell d1
          have hq2 := h1.cell d2
          go_wp2_with fail
          exact Post.isv (Ext.refl _) rfl rfl rfl
        -- 1: Op.call { value (Operand.func 65), args := #[t40], argTypes := #[39] }
        apply Stage.step (Is _) [true] (Is.keeps _) (by kernel_rfl)
        · intro w1 h1
          simp only [List.nil_append, Given]
          rintro _ rfl
          go_wp2_with fail
          refine (ref_RightEntry xt xs' Aa na ca _ hna63).mono ?_
          rintro e w2 ⟨rfl, hx2⟩
          rw [hrr]
          go_wp2_with fail
          exact Post.isv hx2 rfl rfl rfl
        -- 2: Op.unOp UnOp.not 4 t41
        apply Stage.step (Is _) [false, true] (Is.keeps _) (by kernel_rfl)
        · intro w1 h1
          simp only [List.nil_append, List.cons_append, Given]
          rintro _ rfl
          go_wp2_with fail
          exact Post.isv (Ext.refl _) rfl rfl rfl
        -- 3: Op.move t42
        apply Stage.step (Is _) [false, false, true] (Is.keeps _) (by kernel_rfl)
        · intro w1 h1
          simp only [List.nil_append, List.cons_append, Given]
          rintro _ rfl
          go_wp2_with fail
          exact Post.isv (Ext.refl _) rfl rfl rfl
        -- 4: Op.fieldAddr 39 t13 1   [guarded: some (3, false)]
        apply Stage.step (Is _) [false, false, false, true] (Is.keeps _) (by kernel_rfl)
        · intro w1 h1
          simp only [List.nil_append, List.cons_append, Given]
          rintro _ rfl
          go_wp2_with fail
          exact Post.isv (Ext.refl _) rfl rfl rfl
        -- 5: Op.load 3 t44   [guarded: some (3, false)]
        apply Stage.step (Is _) [false, false, false, true, true] (Is.keeps _) (by kernel_rfl)
        · intro w1 h1
          simp only [List.nil_append, List.cons_append, Given]
          rintro _ rfl
          rintro _ rfl
          have hq := h1.cell d1
          go_wp2_with fail
          exact Post.isv (Ext.refl _) rfl rfl rfl
        -- 6: Op.move t11   [guarded: some (3, false)]
        apply Stage.step (Is _) [false, false, false, true] (Is.keeps _) (by kernel_rfl)
        · intro w1 h1
          simp only [List.nil_append, List.cons_append, Given]
          rintro _ rfl
          go_wp2_with fail
          exact Post.isv (Ext.refl _) rfl rfl rfl
        -- 7: Op.call { builtin len, args := #[t46], argTypes := #[32] }   [guarded: some (3, false)]
        apply Stage.step (Is _) [false, false, false, true, false, false, true] (Is.keeps _) (by kernel_rfl)
        · intro w1 h1
          simp only [List.nil_append, List.cons_append, Given]
          rintro _ rfl
          rintro _ rfl
          go_wp2_with fail
          exact Post.isv (Ext.refl _) rfl rfl rfl
        -- 8: Op.binOp BinOp.sub 3 t45 t47 3   [guarded: some (3, false)]
        apply Stage.step (Is _) [false, false, false, true, false, true, false, true] (Is.keeps _) (by kernel_rfl)
        · intro w1 h1
          simp only [List.nil_append, List.cons_append, Given]
          rintro _ rfl
          rintro _ rfl
          rintro _ rfl
          go_wp2_with fail
          exact Post.isv (Ext.refl _) rfl rfl rfl
        -- 9: Op.binOp BinOp.sub 3 t48 (const (1:i64)) 3   [guarded: some (3, false)]
        apply Stage.step (Is _) [false, false, false, true, false, false, false, false, true] (Is.keeps _) (by kernel_rfl)
        · intro w1 h1
          simp only [List.nil_append, List.cons_append, Given]
          rintro _ rfl
          rintro _ rfl
          go_wp2_with fail
          exact Post.isv (Ext.refl _) rfl rfl rfl
        -- 10: Op.move t1   [guarded: some (3, false)]
        apply Stage.step (Is _) [false, false, false, true] (Is.keeps _) (by kernel_rfl)
        · intro w1 h1
          simp only [List.nil_append, List.cons_append, Given]
          rintro _ rfl
          go_wp2_with fail
          exact Post.isv (Ext.refl _) rfl rfl rfl
        -- 11: Op.binOp BinOp.neq 3 t49 t50 3   [guarded: some (3, false)]
        apply Stage.step (Is _) [false, false, false, true, false, false, false, false, false, true, true] (Is.keeps _) (by kernel_rfl)
        · intro w1 h1
          simp only [List.nil_append, List.cons_append, Given]
          rintro _ rfl
          rintro _ rfl
          rintro _ rfl
          go_wp2_with fail
          exact Post.isv (Ext.refl _) rfl rfl rfl
        -- 12: Op.pick t43 (const (Value.bool true)) t51
        apply Stage.step (Is _) [false, false, false, true, false, false, false, false, false, false, false, true] (Is.keeps _) (by kernel_rfl)
        · intro w1 h1
          simp only [List.nil_append, List.cons_append, Given]
          rintro _ rfl
          rintro _ rfl
          go_wp2_with fail
          exact Post.isv (Ext.refl _) rfl rfl rfl
        -- 13: Op.move t52
        apply Stage.step (Is _) [false, false, false, false, false, false, false, false, false, false, false, false, true] (Is.keeps _) (by kernel_rfl)
        · intro w1 h1
          simp only [List.nil_append, List.cons_append, Given]
          rintro _ rfl
          go_wp2_with fail
          exact Post.isv (Ext.refl _) rfl rfl rfl
        -- 14: Op.fieldAddr 39 t13 1   [guarded: some (13, false)]
        apply Stage.step (Is _) [false, false, false, false, false, false, false, false, false, false, false, false, false, true] (Is.keeps _) (by kernel_rfl)
        · intro w1 h1
          simp only [List.nil_append, List.cons_append, Given]
          rintro _ rfl
          go_wp2_with fail
          exact Post.isv (Ext.refl _) rfl rfl rfl
        -- 15: Op.load 3 t54   [guarded: some (13, false)]
        apply Stage.step (Is _) [false, false, false, false, false, false, false, false, false, false, false, false, false, true, true] (Is.keeps _) (by kernel_rfl)
        · intro w1 h1
          simp only [List.nil_append, List.cons_append, Given]
          rintro _ rfl
          rintro _ rfl
          have hq := h1.cell d1
          go_wp2_with fail
          exact Post.isv (Ext.refl _) rfl rfl rfl
        -- 16: Op.move t4   [guarded: some (13, false)]
        apply Stage.step (Is _) [false, false, false, false, false, false, false, false, false, false, false, false, false, true] (Is.keeps _) (by kernel_rfl)
        · intro w1 h1
          simp only [List.nil_append, List.cons_append, Given]
          rintro _ rfl
          go_wp2_with fail
          exact Post.isv (Ext.refl _) rfl rfl rfl
        -- 17: Op.binOp BinOp.gtr 3 t55 t56 3   [guarded: some (13, false)]
        apply Stage.step (Is _) [false, false, false, false, false, false, false, false, false, false, false, false, false, true, false, true, true] (Is.keeps _) (by kernel_rfl)
        · intro w1 h1
          simp only [List.nil_append, List.cons_append, Given]
          rintro _ rfl
          rintro _ rfl
          rintro _ rfl
          go_wp2_with fail
          exact Post.isv (Ext.refl _) rfl rfl rfl
        -- 18: Op.pick t53 (const (Value.bool true)) t57
        apply Stage.step (Is _) [false, false, false, false, false, false, false, false, false, false, false, false, false, true, false, false, false, true] (Is.keeps _) (by kernel_rfl)
        · intro w1 h1
          simp only [List.nil_append, List.cons_append, Given]
          rintro _ rfl
          rintro _ rfl
          go_wp2_with fail
          exact Post.isv (Ext.refl _) rfl rfl rfl
        -- 19: Op.move t58
        apply Stage.step (Is _) [false, false, false, false, false, false, false, false, false, false, false, false, false, false, false, false, false, false, true] (Is.keeps _) (by kernel_rfl)
        · intro w1 h1
          simp only [List.nil_append, List.cons_append, Given]
          rintro _ rfl
          go_wp2_with fail
          exact Post.isv (Ext.refl _) rfl rfl rfl
        -- 20: Op.fieldAddr 39 t13 0   [guarded: some (19, false)]
        apply Stage.step (Is _) [false, false, false, false, false, false, false, false, false, false, false, false, false, false, false, false, false, false, false, true] (Is.keeps _) (by kernel_rfl)
        · intro w1 h1
          simp only [List.nil_append, List.cons_append, Given]
          rintro _ rfl
          go_wp2_with fail
          exact Post.isv (Ext.refl _) rfl rfl rfl
        -- 21: Op.load 3 t60   [guarded: some (19, false)]
        apply Stage.step (Is _) [false, false, false, false, false, false, false, false, false, false, false, false, false, false, false, false, false, false, false, true, true] (Is.keeps _) (by kernel_rfl)
        · intro w1 h1
          simp only [List.nil_append, List.cons_append, Given]
          rintro _ rfl
          rintro _ rfl
          have hq := h1.cell d0
          go_wp2_with fail
          exact Post.isv (Ext.refl _) rfl rfl rfl
        -- 22: Op.move t3   [guarded: some (19, false)]
        apply Stage.step (Is _) [false, false, false, false, false, false, false, false, false, false, false, false, false, false, false, false, false, false, false, true] (Is.keeps _) (by kernel_rfl)
        · intro w1 h1
          simp only [List.nil_append, List.cons_append, Given]
          rintro _ rfl
          go_wp2_with fail
          exact Post.isv (Ext.refl _) rfl rfl rfl
        -- 23: Op.fieldAddr 39 t13 1   [guarded: some (19, false)]
        apply Stage.step (Is _) [false, false, false, false, false, false, false, false, false, false, false, false, false, false, false, false, false, false, false, true] (Is.keeps _) (by kernel_rfl)
        · intro w1 h1
          simp only [List.nil_append, List.cons_append, Given]
          rintro _ rfl
          go_wp2_with fail
          exact Post.isv (Ext.refl _) rfl rfl rfl
        -- 24: Op.load 3 t63   [guarded: some (19, false)]
        apply Stage.step (Is _) [false, false, false, false, false, false, false, false, false, false, false, false, false, false, false, false, false, false, false, true, false, false, false, true] (Is.keeps _) (by kernel_rfl)
        · intro w1 h1
          simp only [List.nil_append, List.cons_append, Given]
          rintro _ rfl
          rintro _ rfl
          have hq := h1.cell d1
          go_wp2_with fail
          exact Post.isv (Ext.refl _) rfl rfl rfl
        -- 25: Op.call { value (Operand.func 41), args := #[t62, t64], argTypes := #[24, 3] }   [guarded: some (19,
        apply Stage.step (Is _) [false, false, false, false, false, false, false, false, false, false, false, false, false, false, false, false, false, false, false, true, false, false, true, false, true] (Is.keeps _) (by kernel_rfl)
        · intro w1 h1
          simp only [List.nil_append, List.cons_append, Given]
          rintro _ rfl
          rintro _ rfl
          rintro _ rfl
          go_wp2_with fail
          first
            | exact Post.isv (Ext.refl _) rfl rfl rfl
            | (refine (ref_TagOf (l3'.ext tg_rep h1) HO).mono ?_
               rintro e w2 ⟨rfl, hx2⟩
               go_wp2_with fail
               exact Post.isv hx2 rfl rfl rfl)
        -- 26: Op.binOp BinOp.neq 3 t61 t65 3   [guarded: some (19, false)]
        apply Stage.step (Is _) [false, false, false, false, false, false, false, false, false, false, false, false, false, false, false, false, false, false, false, true, false, true, false, false, false, true] (Is.keeps _) (by kernel_rfl)
        · intro w1 h1
          simp only [List.nil_append, List.cons_append, Given]
          rintro _ rfl
          rintro _ rfl
          rintro _ rfl
          go_wp2_with fail
          exact Post.isv (Ext.refl _) rfl rfl rfl
        -- 27: Op.pick t59 (const (Value.bool true)) t66
        apply Stage.step (Is _) [false, false, false, false, false, false, false, false, false, false, false, false, false, false, false, false, false, false, false, true, false, false, false, false, false, false, true] (Is.keeps _) (by kernel_rfl)
        · intro w1 h1
          simp only [List.nil_append, List.cons_append, Given]
          rintro _ rfl
          rintro _ rfl
          go_wp2_with fail
          exact Post.isv (Ext.refl _) rfl rfl rfl
        -- 28: Op.move t67
        apply Stage.step (Is _) [false, false, false, false, false, false, false, false, false, false, false, false, false, false, false, false, false, false, false, false, false, false, false, false, false, false, false, true] (Is.keeps _) (by kernel_rfl)
        · intro w1 h1
          simp only [List.nil_append, List.cons_append, Given]
          rintro _ rfl
          go_wp2_with fail
          exact Post.isv (Ext.refl _) rfl rfl rfl
        -- 29: Op.move t15   [guarded: some (28, false)]
        apply Stage.step (Is _) [false, false, false, false, false, false, false, false, false, false, false, false, false, false, false, false, false, false, false, false, false, false, false, false, false, false, false, false, true] (Is.keeps _) (by kernel_rfl)
        · intro w1 h1
          simp only [List.nil_append, List.cons_append, Given]
          rintro _ rfl
          go_wp2_with fail
          exact Post.isv (Ext.refl _) rfl rfl rfl
        -- 30: Op.binOp BinOp.neq 41 t69 (const (0:i64)) 41   [guarded: some (28, false)]
        apply Stage.step (Is _) [false, false, false, false, false, false, false, false, false, false, false, false, false, false, false, false, false, false, false, false, false, false, false, false, false, false, false, false, true, true] (Is.keeps _) (by kernel_rfl)
        · intro w1 h1
          simp only [List.nil_append, List.cons_append, Given]
          rintro _ rfl
          rintro _ rfl
          go_wp2_with fail
          exact Post.isv (Ext.refl _) rfl rfl rfl
        -- 31: Op.pick t68 (const (Value.bool true)) t70
        apply Stage.step (Is _) [false, false, false, false, false, false, false, false, false, false, false, false, false, false, false, false, false, false, false, false, false, false, false, false, false, false, false, false, true, false, true] (Is.keeps _) (by kernel_rfl)
        · intro w1 h1
          simp only [List.nil_append, List.cons_append, Given]
          rintro _ rfl
          rintro _ rfl
          go_wp2_with fail
          exact Post.isv (Ext.refl _) rfl rfl rfl
        apply Stage.nil
        intro w1 h1
        simp only [List.nil_append, List.cons_append]
        refine Fin.is_ ?_
        refine Fin.is_ ?_
        refine Fin.is_ ?_
        refine Fin.is_ ?_
        refine Fin.is_ ?_
        refine Fin.is_ ?_
        refine Fin.is_ ?_
        refine Fin.is_ ?_
        refine Fin.is_ ?_
        refine Fin.is_ ?_
        refine Fin.is_ ?_
        refine Fin.is_ ?_
        refine Fin.is_ ?_
        refine Fin.is_ ?_
        refine Fin.is_ ?_
        refine Fin.is_ ?_
        refine Fin.is_ ?_
        refine Fin.is_ ?_
        refine Fin.is_ ?_
        refine Fin.is_ ?_
        refine Fin.is_ ?_
        refine Fin.is_ ?_
        refine Fin.is_ ?_
        refine Fin.is_ ?_
        refine Fin.is_ ?_
        refine Fin.is_ ?_
        refine Fin.is_ ?_
        refine Fin.is_ ?_
        refine Fin.is_ ?_
        refine Fin.is_ ?_
        refine Fin.is_ ?_
        refine Fin.is_ ?_
        refine Fin.nil_ ?_
        go_simp
        go_wp2_with fail
        go_ret
        exact ⟨_, _, _, rfl, hown2.ext en_rep h1, hx3.trans h1⟩
      · obtain rfl : r = true := by rw [← hr]; exact hev2.trans hv
        have q5 : (er != 0) = false := by rw [← her, hv]; rfl
        have HY := hY rfl
        clear hN hev hev2 e2 e3 e4 her hv
        clear hY hog hr
        go_wp2_with fail
        refine (ref_GetEvent (sa.ext (Ext.alloc _ _)) (by omega) HE HG).mono ?_
        rintro e1 w2 ⟨A2, n2, c2, rfl, hb2, hx2⟩
        have hx3 : Ext w (w2.alloc (.cells #[.int .i64 K, .int .i64 O, .int .i64 M, .slice A2 n2 c2, .string S] 63)) := ((hxr.allocs _).trans hx2).allocs _
        have d0 := (Ext.alloc w2 (.cells #[.int .i64 K, .int .i64 O, .int .i64 M, .slice A2 n2 c2, .string S] 63)).cell (hx2.cell (cell_new wr #[.int .i64 xt, .int .i64 xs', .slice Aa na ca] 39 0))
        have d1 := (Ext.alloc w2 (.cells #[.int .i64 K, .int .i64 O, .int .i64 M, .slice A2 n2 c2, .string S] 63)).cell (hx2.cell (cell_new wr #[.int .i64 xt, .int .i64 xs', .slice Aa na ca] 39 1))
        have d2 := (Ext.alloc w2 (.cells #[.int .i64 K, .int .i64 O, .int .i64 M, .slice A2 n2 c2, .string S] 63)).cell (hx2.cell (cell_new wr #[.int .i64 xt, .int .i64 xs', .slice Aa na ca] 39 2))
        have hown2 := (hown.ext en_rep ((Ext.alloc _ _).trans hx2)).ext en_rep (Ext.alloc w2 (.cells #[.int .i64 K, .int .i64 O, .int .i64 M, .slice A2 n2 c2, .string S] 63))
        have l3' := l3.ext tg_rep hx3
        clear a0 a1 a2
        rw [HER.out]
        go_wp2_with fail
        refine wp_region_typed Ext.steady rfl 77 rfl (by kernel_rfl) ?_
        -- 0: Op.load 39 t13
        apply Stage.step (Is _) [] (Is.keeps _) (by kernel_rfl)
        · intro w1 h1
          simp only [Given]
          have hq0 := h1.cell d0
          have hq1 := h1.cell d1
          have hq2 := h1.cell d2
          go_wp2_with fail
          exact Post.isv (Ext.refl _) rfl rfl rfl
        -- 1: Op.call { value (Operand.func 65), args := #[t40], argTypes := #[39] }
        apply Stage.step (Is _) [true] (Is.keeps _) (by kernel_rfl)
        · intro w1 h1
          simp only [List.nil_append, Given]
          rintro _ rfl
          go_wp2_with fail
          refine (ref_RightEntry xt xs' Aa na ca _ hna63).mono ?_
          rintro e w2 ⟨rfl, hx2⟩
          rw [hrr]
          go_wp2_with fail
          exact Post.isv hx2 rfl rfl rfl
        -- 2: Op.unOp UnOp.not 4 t41
        apply Stage.step (Is _) [false, true] (Is.keeps _) (by kernel_rfl)
        · intro w1 h1
          simp only [List.nil_append, List.cons_append, Given]
          rintro _ rfl
          go_wp2_with fail
          exact Post.isv (Ext.refl _) rfl rfl rfl
        -- 3: Op.move t42
        apply Stage.step (Is _) [false, false, true] (Is.keeps _) (by kernel_rfl)
        · intro w1 h1
          simp only [List.nil_append, List.cons_append, Given]
          rintro _ rfl
          go_wp2_with fail
          exact Post.isv (Ext.refl _) rfl rfl rfl
        -- 4: Op.fieldAddr 39 t13 1   [guarded: some (3, false)]
        apply Stage.step (Is _) [false, false, false, true] (Is.keeps _) (by kernel_rfl)
        · intro w1 h1
          simp only [List.nil_append, List.cons_append, Given]
          rintro _ rfl
          go_wp2_with fail
          exact Post.isv (Ext.refl _) rfl rfl rfl
        -- 5: Op.load 3 t44   [guarded: some (3, false)]
        apply Stage.step (Is _) [false, false, false, true, true] (Is.keeps _) (by kernel_rfl)
        · intro w1 h1
          simp only [List.nil_append, List.cons_append, Given]
          rintro _ rfl
          rintro _ rfl
          have hq := h1.cell d1
          go_wp2_with fail
          exact Post.isv (Ext.refl _) rfl rfl rfl
        -- 6: Op.move t11   [guarded: some (3, false)]
        apply Stage.step (Is _) [false, false, false, true] (Is.keeps _) (by kernel_rfl)
        · intro w1 h1
          simp only [List.nil_append, List.cons_append, Given]
          rintro _ rfl
          go_wp2_with fail
          exact Post.isv (Ext.refl _) rfl rfl rfl
        -- 7: Op.call { builtin len, args := #[t46], argTypes := #[32] }   [guarded: some (3, false)]
        apply Stage.step (Is _) [false, false, false, true, false, false, true] (Is.keeps _) (by kernel_rfl)
        · intro w1 h1
          simp only [List.nil_append, List.cons_append, Given]
          rintro _ rfl
          rintro _ rfl
          go_wp2_with fail
          exact Post.isv (Ext.refl _) rfl rfl rfl
        -- 8: Op.binOp BinOp.sub 3 t45 t47 3   [guarded: some (3, false)]
        apply Stage.step (Is _) [false, false, false, true, false, true, false, true] (Is.keeps _) (by kernel_rfl)
        · intro w1 h1
          simp only [List.nil_append, List.cons_append, Given]
          rintro _ rfl
          rintro _ rfl
          rintro _ rfl
          go_wp2_with fail
          exact Post.isv (Ext.refl _) rfl rfl rfl
        -- 9: Op.binOp BinOp.sub 3 t48 (const (1:i64)) 3   [guarded: some (3, false)]
        apply Stage.step (Is _) [false, false, false, true, false, false, false, false, true] (Is.keeps _) (by kernel_rfl)
        · intro w1 h1
          simp only [List.nil_append, List.cons_append, Given]
          rintro _ rfl
          rintro _ rfl
          go_wp2_with fail
          exact Post.isv (Ext.refl _) rfl rfl rfl
        -- 10: Op.move t1   [guarded: some (3, false)]
        apply Stage.step (Is _) [false, false, false, true] (Is.keeps _) (by kernel_rfl)
        · intro w1 h1
          simp only [List.nil_append, List.cons_append, Given]
          rintro _ rfl
          go_wp2_with fail
          exact Post.isv (Ext.refl _) rfl rfl rfl
        -- 11: Op.binOp BinOp.neq 3 t49 t50 3   [guarded: some (3, false)]
        apply Stage.step (Is _) [false, false, false, true, false, false, false, false, false, true, true] (Is.keeps _) (by kernel_rfl)
        · intro w1 h1
          simp only [List.nil_append, List.cons_append, Given]
          rintro _ rfl
          rintro _ rfl
          rintro _ rfl
          go_wp2_with fail
          exact Post.isv (Ext.refl _) rfl rfl rfl
        -- 12: Op.pick t43 (const (Value.bool true)) t51
        apply Stage.step (Is _) [false, false, false, true, false, false, false, false, false, false, false, true] (Is.keeps _) (by kernel_rfl)
        · intro w1 h1
          simp only [List.nil_append, List.cons_append, Given]
          rintro _ rfl
          rintro _ rfl
          go_wp2_with fail
          exact Post.isv (Ext.refl _) rfl rfl rfl
        -- 13: Op.move t52
        apply Stage.step (Is _) [false, false, false, false, false, false, false, false, false, false, false, false, true] (Is.keeps _) (by kernel_rfl)
        · intro w1 h1
          simp only [List.nil_append, List.cons_append, Given]
          rintro _ rfl
          go_wp2_with fail
          exact Post.isv (Ext.refl _) rfl rfl rfl
        -- 14: Op.fieldAddr 39 t13 1   [guarded: some (13, false)]
        apply Stage.step (Is _) [false, false, false, false, false, false, false, false, false, false, false, false, false, true] (Is.keeps _) (by kernel_rfl)
        · intro w1 h1
          simp only [List.nil_append, List.cons_append, Given]
          rintro _ rfl
          go_wp2_with fail
          exact Post.isv (Ext.refl _) rfl rfl rfl
        -- 15: Op.load 3 t54   [guarded: some (13, false)]
        apply Stage.step (Is _) [false, false, false, false, false, false, false, false, false, false, false, false, false, true, true] (Is.keeps _) (by kernel_rfl)
        · intro w1 h1
          simp only [List.nil_append, List.cons_append, Given]
          rintro _ rfl
          rintro _ rfl
          have hq := h1.cell d1
          go_wp2_with fail
          exact Post.isv (Ext.refl _) rfl rfl rfl
        -- 16: Op.move t4   [guarded: some (13, false)]
        apply Stage.step (Is _) [false, false, false, false, false, false, false, false, false, false, false, false, false, true] (Is.keeps _) (by kernel_rfl)
        · intro w1 h1
          simp only [List.nil_append, List.cons_append, Given]
          rintro _ rfl
          go_wp2_with fail
          exact Post.isv (Ext.refl _) rfl rfl rfl
        -- 17: Op.binOp BinOp.gtr 3 t55 t56 3   [guarded: some (13, false)]
        apply Stage.step (Is _) [false, false, false, false, false, false, false, false, false, false, false, false, false, true, false, true, true] (Is.keeps _) (by kernel_rfl)
        · intro w1 h1
          simp only [List.nil_append, List.cons_append, Given]
          rintro _ rfl
          rintro _ rfl
          rintro _ rfl
          go_wp2_with fail
          exact Post.isv (Ext.refl _) rfl rfl rfl
        -- 18: Op.pick t53 (const (Value.bool true)) t57
        apply Stage.step (Is _) [false, false, false, false, false, false, false, false, false, false, false, false, false, true, false, false, false, true] (Is.keeps _) (by kernel_rfl)
        · intro w1 h1
          simp only [List.nil_append, List.cons_append, Given]
          rintro _ rfl
          rintro _ rfl
          go_wp2_with fail
          exact Post.isv (Ext.refl _) rfl rfl rfl
        -- 19: Op.move t58
        apply Stage.step (Is _) [false, false, false, false, false, false, false, false, false, false, false, false, false, false, false, false, false, false, true] (Is.keeps _) (by kernel_rfl)
        · intro w1 h1
          simp only [List.nil_append, List.cons_append, Given]
          rintro _ rfl
          go_wp2_with fail
          exact Post.isv (Ext.refl _) rfl rfl rfl
        -- 20: Op.fieldAddr 39 t13 0   [guarded: some (19, false)]
        apply Stage.step (Is _) [false, false, false, false, false, false, false, false, false, false, false, false, false, false, false, false, false, false, false, true] (Is.keeps _) (by kernel_rfl)
        · intro w1 h1
          simp only [List.nil_append, List.cons_append, Given]
          rintro _ rfl
          go_wp2_with fail
          exact Post.isv (Ext.refl _) rfl rfl rfl
        -- 21: Op.load 3 t60   [guarded: some (19, false)]
        apply Stage.step (Is _) [false, false, false, false, false, false, false, false, false, false, false, false, false, false, false, false, false, false, false, true, true] (Is.keeps _) (by kernel_rfl)
        · intro w1 h1
          simp only [List.nil_append, List.cons_append, Given]
          rintro _ rfl
          rintro _ rfl
          have hq := h1.cell d0
          go_wp2_with fail
          exact Post.isv (Ext.refl _) rfl rfl rfl
        -- 22: Op.move t3   [guarded: some (19, false)]
        apply Stage.step (Is _) [false, false, false, false, false, false, false, false, false, false, false, false, false, false, false, false, false, false, false, true] (Is.keeps _) (by kernel_rfl)
        · intro w1 h1
          simp only [List.nil_append, List.cons_append, Given]
          rintro _ rfl
          go_wp2_with fail
          exact Post.isv (Ext.refl _) rfl rfl rfl
        -- 23: Op.fieldAddr 39 t13 1   [guarded: some (19, false)]
        apply Stage.step (Is _) [false, false, false, false, false, false, false, false, false, false, false, false, false, false, false, false, false, false, false, true] (Is.keeps _) (by kernel_rfl)
        · intro w1 h1
          simp only [List.nil_append, List.cons_append, Given]
          rintro _ rfl
          go_wp2_with fail
          exact Post.isv (Ext.refl _) rfl rfl rfl
        -- 24: Op.load 3 t63   [guarded: some (19, false)]
        apply Stage.step (Is _) [false, false, false, false, false, false, false, false, false, false, false, false, false, false, false, false, false, false, false, true, false, false, false, true] (Is.keeps _) (by kernel_rfl)
        · intro w1 h1
          simp only [List.nil_append, List.cons_append, Given]
          rintro _ rfl
          rintro _ rfl
          have hq := h1.cell d1
          go_wp2_with fail
          exact Post.isv (Ext.refl _) rfl rfl rfl
        -- 25: Op.call { value (Operand.func 41), args := #[t62, t64], argTypes := #[24, 3] }   [guarded: some (19,
        apply Stage.step (Is _) [false, false, false, false, false, false, false, false, false, false, false, false, false, false, false, false, false, false, false, true, false, false, true, false, true] (Is.keeps _) (by kernel_rfl)
        · intro w1 h1
          simp only [List.nil_append, List.cons_append, Given]
          rintro _ rfl
          rintro _ rfl
          rintro _ rfl
          go_wp2_with fail
          first
            | exact Post.isv (Ext.refl _) rfl rfl rfl
            | (refine (ref_TagOf (l3'.ext tg_rep h1) HO).mono ?_
               rintro e w2 ⟨rfl, hx2⟩
               go_wp2_with fail
               exact Post.isv hx2 rfl rfl rfl)
        -- 26: Op.binOp BinOp.neq 3 t61 t65 3   [guarded: some (19, false)]
        apply Stage.step (Is _) [false, false, false, false, false, false, false, false, false, false, false, false, false, false, false, false, false, false, false, true, false, true, false, false, false, true] (Is.keeps _) (by kernel_rfl)
        · intro w1 h1
          simp only [List.nil_append, List.cons_append, Given]
          rintro _ rfl
          rintro _ rfl
          rintro _ rfl
          go_wp2_with fail
          exact Post.isv (Ext.refl _) rfl rfl rfl
        -- 27: Op.pick t59 (const (Value.bool true)) t66
        apply Stage.step (Is _) [false, false, false, false, false, false, false, false, false, false, false, false, false, false, false, false, false, false, false, true, false, false, false, false, false, false, true] (Is.keeps _) (by kernel_rfl)
        · intro w1 h1
          simp only [List.nil_append, List.cons_append, Given]
          rintro _ rfl
          rintro _ rfl
          go_wp2_with fail
          exact Post.isv (Ext.refl _) rfl rfl rfl
        -- 28: Op.move t67
        apply Stage.step (Is _) [false, false, false, false, false, false, false, false, false, false, false, false, false, false, false, false, false, false, false, false, false, false, false, false, false, false, false, true] (Is.keeps _) (by kernel_rfl)
        · intro w1 h1
          simp only [List.nil_append, List.cons_append, Given]
          rintro _ rfl
          go_wp2_with fail
          exact Post.isv (Ext.refl _) rfl rfl rfl
        -- 29: Op.move t15   [guarded: some (28, false)]
        apply Stage.step (Is _) [false, false, false, false, false, false, false, false, false, false, false, false, false, false, false, false, false, false, false, false, false, false, false, false, false, false, false, false, true] (Is.keeps _) (by kernel_rfl)
        · intro w1 h1
          simp only [List.nil_append, List.cons_append, Given]
          rintro _ rfl
          go_wp2_with fail
          exact Post.isv (Ext.refl _) rfl rfl rfl
        -- 30: Op.binOp BinOp.neq 41 t69 (const (0:i64)) 41   [guarded: some (28, false)]
        apply Stage.step (Is _) [false, false, false, false, false, false, false, false, false, false, false, false, false, false, false, false, false, false, false, false, false, false, false, false, false, false, false, false, true, true] (Is.keeps _) (by kernel_rfl)
        · intro w1 h1
          simp only [List.nil_append, List.cons_append, Given]
          rintro _ rfl
          rintro _ rfl
          go_wp2_with fail
          exact Post.isv (Ext.refl _) rfl rfl rfl
        -- 31: Op.pick t68 (const (Value.bool true)) t70
        apply Stage.step (Is _) [false, false, false, false, false, false, false, false, false, false, false, false, false, false, false, false, false, false, false, false, false, false, false, false, false, false, false, false, true, false, true] (Is.keeps _) (by kernel_rfl)
        · intro w1 h1
          simp only [List.nil_append, List.cons_append, Given]
          rintro _ rfl
          rintro _ rfl
          go_wp2_with fail
          exact Post.isv (Ext.refl _) rfl rfl rfl
        apply Stage.nil
        intro w1 h1
        simp only [List.nil_append, List.cons_append]
        refine Fin.is_ ?_
        refine Fin.is_ ?_
        refine Fin.is_ ?_
        refine Fin.is_ ?_
        refine Fin.is_ ?_
        refine Fin.is_ ?_
        refine Fin.is_ ?_
        refine Fin.is_ ?_
        refine Fin.is_ ?_
        refine Fin.is_ ?_
        refine Fin.is_ ?_
        refine Fin.is_ ?_
        refine Fin.is_ ?_
        refine Fin.is_ ?_
        refine Fin.is_ ?_
        refine Fin.is_ ?_
        refine Fin.is_ ?_
        refine Fin.is_ ?_
        refine Fin.is_ ?_
        refine Fin.is_ ?_
        refine Fin.is_ ?_
        refine Fin.is_ ?_
        refine Fin.is_ ?_
        refine Fin.is_ ?_
        refine Fin.is_ ?_
        refine Fin.is_ ?_
        refine Fin.is_ ?_
        refine Fin.is_ ?_
        refine Fin.is_ ?_
        refine Fin.is_ ?_
        refine Fin.is_ ?_
        refine Fin.is_ ?_
        refine Fin.nil_ ?_
        go_simp
        replace d0 := h1.cell d0
        replace d1 := h1.cell d1
        replace d2 := h1.cell d2
        have hx4 := hx3.trans h1
        have hown3 := hown2.ext en_rep h1
        have sa3 := sa.ext ((((Ext.alloc _ _).trans hx2).trans (Ext.alloc _ _)).trans h1)
        have hfd := Feed.lit (P := Try.prog) (e := 39) (tx := 32) (A := Ak) (c := ck) en_rep #[.int .i64 xt, .int .i64 xs', .slice Aa na ca] ⟨xt, xs', xd⟩ ⟨Aa, na, ca, rfl, sa3⟩ under_ens hp rfl
        go_wp2_with (
          at_builtin
          refine wpList_append_lst (w0 := w) en_rep rfl _ _ _ _ rfl TEn i0 _ 40 under_ens hi0 hz0 hz1 hz2 rfl Ak m ck _ rfl (hown3.ext en_rep (Ext.alloc _ _)) _ 1 [⟨xt, xs', xd⟩] rfl hfd (m + 1) rfl _ rfl (by simp only [maxLen]; omega) (by omega) (hx4.allocs _) ?_
          intro A3 c3 w4 hb3 hx5)
        go_wp2_with fail
        go_roundw
        case rel => exact ⟨k + 1, m + 1, A3, c3, _, by omega, by omega, rfl, by go_num, hb3, HY, hx5⟩
        case measure => simp [intOf]; omega
end Go.Proofs.Ytkoknleopmlhcaa
