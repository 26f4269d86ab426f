/-
  Lists of events: contract of the reference's SameEvents.
-/
import Derived.Test.YtcklkjklepmabaaZEvs
import Derived.Test.YtcklkjklepmabaaZEvSameE
namespace Go.Proofs.Ytcklkjklepmabaa
open Go.RowKit
set_option linter.unusedVariables false
set_option linter.unusedSimpArgs false
set_option linter.unnecessarySimpa false
set_option maxRecDepth 100000

theorem sameE_dec (x y : Ev) : sameE x.k x.o x.m x.l x.s y.k y.o y.m y.l y.s = decide (x = y) := by
  rw [Bool.eq_iff_iff, decide_eq_true_eq]
  unfold sameE
  simp only [Bool.and_eq_true, decide_eq_true_eq, beq_iff_eq, ByteArray.toList_eq]
  constructor
  · intro h
    obtain ⟨xk, xo, xm, xl, ⟨xs⟩⟩ := x
    obtain ⟨yk, yo, ym, yl, ⟨ys⟩⟩ := y
    simp_all
  · rintro rfl
    simp
def sameEv (xs ys : List Ev) : Bool := decide (xs = ys)
theorem take_nextE {xs ys : List Ev} {k : Nat} {x y : Ev} (h : xs.take k = ys.take k) (hx : xs[k]? = some x) (hy : ys[k]? = some y) (e : x = y) : xs.take (k + 1) = ys.take (k + 1) := by
  rw [List.take_add_one, List.take_add_one, h, hx, hy, e]
theorem sameEv_no {xs ys : List Ev} {k : Nat} {x y : Ev} (hx : xs[k]? = some x) (hy : ys[k]? = some y) (e : x ≠ y) : sameEv xs ys = false := by
  unfold sameEv
  rw [decide_eq_false_iff_not]
  rintro rfl
  rw [hx] at hy
  injection hy with hy
  exact e hy
set_option maxHeartbeats 2000000 in
theorem ref_SameEvents {A : Option Addr} {n c : Nat} {xs : List Ev} {A' : Option Addr} {n' c' : Nat} {ys : List Ev} {w : World} (h1 : Lst 5 evR w A n c xs) (h2 : Lst 5 evR w A' n' c' ys) :
    Calls Try.prog 27 #[.slice A n c, .slice A' n' c'] w fun e w' => e = .returned (.bool (sameEv xs ys)) ∧ Ext w w' := by
  have h63 := h1.n63
  have h63' := h2.n63
  by_cases hn : n = n'
  case neg =>
    have hne : sameEv xs ys = false := by
      unfold sameEv
      rw [decide_eq_false_iff_not]
      rintro rfl
      exact hn (h1.len.symm.trans h2.len)
    rw [hne]
    have hnn : ((n : Int) != (n' : Int)) = true := by simp; omega
    clear hn hne
    go_enter Try.func27, Try.ntmps27
    go_wp2_with fail
    go_ret
    exact ⟨rfl, Ext.refl _⟩
  subst hn
  obtain ⟨res, hres⟩ : ∃ q, sameEv xs ys = q := ⟨_, rfl⟩
  have HRES := Lib.hid hres
  rw [hres]
  clear hres
  go_enter Try.func27, Try.ntmps27
  go_wp2_with fail
  go_loopw [5] (fun i wr => ∃ k : Nat, k ≤ n ∧ i = .int .i64 k ∧ Hid (xs.take k = ys.take k) ∧ Ext w wr) (fun i _ => n - (intOf i).toNat)
  case atStart => exact ⟨0, by omega, rfl, rfl, Ext.refl _⟩
  case round =>
    obtain ⟨k, hk, rfl, ht, hxr⟩ := hrel
    by_cases hlt : k < n
    · obtain ⟨ga, oa, x, cs, rfl, hx, ⟨Aa, na, ca, rfl, sa0, hs1⟩, ha⟩ := h1.at2 ev_rep (by omega) hlt
      obtain ⟨gb, ob, y, ds, rfl, hy, ⟨Ab, nb, cb, rfl, sb0, hs2⟩, hb⟩ := h2.at2 ev_rep (by omega) hlt
      have a0 : wr.cell? ⟨ga, oa + k * 5, none⟩ = _ := hxr.cell (ha 0 _ rfl)
      have a1 := hxr.cell (ha 1 _ rfl)
      have a2 := hxr.cell (ha 2 _ rfl)
      have a3 := hxr.cell (ha 3 _ rfl)
      have a4 := hxr.cell (ha 4 _ rfl)
      have b0 : wr.cell? ⟨gb, ob + k * 5, none⟩ = _ := hxr.cell (hb 0 _ rfl)
      have b1 := hxr.cell (hb 1 _ rfl)
      have b2 := hxr.cell (hb 2 _ rfl)
      have b3 := hxr.cell (hb 3 _ rfl)
      have b4 := hxr.cell (hb 4 _ rfl)
      have sa := sa0.ext hxr
      have sb := sb0.ext hxr
      have HX := Lib.hid hx
      have HY := Lib.hid hy
      obtain ⟨d, hd⟩ : ∃ q, decide (x = y) = q := ⟨_, rfl⟩
      have HD : Hid (sameE x.k x.o x.m x.l x.s y.k y.o y.m y.l y.s = d) := by unfold Hid; rw [sameE_dec]; exact hd
      have hdt : d = true → Hid (xs.take (k + 1) = ys.take (k + 1)) := fun e => take_nextE ht.out hx hy (by rw [e] at hd; exact of_decide_eq_true hd)
      have hdf : d = false → res = false := fun e => by rw [← HRES.out]; exact sameEv_no hx hy (by rw [e] at hd; exact of_decide_eq_false hd)
      obtain ⟨xk, xo, xm, xl, xs'⟩ := x
      obtain ⟨yk, yo, ym, yl, ys'⟩ := y
      simp only at a0 a1 a2 a3 a4 b0 b1 b2 b3 b4 sa sb HD
      clear hx hy ha hb sa0 sb0 hd HX HY
      cases d with
      | false =>
        obtain rfl := hdf rfl
        clear hdt hdf
        go_wp2_with fail
        refine wp_region_typed Ext.steady rfl 27 rfl (by kernel_rfl) ?_
        -- 0: Op.move t0
        apply Stage.step (Is _) [] (Is.keeps _) (by kernel_rfl)
        · intro w1 h1
          simp only [Given]
          go_wp2_with fail
          exact Post.isv (Ext.refl _) rfl rfl rfl
        -- 1: Op.move t5
        apply Stage.step (Is _) [] (Is.keeps _) (by kernel_rfl)
        · intro w1 h1
          simp only [Given]
          go_wp2_with fail
          exact Post.isv (Ext.refl _) rfl rfl rfl
        -- 2: Op.indexAddr 23 t17 t18
        apply Stage.step (Is _) [true, true] (Is.keeps _) (by kernel_rfl)
        · intro w1 h1
          simp only [List.nil_append, List.cons_append, Given]
          rintro _ rfl
          rintro _ rfl
          go_wp2_with fail
          exact Post.isv (Ext.refl _) rfl rfl rfl
        -- 3: Op.load 28 t19
        apply Stage.step (Is _) [false, false, true] (Is.keeps _) (by kernel_rfl)
        · intro w1 h1
          simp only [List.nil_append, List.cons_append, Given]
          rintro _ rfl
          have hq0 := h1.cell a0
          have hq1 := h1.cell a1
          have hq2 := h1.cell a2
          have hq3 := h1.cell a3
          have hq4 := h1.cell a4
          go_wp2_with fail
          exact Post.isv (Ext.refl _) rfl rfl rfl
        -- 4: Op.move t1
        apply Stage.step (Is _) [] (Is.keeps _) (by kernel_rfl)
        · intro w1 h1
          simp only [Given]
          go_wp2_with fail
          exact Post.isv (Ext.refl _) rfl rfl rfl
        -- 5: Op.move t5
        apply Stage.step (Is _) [] (Is.keeps _) (by kernel_rfl)
        · intro w1 h1
          simp only [Given]
          go_wp2_with fail
          exact Post.isv (Ext.refl _) rfl rfl rfl
        -- 6: Op.indexAddr 23 t21 t22
        apply Stage.step (Is _) [false, false, false, false, true, true] (Is.keeps _) (by kernel_rfl)
        · intro w1 h1
          simp only [List.nil_append, List.cons_append, Given]
          rintro _ rfl
          rintro _ rfl
          go_wp2_with fail
          exact Post.isv (Ext.refl _) rfl rfl rfl
        -- 7: Op.load 28 t23
        apply Stage.step (Is _) [false, false, false, false, false, false, true] (Is.keeps _) (by kernel_rfl)
        · intro w1 h1
          simp only [List.nil_append, List.cons_append, Given]
          rintro _ rfl
          have hq0 := h1.cell b0
          have hq1 := h1.cell b1
          have hq2 := h1.cell b2
          have hq3 := h1.cell b3
          have hq4 := h1.cell b4
          go_wp2_with fail
          exact Post.isv (Ext.refl _) rfl rfl rfl
        -- 8: Op.call { value (Operand.func 37), args := #[t20, t24], argTypes := #[28, 28] }
        apply Stage.step (Is _) [false, false, false, true, false, false, false, true] (Is.keeps _) (by kernel_rfl)
        · intro w1 h1
          simp only [List.nil_append, List.cons_append, Given]
          rintro _ rfl
          rintro _ rfl
          go_wp2_with fail
          refine (ref_SameEvent xk xo xm Aa na ca xl xs' yk yo ym Ab nb cb yl ys' _ (sa.ext h1) (sb.ext h1)).mono ?_
          rintro e w2 ⟨rfl, hx2⟩
          rw [HD.out]
          go_wp2_with fail
          exact Post.isv hx2 rfl rfl rfl
        -- 9: Op.unOp UnOp.not 4 t25
        apply Stage.step (Is _) [false, false, false, false, false, false, false, false, true] (Is.keeps _) (by kernel_rfl)
        · intro w1 h1
          simp only [List.nil_append, List.cons_append, Given]
          rintro _ rfl
          go_wp2_with fail
          exact Post.isv (Ext.refl _) rfl rfl rfl
        apply Stage.nil
        intro w1 h1
        simp only [List.nil_append, List.cons_append]
        refine Fin.is_ ?_
        refine Fin.is_ ?_
        refine Fin.is_ ?_
        refine Fin.is_ ?_
        refine Fin.is_ ?_
        refine Fin.is_ ?_
        refine Fin.is_ ?_
        refine Fin.is_ ?_
        refine Fin.is_ ?_
        refine Fin.is_ ?_
        refine Fin.nil_ ?_
        go_simp
        go_wp2_with fail
        go_ret
        exact ⟨rfl, hxr.trans h1⟩
      | true =>
        replace hdt := hdt rfl
        clear hdf
        go_wp2_with fail
        refine wp_region_typed Ext.steady rfl 27 rfl (by kernel_rfl) ?_
        -- 0: Op.move t0
        apply Stage.step (Is _) [] (Is.keeps _) (by kernel_rfl)
        · intro w1 h1
          simp only [Given]
          go_wp2_with fail
          exact Post.isv (Ext.refl _) rfl rfl rfl
        -- 1: Op.move t5
        apply Stage.step (Is _) [] (Is.keeps _) (by kernel_rfl)
        · intro w1 h1
          simp only [Given]
          go_wp2_with fail
          exact Post.isv (Ext.refl _) rfl rfl rfl
        -- 2: Op.indexAddr 23 t17 t18
        apply Stage.step (Is _) [true, true] (Is.keeps _) (by kernel_rfl)
        · intro w1 h1
          simp only [List.nil_append, List.cons_append, Given]
          rintro _ rfl
          rintro _ rfl
          go_wp2_with fail
          exact Post.isv (Ext.refl _) rfl rfl rfl
        -- 3: Op.load 28 t19
        apply Stage.step (Is _) [false, false, true] (Is.keeps _) (by kernel_rfl)
        · intro w1 h1
          simp only [List.nil_append, List.cons_append, Given]
          rintro _ rfl
          have hq0 := h1.cell a0
          have hq1 := h1.cell a1
          have hq2 := h1.cell a2
          have hq3 := h1.cell a3
          have hq4 := h1.cell a4
          go_wp2_with fail
          exact Post.isv (Ext.refl _) rfl rfl rfl
        -- 4: Op.move t1
        apply Stage.step (Is _) [] (Is.keeps _) (by kernel_rfl)
        · intro w1 h1
          simp only [Given]
          go_wp2_with fail
          exact Post.isv (Ext.refl _) rfl rfl rfl
        -- 5: Op.move t5
        apply Stage.step (Is _) [] (Is.keeps _) (by kernel_rfl)
        · intro w1 h1
          simp only [Given]
          go_wp2_with fail
          exact Post.isv (Ext.refl _) rfl rfl rfl
        -- 6: Op.indexAddr 23 t21 t22
        apply Stage.step (Is _) [false, false, false, false, true, true] (Is.keeps _) (by kernel_rfl)
        · intro w1 h1
          simp only [List.nil_append, List.cons_append, Given]
          rintro _ rfl
          rintro _ rfl
          go_wp2_with fail
          exact Post.isv (Ext.refl _) rfl rfl rfl
        -- 7: Op.load 28 t23
        apply Stage.step (Is _) [false, false, false, false, false, false, true] (Is.keeps _) (by kernel_rfl)
        · intro w1 h1
          simp only [List.nil_append, List.cons_append, Given]
          rintro _ rfl
          have hq0 := h1.cell b0
          have hq1 := h1.cell b1
          have hq2 := h1.cell b2
          have hq3 := h1.cell b3
          have hq4 := h1.cell b4
          go_wp2_with fail
          exact Post.isv (Ext.refl _) rfl rfl rfl
        -- 8: Op.call { value (Operand.func 37), args := #[t20, t24], argTypes := #[28, 28] }
        apply Stage.step (Is _) [false, false, false, true, false, false, false, true] (Is.keeps _) (by kernel_rfl)
        · intro w1 h1
          simp only [List.nil_append, List.cons_append, Given]
          rintro _ rfl
          rintro _ rfl
          go_wp2_with fail
          refine (ref_SameEvent xk xo xm Aa na ca xl xs' yk yo ym Ab nb cb yl ys' _ (sa.ext h1) (sb.ext h1)).mono ?_
          rintro e w2 ⟨rfl, hx2⟩
          rw [HD.out]
          go_wp2_with fail
          exact Post.isv hx2 rfl rfl rfl
        -- 9: Op.unOp UnOp.not 4 t25
        apply Stage.step (Is _) [false, false, false, false, false, false, false, false, true] (Is.keeps _) (by kernel_rfl)
        · intro w1 h1
          simp only [List.nil_append, List.cons_append, Given]
          rintro _ rfl
          go_wp2_with fail
          exact Post.isv (Ext.refl _) rfl rfl rfl
        apply Stage.nil
        intro w1 h1
        simp only [List.nil_append, List.cons_append]
        refine Fin.is_ ?_
        refine Fin.is_ ?_
        refine Fin.is_ ?_
        refine Fin.is_ ?_
        refine Fin.is_ ?_
        refine Fin.is_ ?_
        refine Fin.is_ ?_
        refine Fin.is_ ?_
        refine Fin.is_ ?_
        refine Fin.is_ ?_
        refine Fin.nil_ ?_
        go_simp
        go_wp2_with fail
        go_roundw
        case rel => exact ⟨k + 1, by omega, by go_num, hdt, hxr.trans h1⟩
        case measure => simp [intOf]; omega
    · go_wp2_with fail
      have e := ht.out
      rw [List.take_of_length_le (by rw [h1.len]; omega), List.take_of_length_le (by rw [h2.len]; omega)] at e
      obtain rfl : true = res := by rw [← HRES.out]; unfold sameEv; simp [e]
      go_ret
      exact ⟨rfl, hxr⟩
end Go.Proofs.Ytcklkjklepmabaa
