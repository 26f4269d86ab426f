/-
  The walk of one statement of chapter 14: rows of events, what each answers, what the image is behind it.
-/
import Derived.Test.YtcklkjklepmabaaZKnown14
import Derived.Test.YtcklkjklepmabaaZFoldLaws
import Derived.Test.YtcklkjklepmabaaZRefApply
import Derived.Test.YtcklkjklepmabaaZRead2
import Derived.Test.YtcklkjklepmabaaZOpenEvs
import Derived.Test.YtcklkjklepmabaaZReg4
namespace Go.Proofs.Ytcklkjklepmabaa
open Go.RowKit
set_option linter.unusedVariables false
set_option linter.unusedSimpArgs false
set_option linter.unnecessarySimpa false
set_option maxRecDepth 100000

theorem small_len {xs : List Ev} {m : Nat} (h : smallB xs m = true) : xs.length ≤ m := (of_decide_eq_true h).2
def NewT (z : St) : Ty := fun v w => ∃ A n c, v = stV A n c none 0 0 ∧ StR w A n c none 0 0 z
theorem NewT.keeps (z : St) : Keeps Ext (NewT z) := fun _ _ _ hx ⟨A, n, c, e, h⟩ => ⟨A, n, c, e, h.ext hx⟩
/-- one image in its box, another one in memory -/
def StB2 (g : Nat) (s : St) (A : Option Addr) (n c : Nat) (A2 : Option Addr) (n2 c2 : Nat) : Ty := fun v w => StB g 0 s v w ∧ StF w 0 A n c A2 n2 c2 s
theorem StB2.keeps (g : Nat) (s : St) (A : Option Addr) (n c : Nat) (A2 : Option Addr) (n2 c2 : Nat) : Keeps Ext (StB2 g s A n c A2 n2 c2) := fun v w w' hx h => ⟨StB.keeps g 0 s v w w' hx h.1, h.2.ext hx⟩
set_option maxHeartbeats 8000000 in
theorem law_ModelPlays (z : Int) (A : Option Addr) (n c : Nat) (l : List Ev) (nm : ByteArray) (off nn : Int) (w : World) (hz1 : -9223372036854775808 ≤ z) (hz2 : z ≤ 9223372036854775807) (h : Lst 5 evR w A n c l) (hnm : nm.size ≤ maxLen) (hf1 : -9223372036854775808 ≤ off) (hf2 : off ≤ 9223372036854775807) (hn1 : -9223372036854775808 ≤ nn) (hn2 : nn ≤ 9223372036854775807) :
    Calls Try.prog 13 #[.int .i64 z, .slice A n c, .string nm, .int .i64 off, .int .i64 nn] w fun e w' => e = .returned (.bool true) ∧ Ext w w' := by
  have h63 := h.n63
  have hnm' : nm.size ≤ 9223372036854775807 := by simp only [maxLen] at hnm; omega
  obtain ⟨f, hf⟩ : ∃ q, smallB l 60 = q := ⟨_, rfl⟩
  have HF := Lib.hid hf
  cases f with
  | false =>
    clear hf
    go_enter Try.func13, Try.ntmps13
    go_wp2_with fail
    refine (keep_Small h (m := 60) (by decide) HF).mono ?_
    rintro e w1 ⟨rfl, gx⟩
    go_wp2_with fail
    refine (law14_known _).mono ?_
    rintro e w9 ⟨rfl, hx1⟩
    go_wp2_with fail
    go_ret
    exact ⟨rfl, gx.trans hx1⟩
  | true =>
    have hnl := small_len hf
    rw [h.len] at hnl
    clear hf
    by_cases h40 : 40 < nm.size
    · have q1 : decide ((nm.size : Int) > 40) = true := by simp; omega
      have q1' : decide (40 < (nm.size : Int)) = true := by simp; omega
      go_enter Try.func13, Try.ntmps13
      go_wp2_with fail
      refine (keep_Small h (m := 60) (by decide) HF).mono ?_
      rintro e w1 ⟨rfl, gx⟩
      go_wp2_with fail
      refine (law14_known _).mono ?_
      rintro e w9 ⟨rfl, hx1⟩
      go_wp2_with fail
      go_ret
      exact ⟨rfl, gx.trans hx1⟩
    have q1 : decide ((nm.size : Int) > 40) = false := by simp; omega
    have q1' : decide (40 < (nm.size : Int)) = false := by simp; omega
    clear h40
    have rt0 := right_new z
    obtain ⟨S0, hS0⟩ : ∃ S, newS z = S := ⟨_, rfl⟩
    rw [hS0] at rt0
    have ok0 := okS_right rt0
    have HS0 := Lib.hid hS0
    have HRT0 := Lib.hid rt0
    clear hS0 rt0
    go_enter Try.func13, Try.ntmps13
    go_wp2_with fail
    refine (keep_Small h (m := 60) (by decide) HF).mono ?_
    rintro e w1 ⟨rfl, gx⟩
    go_wp2_with fail
    refine (model_New z _).mono ?_
    rintro e w2 ⟨A2, n2, c2, rfl, k1, gq⟩
    have b2 := k1.1.n63
    rw [HS0.out] at k1
    replace gx := gx.trans gq
    clear gq
    go_wp2_with fail
    refine (ref14_New z _).mono ?_
    rintro e w3 ⟨A3, n3, c3, rfl, k2, gq⟩
    have b3 := k2.1.n63
    rw [HS0.out] at k2
    replace k1 := k1.ext gq
    replace gx := gx.trans gq
    clear gq
    obtain ⟨ga, hga⟩ : ∃ q, w3.heap.size = q := ⟨_, rfl⟩
    go_wp2_with fail
    obtain ⟨w4, hw4⟩ : ∃ q, (w3.alloc (.cells #[.slice A2 n2 c2, .slice none 0 0] TSt)).alloc (.cells #[.slice A3 n3 c3, .slice none 0 0] TSt) = q := ⟨_, rfl⟩
    have gq : Ext w3 w4 := by rw [← hw4]; exact (Ext.alloc _ _).trans (Ext.alloc _ _)
    have r0 : w4.cell? ⟨ga, 0, none⟩ = some (.slice A2 n2 c2) := by rw [← hw4, ← hga]; exact (Ext.alloc _ _).cell (cell_new w3 _ _ 0)
    have r1 : w4.cell? ⟨ga, 1, none⟩ = some (.slice none 0 0) := by rw [← hw4, ← hga]; exact (Ext.alloc _ _).cell (cell_new w3 _ _ 1)
    have y0 : w4.cell? ⟨ga + 1, 0, none⟩ = some (.slice A3 n3 c3) := by rw [← hw4, ← hga]; have := cell_new (w3.alloc (.cells #[.slice A2 n2 c2, .slice none 0 0] TSt)) #[.slice A3 n3 c3, .slice none 0 0] TSt 0; simpa using this
    have y1 : w4.cell? ⟨ga + 1, 1, none⟩ = some (.slice none 0 0) := by rw [← hw4, ← hga]; have := cell_new (w3.alloc (.cells #[.slice A2 n2 c2, .slice none 0 0] TSt)) #[.slice A3 n3 c3, .slice none 0 0] TSt 1; simpa using this
    have rf : ∀ q, w4.frozen? ⟨ga, q, none⟩ = false := fun q => by
      rw [← hw4, ← hga]
      refine frozen_ext (Ext.alloc _ _) (by simp) ?_
      unfold World.frozen?
      rw [heap_alloc_new]
      simp
    have yf : ∀ q, w4.frozen? ⟨ga + 1, q, none⟩ = false := fun q => by
      have e : (w3.alloc (.cells #[.slice A2 n2 c2, .slice none 0 0] TSt)).heap.size = ga + 1 := by rw [← hga]; simp
      rw [← hw4, ← e]
      unfold World.frozen?
      rw [heap_alloc_new]
      simp
    have hA0 := k1.ext gq
    have hB0 := k2.ext gq
    rw [hw4]
    clear hw4 k1 k2
    go_loopw [13] (fun i wr => ∃ (k : Nat) (T : St) (A5 : Option Addr) (n5 c5 : Nat) (B5 : Option Addr) (m5 d5 : Nat) (A6 : Option Addr) (n6 c6 : Nat) (B6 : Option Addr) (m6 d6 : Nat), k ≤ n ∧ i = .int .i64 k ∧ wr.cell? ⟨ga, 0, none⟩ = some (.slice A5 n5 c5) ∧ wr.cell? ⟨ga, 1, none⟩ = some (.slice B5 m5 d5) ∧ (∀ q, wr.frozen? ⟨ga, q, none⟩ = false) ∧ wr.cell? ⟨ga + 1, 0, none⟩ = some (.slice A6 n6 c6) ∧ wr.cell? ⟨ga + 1, 1, none⟩ = some (.slice B6 m6 d6) ∧ (∀ q, wr.frozen? ⟨ga + 1, q, none⟩ = false) ∧ StR wr A5 n5 c5 B5 m5 d5 T ∧ StR wr A6 n6 c6 B6 m6 d6 T ∧ Hid (foldS S0 (l.take k) = T) ∧ Hid (rightS T = true) ∧ Ext w3 wr) (fun i _ => n - (intOf i).toNat)
    case atStart => exact ⟨0, S0, _, _, _, _, _, _, _, _, _, _, _, _, by omega, rfl, r0, r1, rf, y0, y1, yf, hA0, hB0, Lib.hid rfl, HRT0, gq⟩
    case round =>
      obtain ⟨k, T, A5, n5, c5, B5, m5, d5, A6, n6, c6, B6, m6, d6, hk, rfl, r0, r1, rf, y0, y1, yf, hA, hB, hfT, hrT, gxr⟩ := hrel
      clear hA0 hB0
      have b5 := hA.1.n63
      have bb5 := hA.2.n63
      have b6 := hB.1.n63
      have bb6 := hB.2.n63
      by_cases hlt : k < n
      · obtain ⟨gl, ol, x, cs, rfl, hx, ⟨Aa, na, ca, rfl, sa0, hs⟩, ha⟩ := h.at2 ev_rep (by omega) hlt
        have gxx := gx.trans gxr
        have a0 : wr.cell? ⟨gl, ol + k * 5, none⟩ = _ := gxx.cell (ha 0 _ rfl)
        have a1 := gxx.cell (ha 1 _ rfl)
        have a2 := gxx.cell (ha 2 _ rfl)
        have a3 := gxx.cell (ha 3 _ rfl)
        have a4 := gxx.cell (ha 4 _ rfl)
        have sa := sa0.ext gxx
        have hna := sa0.n63
        have hal := sa0.len
        have hfn := fold_next (st := S0) hx
        rw [hfT.out] at hfn
        obtain ⟨xk, xo, xm, xl, xs'⟩ := x
        simp only at a0 a1 a2 a3 a4 sa hs hal
        obtain ⟨r, hr⟩ : ∃ q, checkN T xk xo xm na xs' = q := ⟨_, rfl⟩
        obtain ⟨T1, hT11⟩ : ∃ q, appliedS r T xk xo xm xl xs' = q := ⟨_, rfl⟩
        have hstep : stepS T ⟨xk, xo, xm, xl, xs'⟩ = if r = 0 then T1 else T := by
          rw [← hr, ← hT11, ← hal]
          unfold stepS appliedS
          simp only
          rw [← hr, ← hal]
          split <;> rfl
        have hfn2 : foldS S0 (l.take (k + 1)) = if r = 0 then T1 else T := by rw [hfn, hstep]
        have hrT1 := right_step (e := ⟨xk, xo, xm, xl, xs'⟩) hrT.out
        rw [hstep] at hrT1
        have HR := Lib.hid hr
        have HT1 := Lib.hid hT11
        obtain ⟨o1, o2, o3⟩ := okS_right hrT.out
        have hl5 := hA.1.len
        have hm5 := hA.2.len
        have hl6 := hB.1.len
        have hm6 := hB.2.len
        have hn5' : n5 ≤ 1000 := by omega
        have hm5' : m5 ≤ 1000 := by omega
        have hn6' : n6 ≤ 1000 := by omega
        have hm6' : m6 ≤ 1000 := by omega
        replace hfn2 := Lib.hid hfn2
        replace hrT1 := Lib.hid hrT1
        have hrr : ((r : Int) != (r : Int)) = false := by simp
        clear ha hx sa0 hfn hr hT11 hal hstep
        go_wp2_with fail
        refine wp_region_typed Ext.steady rfl 131 rfl (by kernel_rfl) ?_
        -- 0: Op.load 35 t11
        apply Stage.step (Is _) [] (Is.keeps _) (by kernel_rfl)
        · intro w1 h1
          simp only [Given]
          have hq := h1.cell r0
          have hq2 := h1.cell r1
          go_wp2_with fail
          exact Post.isv (Ext.refl _) rfl rfl rfl
        -- 1: Op.move t1
        apply Stage.step (Is _) [] (Is.keeps _) (by kernel_rfl)
        · intro w1 h1
          simp only [Given]
          go_wp2_with fail
          exact Post.isv (Ext.refl _) rfl rfl rfl
        -- 2: Op.move t13
        apply Stage.step (Is _) [] (Is.keeps _) (by kernel_rfl)
        · intro w1 h1
          simp only [Given]
          go_wp2_with fail
          exact Post.isv (Ext.refl _) rfl rfl rfl
        -- 3: Op.indexAddr 23 t42 t43
        apply Stage.step (Is _) [false, true, true] (Is.keeps _) (by kernel_rfl)
        · intro w1 h1
          simp only [List.nil_append, List.cons_append, Given]
          rintro _ rfl
          rintro _ rfl
          go_wp2_with fail
          exact Post.isv (Ext.refl _) rfl rfl rfl
        -- 4: Op.load 28 t44
        apply Stage.step (Is _) [false, false, false, true] (Is.keeps _) (by kernel_rfl)
        · intro w1 h1
          simp only [List.nil_append, List.cons_append, Given]
          rintro _ rfl
          have hq0 := h1.cell a0
          have hq1 := h1.cell a1
          have hq2 := h1.cell a2
          have hq3 := h1.cell a3
          have hq4 := h1.cell a4
          go_wp2_with fail
          exact Post.isv (Ext.refl _) rfl rfl rfl
        -- 5: Op.call { value (Operand.func 53), args := #[t41, t45], argTypes := #[35, 28] }
        apply Stage.step (Is (.int .i64 r)) [true, false, false, false, true] (Is.keeps _) (by kernel_rfl)
        · intro w1 h1
          simp only [List.nil_append, List.cons_append, Given]
          rintro _ rfl
          rintro _ rfl
          go_wp2_with fail
          refine (model_Check (hA.ext h1) (sa.ext h1) hs HR).mono ?_
          rintro e w30 ⟨rfl, gq⟩
          go_wp2_with fail
          exact Post.isv gq rfl rfl rfl
        -- 6: Op.load 35 t12
        apply Stage.step (Is _) [] (Is.keeps _) (by kernel_rfl)
        · intro w1 h1
          simp only [Given]
          have hq := h1.cell y0
          have hq2 := h1.cell y1
          go_wp2_with fail
          exact Post.isv (Ext.refl _) rfl rfl rfl
        -- 7: Op.move t1
        apply Stage.step (Is _) [] (Is.keeps _) (by kernel_rfl)
        · intro w1 h1
          simp only [Given]
          go_wp2_with fail
          exact Post.isv (Ext.refl _) rfl rfl rfl
        -- 8: Op.move t13
        apply Stage.step (Is _) [] (Is.keeps _) (by kernel_rfl)
        · intro w1 h1
          simp only [Given]
          go_wp2_with fail
          exact Post.isv (Ext.refl _) rfl rfl rfl
        -- 9: Op.indexAddr 23 t48 t49
        apply Stage.step (Is _) [false, false, false, false, false, false, false, true, true] (Is.keeps _) (by kernel_rfl)
        · intro w1 h1
          simp only [List.nil_append, List.cons_append, Given]
          rintro _ rfl
          rintro _ rfl
          go_wp2_with fail
          exact Post.isv (Ext.refl _) rfl rfl rfl
        -- 10: Op.load 28 t50
        apply Stage.step (Is _) [false, false, false, false, false, false, false, false, false, true] (Is.keeps _) (by kernel_rfl)
        · intro w1 h1
          simp only [List.nil_append, List.cons_append, Given]
          rintro _ rfl
          have hq0 := h1.cell a0
          have hq1 := h1.cell a1
          have hq2 := h1.cell a2
          have hq3 := h1.cell a3
          have hq4 := h1.cell a4
          go_wp2_with fail
          exact Post.isv (Ext.refl _) rfl rfl rfl
        -- 11: Op.call { value (Operand.func 54), args := #[t47, t51], argTypes := #[35, 28] }
        apply Stage.step (Is (.int .i64 r)) [false, false, false, false, false, false, true, false, false, false, true] (Is.keeps _) (by kernel_rfl)
        · intro w1 h1
          simp only [List.nil_append, List.cons_append, Given]
          rintro _ rfl
          rintro _ rfl
          go_wp2_with fail
          refine (ref_Check (hB.ext h1) (sa.ext h1) hs HR).mono ?_
          rintro e w30 ⟨rfl, gq⟩
          go_wp2_with fail
          exact Post.isv gq rfl rfl rfl
        -- 12: Op.binOp BinOp.neq 46 t46 t52 46
        apply Stage.step (Is _) [false, false, false, false, false, true, false, false, false, false, false, true] (Is.keeps _) (by kernel_rfl)
        · intro w1 h1
          simp only [List.nil_append, List.cons_append, Given]
          rintro _ rfl
          rintro _ rfl
          go_wp2_with fail
          exact Post.isv (Ext.refl _) rfl rfl rfl
        apply Stage.nil
        intro w1 h1
        simp only [List.nil_append, List.cons_append]
        refine Fin.is_ ?_
        refine Fin.is_ ?_
        refine Fin.is_ ?_
        refine Fin.is_ ?_
        refine Fin.is_ ?_
        refine Fin.is_ ?_
        refine Fin.is_ ?_
        refine Fin.is_ ?_
        refine Fin.is_ ?_
        refine Fin.is_ ?_
        refine Fin.is_ ?_
        refine Fin.is_ ?_
        refine Fin.is_ ?_
        refine Fin.nil_ ?_
        go_simp
        have hr0 := r0
        have hy0 := y0
        replace r0 := h1.cell r0
        replace r1 := h1.cell r1
        replace y0 := h1.cell y0
        replace y1 := h1.cell y1
        replace rf : ∀ q, w1.frozen? ⟨ga, q, none⟩ = false := fun q => frozen_ext h1 (show ga < _ from World.block_lt_of_cell? _ _ hr0) (rf q)
        replace yf : ∀ q, w1.frozen? ⟨ga + 1, q, none⟩ = false := fun q => frozen_ext h1 (show ga + 1 < _ from World.block_lt_of_cell? _ _ hy0) (yf q)
        replace hA := hA.ext h1
        replace hB := hB.ext h1
        replace gxr := gxr.trans h1
        replace a0 := h1.cell a0
        replace a1 := h1.cell a1
        replace a2 := h1.cell a2
        replace a3 := h1.cell a3
        replace a4 := h1.cell a4
        replace sa := sa.ext h1
        clear h1
        obtain ⟨wm, rfl⟩ : ∃ q, q = w1 := ⟨_, rfl⟩
        go_wp2_with fail
        refine wp_region_typed3 (R := Bux wm.heap.size (fun _ => False)) Ext.steady (Bux.steady _ _) (fun _ _ => Bux.of_ext) rfl 131 rfl [0, 0, 0, 6, 14, 31, 63, 127, 127, 0, 767, 2047] 1024 9 (by kernel_rfl) ?_
        -- 0: Op.load 35 t11
        apply Stage3.step (Is _) true [] true false (Is.keeps _) (fun _ => Is.keeps _) (by kernel_rfl)
        · intro γ w1 h1
          have h1 : Ext _ w1 := h1
          simp only [List.nil_append, List.cons_append, List.map_cons, List.map_nil, Given]
          have hq := h1.cell r0
          have hq2 := h1.cell r1
          go_wp2_with fail
          exact Post.isv (Ext.refl _) rfl rfl rfl
        -- 1: Op.move t1
        apply Stage3.step (Is _) true [] true false (Is.keeps _) (fun _ => Is.keeps _) (by kernel_rfl)
        · intro γ w1 h1
          have h1 : Ext _ w1 := h1
          simp only [List.nil_append, List.cons_append, List.map_cons, List.map_nil, Given]
          go_wp2_with fail
          exact Post.isv (Ext.refl _) rfl rfl rfl
        -- 2: Op.move t13
        apply Stage3.step (Is _) true [] true false (Is.keeps _) (fun _ => Is.keeps _) (by kernel_rfl)
        · intro γ w1 h1
          have h1 : Ext _ w1 := h1
          simp only [List.nil_append, List.cons_append, List.map_cons, List.map_nil, Given]
          go_wp2_with fail
          exact Post.isv (Ext.refl _) rfl rfl rfl
        -- 3: Op.indexAddr 23 t56 t57
        apply Stage3.step (Is _) true [false, true, true] true false (Is.keeps _) (fun _ => Is.keeps _) (by kernel_rfl)
        · intro γ w1 h1
          have h1 : Ext _ w1 := h1
          simp only [List.nil_append, List.cons_append, List.map_cons, List.map_nil, Sp3.at, Sp.pr, Given]
          rintro _ rfl
          rintro _ rfl
          go_wp2_with fail
          exact Post.isv (Ext.refl _) rfl rfl rfl
        -- 4: Op.load 28 t58
        apply Stage3.step (Is _) true [false, false, false, true] true false (Is.keeps _) (fun _ => Is.keeps _) (by kernel_rfl)
        · intro γ w1 h1
          have h1 : Ext _ w1 := h1
          simp only [List.nil_append, List.cons_append, List.map_cons, List.map_nil, Sp3.at, Sp.pr, Given]
          rintro _ rfl
          have hq0 := h1.cell a0
          have hq1 := h1.cell a1
          have hq2 := h1.cell a2
          have hq3 := h1.cell a3
          have hq4 := h1.cell a4
          go_wp2_with fail
          exact Post.isv (Ext.refl _) rfl rfl rfl
        -- 5: Op.call { value (Operand.func 50), args := #[t55, t59], argTypes := #[35, 28] }
        apply Stage3.step (StE 0 T1 r) true [true, false, false, false, true] true false (StE.keeps _ _ _) (fun _ => StE.keeps2 _ _ _) (by kernel_rfl)
        · intro γ w1 h1
          have h1 : Ext _ w1 := h1
          simp only [List.nil_append, List.cons_append, List.map_cons, List.map_nil, Sp3.at, Sp.pr, Given]
          rintro _ rfl
          rintro _ rfl
          go_wp2_with fail
          refine (model_Apply (hA.ext h1) hn5' hm5' o3 (sa.ext h1) hs HR HT1).mono ?_
          rintro e w30 ⟨A8, n8, c8, B8, m8, d8, rfl, h8, gq⟩
          go_wp2_with fail
          exact ⟨rfl, rfl, gq, _, _, _, _, _, _, rfl, h8.st.f0⟩
        -- 6: Op.move t60
        apply Stage3.step (StE 0 T1 r) true [false, false, false, false, false, true] true false (StE.keeps _ _ _) (fun _ => StE.keeps2 _ _ _) (by kernel_rfl)
        · intro γ w1 h1
          have h1 : Ext _ w1 := h1
          simp only [List.nil_append, List.cons_append, List.map_cons, List.map_nil, Sp3.at, Sp.pr, Given]
          rintro v hcp
          go_wp2_with fail
          exact ⟨rfl, rfl, Ext.refl _, hcp⟩
        -- 7: Op.extract t54 0
        apply Stage3.step (StT 0 T1) true [false, false, false, false, false, false, true] true false (StT.keeps _ _) (fun _ => StT.keeps2 _ _) (by kernel_rfl)
        · intro γ w1 h1
          have h1 : Ext _ w1 := h1
          simp only [List.nil_append, List.cons_append, List.map_cons, List.map_nil, Sp3.at, Sp.pr, Given]
          rintro _ ⟨A8, n8, c8, B8, m8, d8, rfl, h8⟩
          go_wp2_with fail
          exact ⟨rfl, rfl, Ext.refl _, _, _, _, _, _, _, rfl, h8⟩
        -- 8: Op.extract t54 1
        apply Stage3.step (Is (.int .i64 r)) true [false, false, false, false, false, false, true] false false (Is.keeps _) (fun _ => Is.keeps _) (by kernel_rfl)
        · intro γ w1 h1
          have h1 : (Bux wm.heap.size (fun _ => False)) _ w1 := h1
          simp only [List.nil_append, List.cons_append, List.map_cons, List.map_nil, Sp3.at, Sp.pr, Given]
          rintro _ ⟨A8, n8, c8, B8, m8, d8, rfl, h8⟩
          go_wp2_with fail
          exact Post.isv (Ext.refl _) rfl rfl rfl
        -- 9: Op.alloc 35
        apply Stage3.stepA (BoxP wm.heap.size) true [] true false (BoxP.keeps _) (fun _ => BoxP.keeps2 _) (by kernel_rfl)
        · intro γ w1 h1
          have h1 : Ext _ w1 := h1
          simp only [List.nil_append, List.cons_append, List.map_cons, List.map_nil, Given]
          go_wp2_with fail
          exact ⟨rfl, rfl, Ext.alloc _ _, BoxP.made h1.size⟩
        -- 10: Op.store 35 t14 t61
        apply Stage3.stepD (fun γ => BoxS 0 T1 γ) false [false, false, false, false, false, false, false, true, false, true] true true (fun γ => BoxS.keeps _ _ _) (fun h => by cases h) (by kernel_rfl)
        · intro γ w1 h1
          have h1 : Ext _ w1 := h1
          simp only [List.nil_append, List.cons_append, List.map_cons, List.map_nil, Sp3.at, Sp.pr, Given]
          rintro _ ⟨A8, n8, c8, B8, m8, d8, rfl, h8⟩
          rintro _ ⟨rfl, g8, rfl, hg8, hb8⟩
          have hbx := hb8
          obtain ⟨hx1, ⟨e1, e2, e3, e4, e5, e6, z0, z1⟩, zf⟩ := hb8
          have zf0 := zf 0
          have zf1 := zf 1
          go_wp2_with fail
          refine ⟨rfl, rfl, bux_set2 (.inr hg8) hbx _ _ _ _ _ _, fun g e => ?_⟩
          obtain rfl : g8 = g := by injection e with e; injection e with e; injection e with e
          exact stb_box hbx h8 _
        -- 11: Op.assign t62
        apply Stage3.step (Is _) true [false, false, false, false, false, false, false, false, true] false false (Is.keeps _) (fun _ => Is.keeps _) (by kernel_rfl)
        · intro γ w1 h1
          have h1 : (Bux wm.heap.size (fun _ => False)) _ w1 := h1
          simp only [List.nil_append, List.cons_append, List.map_cons, List.map_nil, Sp3.at, Sp.pr, Given]
          rintro _ rfl
          go_wp2_with fail
          exact Post.isv (Ext.refl _) rfl rfl rfl
        apply Stage3.nil [true, true, true, true, true, true, true, true, true, true, true, true] (by kernel_rfl)
        intro γ w1 h1
        have h1 : (Bux wm.heap.size (fun _ => False)) _ w1 := h1
        simp only [List.nil_append, List.cons_append, List.map_cons, List.map_nil, Sp3.at, Sp.pr]
        refine Fin2.is_ ?_
        refine Fin2.is_ ?_
        refine Fin2.is_ ?_
        refine Fin2.is_ ?_
        refine Fin2.is_ ?_
        refine Fin2.step_ ?_
        rintro _ ⟨A8, n8, c8, B8, m8, d8, rfl, h8⟩
        refine Fin2.step_ ?_
        rintro _ ⟨A8, n8, c8, B8, m8, d8, rfl, h8⟩
        refine Fin2.step_ ?_
        rintro _ ⟨A8, n8, c8, B8, m8, d8, rfl, h8⟩
        refine Fin2.is_ ?_
        refine Fin2.step_ ?_
        rintro _ ⟨rfl, g8, rfl, hg8, hb8⟩
        refine Fin2.step_ ?_
        rintro _ hst8
        refine Fin2.is_ ?_
        refine Fin2.nil_ ?_
        go_simp
        obtain ⟨A9, n9, c9, B9, m9, d9, x0, x1, xf, hS8, hgs8⟩ := hst8 g8 rfl
        have gq : Ext wm w1 := (Ext.refl wm).but h1.but (Nat.le_refl _) (fun _ h => h.elim)
        have hr0 := r0
        have hy0 := y0
        replace r0 := gq.cell r0
        replace r1 := gq.cell r1
        replace y0 := gq.cell y0
        replace y1 := gq.cell y1
        replace rf : ∀ q, w1.frozen? ⟨ga, q, none⟩ = false := fun q => frozen_ext gq (show ga < _ from World.block_lt_of_cell? _ _ hr0) (rf q)
        replace yf : ∀ q, w1.frozen? ⟨ga + 1, q, none⟩ = false := fun q => frozen_ext gq (show ga + 1 < _ from World.block_lt_of_cell? _ _ hy0) (yf q)
        replace hA := hA.ext gq
        replace hB := hB.ext gq
        replace gxr := gxr.trans gq
        replace a0 := gq.cell a0
        replace a1 := gq.cell a1
        replace a2 := gq.cell a2
        replace a3 := gq.cell a3
        replace a4 := gq.cell a4
        replace sa := sa.ext gq
        have b9 := hS8.data.sl.n63
        have bb9 := hS8.snaps.n63
        have hga8 : ga + 1 < g8 := by have := World.block_lt_of_cell? _ _ hy0; simp only at this; omega
        clear h1 hst8 h8 hb8 gq
        obtain ⟨g14, rfl⟩ : ∃ q, q = g8 := ⟨_, rfl⟩
        obtain ⟨wm, rfl⟩ : ∃ q, q = w1 := ⟨_, rfl⟩
        go_wp2_with fail
        refine wp_region_typed3 (R := Bux wm.heap.size (fun _ => False)) Ext.steady (Bux.steady _ _) (fun _ _ => Bux.of_ext) rfl 131 rfl [0, 0, 0, 6, 14, 31, 63, 127, 127, 0, 767, 2047] 1024 9 (by kernel_rfl) ?_
        -- 0: Op.load 35 t12
        apply Stage3.step (Is _) true [] true false (Is.keeps _) (fun _ => Is.keeps _) (by kernel_rfl)
        · intro γ w1 h1
          have h1 : Ext _ w1 := h1
          simp only [List.nil_append, List.cons_append, List.map_cons, List.map_nil, Given]
          have hq := h1.cell y0
          have hq2 := h1.cell y1
          go_wp2_with fail
          exact Post.isv (Ext.refl _) rfl rfl rfl
        -- 1: Op.move t1
        apply Stage3.step (Is _) true [] true false (Is.keeps _) (fun _ => Is.keeps _) (by kernel_rfl)
        · intro γ w1 h1
          have h1 : Ext _ w1 := h1
          simp only [List.nil_append, List.cons_append, List.map_cons, List.map_nil, Given]
          go_wp2_with fail
          exact Post.isv (Ext.refl _) rfl rfl rfl
        -- 2: Op.move t13
        apply Stage3.step (Is _) true [] true false (Is.keeps _) (fun _ => Is.keeps _) (by kernel_rfl)
        · intro γ w1 h1
          have h1 : Ext _ w1 := h1
          simp only [List.nil_append, List.cons_append, List.map_cons, List.map_nil, Given]
          go_wp2_with fail
          exact Post.isv (Ext.refl _) rfl rfl rfl
        -- 3: Op.indexAddr 23 t65 t66
        apply Stage3.step (Is _) true [false, true, true] true false (Is.keeps _) (fun _ => Is.keeps _) (by kernel_rfl)
        · intro γ w1 h1
          have h1 : Ext _ w1 := h1
          simp only [List.nil_append, List.cons_append, List.map_cons, List.map_nil, Sp3.at, Sp.pr, Given]
          rintro _ rfl
          rintro _ rfl
          go_wp2_with fail
          exact Post.isv (Ext.refl _) rfl rfl rfl
        -- 4: Op.load 28 t67
        apply Stage3.step (Is _) true [false, false, false, true] true false (Is.keeps _) (fun _ => Is.keeps _) (by kernel_rfl)
        · intro γ w1 h1
          have h1 : Ext _ w1 := h1
          simp only [List.nil_append, List.cons_append, List.map_cons, List.map_nil, Sp3.at, Sp.pr, Given]
          rintro _ rfl
          have hq0 := h1.cell a0
          have hq1 := h1.cell a1
          have hq2 := h1.cell a2
          have hq3 := h1.cell a3
          have hq4 := h1.cell a4
          go_wp2_with fail
          exact Post.isv (Ext.refl _) rfl rfl rfl
        -- 5: Op.call { value (Operand.func 55), args := #[t64, t68], argTypes := #[35, 28] }
        apply Stage3.step (StE 0 T1 r) true [true, false, false, false, true] true false (StE.keeps _ _ _) (fun _ => StE.keeps2 _ _ _) (by kernel_rfl)
        · intro γ w1 h1
          have h1 : Ext _ w1 := h1
          simp only [List.nil_append, List.cons_append, List.map_cons, List.map_nil, Sp3.at, Sp.pr, Given]
          rintro _ rfl
          rintro _ rfl
          go_wp2_with fail
          refine (ref14_Apply (hB.ext h1) hn6' hm6' o3 (sa.ext h1) hs HR HT1).mono ?_
          rintro e w30 ⟨A8, n8, c8, B8, m8, d8, rfl, h8, gq⟩
          go_wp2_with fail
          exact ⟨rfl, rfl, gq, _, _, _, _, _, _, rfl, h8.f0⟩
        -- 6: Op.move t69
        apply Stage3.step (StE 0 T1 r) true [false, false, false, false, false, true] true false (StE.keeps _ _ _) (fun _ => StE.keeps2 _ _ _) (by kernel_rfl)
        · intro γ w1 h1
          have h1 : Ext _ w1 := h1
          simp only [List.nil_append, List.cons_append, List.map_cons, List.map_nil, Sp3.at, Sp.pr, Given]
          rintro v hcp
          go_wp2_with fail
          exact ⟨rfl, rfl, Ext.refl _, hcp⟩
        -- 7: Op.extract t63 0
        apply Stage3.step (StT 0 T1) true [false, false, false, false, false, false, true] true false (StT.keeps _ _) (fun _ => StT.keeps2 _ _) (by kernel_rfl)
        · intro γ w1 h1
          have h1 : Ext _ w1 := h1
          simp only [List.nil_append, List.cons_append, List.map_cons, List.map_nil, Sp3.at, Sp.pr, Given]
          rintro _ ⟨A8, n8, c8, B8, m8, d8, rfl, h8⟩
          go_wp2_with fail
          exact ⟨rfl, rfl, Ext.refl _, _, _, _, _, _, _, rfl, h8⟩
        -- 8: Op.extract t63 1
        apply Stage3.step (Is (.int .i64 r)) true [false, false, false, false, false, false, true] false false (Is.keeps _) (fun _ => Is.keeps _) (by kernel_rfl)
        · intro γ w1 h1
          have h1 : (Bux wm.heap.size (fun _ => False)) _ w1 := h1
          simp only [List.nil_append, List.cons_append, List.map_cons, List.map_nil, Sp3.at, Sp.pr, Given]
          rintro _ ⟨A8, n8, c8, B8, m8, d8, rfl, h8⟩
          go_wp2_with fail
          exact Post.isv (Ext.refl _) rfl rfl rfl
        -- 9: Op.alloc 35
        apply Stage3.stepA (BoxP wm.heap.size) true [] true false (BoxP.keeps _) (fun _ => BoxP.keeps2 _) (by kernel_rfl)
        · intro γ w1 h1
          have h1 : Ext _ w1 := h1
          simp only [List.nil_append, List.cons_append, List.map_cons, List.map_nil, Given]
          go_wp2_with fail
          exact ⟨rfl, rfl, Ext.alloc _ _, BoxP.made h1.size⟩
        -- 10: Op.store 35 t16 t70
        apply Stage3.stepD (fun γ => BoxS 0 T1 γ) false [false, false, false, false, false, false, false, true, false, true] true true (fun γ => BoxS.keeps _ _ _) (fun h => by cases h) (by kernel_rfl)
        · intro γ w1 h1
          have h1 : Ext _ w1 := h1
          simp only [List.nil_append, List.cons_append, List.map_cons, List.map_nil, Sp3.at, Sp.pr, Given]
          rintro _ ⟨A8, n8, c8, B8, m8, d8, rfl, h8⟩
          rintro _ ⟨rfl, g8, rfl, hg8, hb8⟩
          have hbx := hb8
          obtain ⟨hx1, ⟨e1, e2, e3, e4, e5, e6, z0, z1⟩, zf⟩ := hb8
          have zf0 := zf 0
          have zf1 := zf 1
          go_wp2_with fail
          refine ⟨rfl, rfl, bux_set2 (.inr hg8) hbx _ _ _ _ _ _, fun g e => ?_⟩
          obtain rfl : g8 = g := by injection e with e; injection e with e; injection e with e
          exact stb_box hbx h8 _
        -- 11: Op.assign t71
        apply Stage3.step (Is _) true [false, false, false, false, false, false, false, false, true] false false (Is.keeps _) (fun _ => Is.keeps _) (by kernel_rfl)
        · intro γ w1 h1
          have h1 : (Bux wm.heap.size (fun _ => False)) _ w1 := h1
          simp only [List.nil_append, List.cons_append, List.map_cons, List.map_nil, Sp3.at, Sp.pr, Given]
          rintro _ rfl
          go_wp2_with fail
          exact Post.isv (Ext.refl _) rfl rfl rfl
        apply Stage3.nil [true, true, true, true, true, true, true, true, true, true, true, true] (by kernel_rfl)
        intro γ w1 h1
        have h1 : (Bux wm.heap.size (fun _ => False)) _ w1 := h1
        simp only [List.nil_append, List.cons_append, List.map_cons, List.map_nil, Sp3.at, Sp.pr]
        refine Fin2.is_ ?_
        refine Fin2.is_ ?_
        refine Fin2.is_ ?_
        refine Fin2.is_ ?_
        refine Fin2.is_ ?_
        refine Fin2.step_ ?_
        rintro _ ⟨A8, n8, c8, B8, m8, d8, rfl, h8⟩
        refine Fin2.step_ ?_
        rintro _ ⟨A8, n8, c8, B8, m8, d8, rfl, h8⟩
        refine Fin2.step_ ?_
        rintro _ ⟨A8, n8, c8, B8, m8, d8, rfl, h8⟩
        refine Fin2.is_ ?_
        refine Fin2.step_ ?_
        rintro _ ⟨rfl, g8, rfl, hg8, hb8⟩
        refine Fin2.step_ ?_
        rintro _ hst8
        refine Fin2.is_ ?_
        refine Fin2.nil_ ?_
        go_simp
        obtain ⟨A10, n10, c10, B10, m10, d10, v0, v1, vf, hS9, hgs9⟩ := hst8 g8 rfl
        have gq : Ext wm w1 := (Ext.refl wm).but h1.but (Nat.le_refl _) (fun _ h => h.elim)
        have hr0 := r0
        have hy0 := y0
        replace r0 := gq.cell r0
        replace r1 := gq.cell r1
        replace y0 := gq.cell y0
        replace y1 := gq.cell y1
        replace rf : ∀ q, w1.frozen? ⟨ga, q, none⟩ = false := fun q => frozen_ext gq (show ga < _ from World.block_lt_of_cell? _ _ hr0) (rf q)
        replace yf : ∀ q, w1.frozen? ⟨ga + 1, q, none⟩ = false := fun q => frozen_ext gq (show ga + 1 < _ from World.block_lt_of_cell? _ _ hy0) (yf q)
        replace hA := hA.ext gq
        replace hB := hB.ext gq
        replace gxr := gxr.trans gq
        replace a0 := gq.cell a0
        replace a1 := gq.cell a1
        replace a2 := gq.cell a2
        replace a3 := gq.cell a3
        replace a4 := gq.cell a4
        replace sa := sa.ext gq
        have b10 := hS9.data.sl.n63
        have bb10 := hS9.snaps.n63
        replace x0 := gq.cell x0
        replace x1 := gq.cell x1
        replace hS8 := hS8.ext gq
        have hga9 : ga + 1 < g8 := by have := World.block_lt_of_cell? _ _ hy0; simp only at this; omega
        clear h1 hst8 h8 hb8 gq xf vf
        obtain ⟨g16, rfl⟩ : ∃ q, q = g8 := ⟨_, rfl⟩
        obtain ⟨wm, rfl⟩ : ∃ q, q = w1 := ⟨_, rfl⟩
        go_wp2_with fail
        refine (ref_SameSt hS8.st hS9.st (Lib.hid (decide_eq_true rfl))).mono ?_
        rintro e w1 ⟨rfl, gq⟩
        have hr0 := r0
        have hy0 := y0
        replace r0 := gq.cell r0
        replace r1 := gq.cell r1
        replace y0 := gq.cell y0
        replace y1 := gq.cell y1
        replace rf : ∀ q, w1.frozen? ⟨ga, q, none⟩ = false := fun q => frozen_ext gq (show ga < _ from World.block_lt_of_cell? _ _ hr0) (rf q)
        replace yf : ∀ q, w1.frozen? ⟨ga + 1, q, none⟩ = false := fun q => frozen_ext gq (show ga + 1 < _ from World.block_lt_of_cell? _ _ hy0) (yf q)
        replace hA := hA.ext gq
        replace hB := hB.ext gq
        replace gxr := gxr.trans gq
        replace a0 := gq.cell a0
        replace a1 := gq.cell a1
        replace a2 := gq.cell a2
        replace a3 := gq.cell a3
        replace a4 := gq.cell a4
        replace sa := sa.ext gq
        replace x0 := gq.cell x0
        replace x1 := gq.cell x1
        replace v0 := gq.cell v0
        replace v1 := gq.cell v1
        replace hS8 := hS8.ext gq
        replace hS9 := hS9.ext gq
        clear gq a0 a1 a2 a3 a4 sa hr0 hy0
        obtain ⟨wm, rfl⟩ : ∃ q, q = w1 := ⟨_, rfl⟩
        by_cases hr0 : r = 0
        · subst hr0
          have e1 := hfn2.out
          have e3 := hrT1.out
          rw [if_pos rfl] at e1 e3
          replace hfn2 := Lib.hid e1
          replace hrT1 := Lib.hid e3
          have hgaw : ga < wm.heap.size := World.block_lt_of_cell? _ _ r0
          have hgbw : ga + 1 < wm.heap.size := World.block_lt_of_cell? _ _ y0
          have hg14 : g14 ≠ ga := by omega
          have hg16 : g16 ≠ ga := by omega
          clear e1 e3
          go_wp2_with fail
          refine wp_region_typed4' (R := Bet (fun k => k = ga)) 3 Ext.steady (Bet.steady _) (fun _ _ => Bet.of_ext) rfl 131 rfl [0, 0, 1, 7] 4 (by kernel_rfl) ?_
          simp only [List.take_succ_cons, List.take_zero, List.drop_succ_cons, List.drop_zero]
          -- 0: Op.load 35 t14
          apply Stage2.step (Is _) true [] true false (Is.keeps _) (fun _ => Is.keeps _) (by kernel_rfl)
          · intro w1 h1
            have h1 : Ext _ w1 := h1
            simp only [List.nil_append, List.cons_append, List.map_cons, List.map_nil, Given]
            have hq := h1.cell x0
            have hq2 := h1.cell x1
            go_wp2_with fail
            exact Post.isv (Ext.refl _) rfl rfl rfl
          -- 1: Op.load 35 t16
          apply Stage2.step (Is _) true [] false false (Is.keeps _) (fun _ => Is.keeps _) (by kernel_rfl)
          · intro w1 h1
            have h1 : (Bet (fun k => k = ga)) _ w1 := h1
            simp only [List.nil_append, List.cons_append, List.map_cons, List.map_nil, Given]
            have hq := h1.cell v0 hg16
            have hq2 := h1.cell v1 hg16
            go_wp2_with fail
            exact Post.isv (Ext.refl _) rfl rfl rfl
          -- 2: Op.store 35 t11 t83
          apply Stage2.step (StB2 ga T1 A10 n10 c10 B10 m10 d10) false [true] true true (StB2.keeps _ _ _ _ _ _ _ _) (no_keeps) (by kernel_rfl)
          · intro w1 h1
            have h1 : Ext _ w1 := h1
            simp only [List.nil_append, List.cons_append, List.map_cons, List.map_nil, Sp.pr, Given]
            rintro _ rfl
            have f0 := h1.cell r0
            have f1 := h1.cell r1
            have ff : ∀ q, w1.frozen? ⟨ga, q, none⟩ = false := fun q => frozen_ext h1 hgaw (rf q)
            have ff0 := ff 0
            have ff1 := ff 1
            have hbx : IsBox ga w1 := ⟨Nat.lt_of_lt_of_le hgaw h1.size, ⟨_, _, _, _, _, _, f0, f1⟩, ff⟩
            have hS8' := hS8.ext h1
            have hS9' := hS9.ext h1
            clear hS8 hS9
            go_wp2_with fail
            exact ⟨rfl, rfl, fun H => but_set2 _ _, stb_box hbx hS8' _, hS9'.box hbx _ _⟩
          apply Stage2.nil [true, true, true] (by kernel_rfl)
          intro w1 h1
          have h1 : (Bet (fun k => k = ga)) _ w1 := h1
          simp only [List.nil_append, List.cons_append, List.map_cons, List.map_nil, Sp.pr]
          refine Fin2.is_ ?_
          refine Fin2.is_ ?_
          refine Fin2.step_ ?_
          rintro _ ⟨⟨A11, n11, c11, B11, m11, d11, p0, p1, pf, hSa, hpa⟩, hSb⟩
          refine Fin2.nil_ ?_
          go_simp
          have q0 := h1.cell y0 (by simp only; omega)
          have q1' := h1.cell y1 (by simp only; omega)
          have qf : ∀ q, w1.frozen? ⟨ga + 1, q, none⟩ = false := fun q => by
            have e := h1.block (k := ga + 1) (by omega) hgbw
            have := yf q
            unfold World.frozen? at this ⊢
            rw [e]
            exact this
          have qf0 := qf 0
          have qf1 := qf 1
          have hby : IsBox (ga + 1) w1 := ⟨World.block_lt_of_cell? _ _ q0, ⟨_, _, _, _, _, _, q0, q1'⟩, qf⟩
          obtain ⟨wn, hwn⟩ : ∃ q, (w1.setCell ⟨ga + 1, 0, none⟩ (.slice A10 n10 c10)).setCell ⟨ga + 1, 1, none⟩ (.slice B10 m10 d10) = q := ⟨_, rfl⟩
          have gxn : Ext w3 wn := by
            rw [← hwn]
            exact (gxr.but (h1 wm.heap.size) gxr.size (fun g e => by omega)).but (but_set2 (H := w1.heap.size) (g := ga + 1) _ _) (by have := gxr.size; have := (h1 0).size; omega) (fun g e => by omega)
          have hA' : StF wn 0 A11 n11 c11 B11 m11 d11 T1 := by rw [← hwn]; exact hSa.box hby _ _
          have hB' : StF wn 0 A10 n10 c10 B10 m10 d10 T1 := by rw [← hwn]; exact hSb.box hby _ _
          have hw2 := hby.set (g' := ga + 1) A10 n10 c10 B10 m10 d10
          have q0n : wn.cell? ⟨ga + 1, 0, none⟩ = some (.slice A10 n10 c10) := by
            rw [← hwn, World.cell?_setCell_other _ _ _ _ (fun e => by injection e with e1 e2; omega)]
            exact World.cell?_setCell_same _ _ _ q0
          have q1n : wn.cell? ⟨ga + 1, 1, none⟩ = some (.slice B10 m10 d10) := by
            rw [← hwn]
            exact World.cell?_setCell_same _ _ _ (by rw [World.cell?_setCell_other _ _ _ _ (fun e => by injection e with e1 e2; omega)]; exact q1')
          have qfn : ∀ q, wn.frozen? ⟨ga + 1, q, none⟩ = false := fun q => by
            rw [← hwn, World.frozen?_setCell, World.frozen?_setCell]
            exact qf q
          have p0n : wn.cell? ⟨ga, 0, none⟩ = some (.slice A11 n11 c11) := by
            rw [← hwn, World.cell?_setCell_other _ _ _ _ (fun e => by injection e with e1 e2; omega), World.cell?_setCell_other _ _ _ _ (fun e => by injection e with e1 e2; omega)]
            exact p0
          have p1n : wn.cell? ⟨ga, 1, none⟩ = some (.slice B11 m11 d11) := by
            rw [← hwn, World.cell?_setCell_other _ _ _ _ (fun e => by injection e with e1 e2; omega), World.cell?_setCell_other _ _ _ _ (fun e => by injection e with e1 e2; omega)]
            exact p1
          have pfn : ∀ q, wn.frozen? ⟨ga, q, none⟩ = false := fun q => by
            rw [← hwn, World.frozen?_setCell, World.frozen?_setCell]
            exact pf q
          have hAr := hA'.st
          have hBr := hB'.st
          clear hA' hB' hw2 hSa hSb hby hA hB r0 r1 y0 y1 rf yf x0 x1 v0 v1 hS8 hS9 hrT hfT h1
          have hA := hAr
          have hB := hBr
          have r0 := p0n
          have r1 := p1n
          have y0 := q0n
          have y1 := q1n
          have rf := pfn
          have yf := qfn
          have hrT := hrT1
          have hfT := hfn2
          have gxr := gxn
          clear hAr hBr p0n p1n q0n q1n pfn qfn gxn hrT1 hfn2 o1 o2 o3 hl5 hm5 hl6 hm6 hn5' hm5' hn6' hm6'
          obtain ⟨T, rfl⟩ : ∃ q, q = T1 := ⟨_, rfl⟩
          obtain ⟨n5, rfl⟩ : ∃ q, q = n11 := ⟨_, rfl⟩
          obtain ⟨n6, rfl⟩ : ∃ q, q = n10 := ⟨_, rfl⟩
          go_wp2_with fail
          clear hwn q0 q1' qf qf0 qf1 p0 p1 pf
          have b5 := hA.1.n63
          have bb5 := hA.2.n63
          have b6 := hB.1.n63
          have bb6 := hB.2.n63
          have hl5 := hA.1.len
          have hl6 := hB.1.len
          obtain ⟨o4, o5, o6⟩ := okS_right hrT.out
          obtain ⟨rn, hrn⟩ : ∃ q', readN T nm off nn = q' := ⟨_, rfl⟩
          obtain ⟨rl, hrl⟩ : ∃ q', readL T nm off nn = q' := ⟨_, rfl⟩
          have HN := Lib.hid hrn
          have HL := Lib.hid hrl
          have hnr : ((rn : Int) != (rn : Int)) = false := by simp
          have hn5 : n5 ≤ 1000 := by omega
          have hn6 : n6 ≤ 1000 := by omega
          clear hrn hrl
          go_wp2_with fail
          refine (model_Read hA hn5 o6 HN HL).mono ?_
          rintro e w11 ⟨A7, n7, c7, rfl, f7, gq⟩
          have b7 := f7.sl.n63
          have hr0 := r0
          have hy0 := y0
          replace r0 := gq.cell r0
          replace r1 := gq.cell r1
          replace y0 := gq.cell y0
          replace y1 := gq.cell y1
          replace rf : ∀ q, w11.frozen? ⟨ga, q, none⟩ = false := fun q => frozen_ext gq (show ga < _ from World.block_lt_of_cell? _ _ hr0) (rf q)
          replace yf : ∀ q, w11.frozen? ⟨ga + 1, q, none⟩ = false := fun q => frozen_ext gq (show ga + 1 < _ from World.block_lt_of_cell? _ _ hy0) (yf q)
          replace hA := hA.ext gq
          replace hB := hB.ext gq
          replace gxr := gxr.trans gq
          clear gq
          go_wp2_with fail
          refine (ref_Read14 hB hn6 o6 HN HL).mono ?_
          rintro e w12 ⟨A8, n8, c8, rfl, f8, gq⟩
          have b8 := f8.sl.n63
          replace hr0 := r0
          replace hy0 := y0
          replace r0 := gq.cell r0
          replace r1 := gq.cell r1
          replace y0 := gq.cell y0
          replace y1 := gq.cell y1
          replace rf : ∀ q, w12.frozen? ⟨ga, q, none⟩ = false := fun q => frozen_ext gq (show ga < _ from World.block_lt_of_cell? _ _ hr0) (rf q)
          replace yf : ∀ q, w12.frozen? ⟨ga + 1, q, none⟩ = false := fun q => frozen_ext gq (show ga + 1 < _ from World.block_lt_of_cell? _ _ hy0) (yf q)
          replace hA := hA.ext gq
          replace hB := hB.ext gq
          replace gxr := gxr.trans gq
          replace f7 := f7.ext gq
          clear gq
          have ht7 := run_text_u8 f7.sl
          have ht8 := run_text_u8 f8.sl
          go_wp2_with fail
          clear ht7 ht8 f7 f8
          refine (ref_SameSt hA hB (Lib.hid (decide_eq_true rfl))).mono ?_
          rintro e w13 ⟨rfl, gq⟩
          replace hr0 := r0
          replace hy0 := y0
          replace r0 := gq.cell r0
          replace r1 := gq.cell r1
          replace y0 := gq.cell y0
          replace y1 := gq.cell y1
          replace rf : ∀ q, w13.frozen? ⟨ga, q, none⟩ = false := fun q => frozen_ext gq (show ga < _ from World.block_lt_of_cell? _ _ hr0) (rf q)
          replace yf : ∀ q, w13.frozen? ⟨ga + 1, q, none⟩ = false := fun q => frozen_ext gq (show ga + 1 < _ from World.block_lt_of_cell? _ _ hy0) (yf q)
          replace hA := hA.ext gq
          replace hB := hB.ext gq
          replace gxr := gxr.trans gq
          clear gq
          go_wp2_with fail
          refine (model_Right hA hrT).mono ?_
          rintro e w14 ⟨rfl, gq⟩
          replace hr0 := r0
          replace hy0 := y0
          replace r0 := gq.cell r0
          replace r1 := gq.cell r1
          replace y0 := gq.cell y0
          replace y1 := gq.cell y1
          replace rf : ∀ q, w14.frozen? ⟨ga, q, none⟩ = false := fun q => frozen_ext gq (show ga < _ from World.block_lt_of_cell? _ _ hr0) (rf q)
          replace yf : ∀ q, w14.frozen? ⟨ga + 1, q, none⟩ = false := fun q => frozen_ext gq (show ga + 1 < _ from World.block_lt_of_cell? _ _ hy0) (yf q)
          replace hA := hA.ext gq
          replace hB := hB.ext gq
          replace gxr := gxr.trans gq
          clear gq
          go_wp2_with fail
          go_roundw
          case rel => exact ⟨k + 1, T, _, _, _, _, _, _, _, _, _, _, _, _, by omega, by go_num, r0, r1, rf, y0, y1, yf, hA, hB, hfT, hrT, gxr⟩
          case measure => simp [intOf]; omega
        · have qr : ((r : Int) == 0) = false := by simp; omega
          have e1 := hfn2.out
          rw [if_neg hr0] at e1
          replace hfT := Lib.hid e1
          clear e1 hfn2 hrT1 x0 x1 v0 v1 hS8 hS9 hr0
          have b5 := hA.1.n63
          have bb5 := hA.2.n63
          have b6 := hB.1.n63
          have bb6 := hB.2.n63
          have hl5 := hA.1.len
          have hl6 := hB.1.len
          obtain ⟨o4, o5, o6⟩ := okS_right hrT.out
          obtain ⟨rn, hrn⟩ : ∃ q', readN T nm off nn = q' := ⟨_, rfl⟩
          obtain ⟨rl, hrl⟩ : ∃ q', readL T nm off nn = q' := ⟨_, rfl⟩
          have HN := Lib.hid hrn
          have HL := Lib.hid hrl
          have hnr : ((rn : Int) != (rn : Int)) = false := by simp
          have hn5 : n5 ≤ 1000 := by omega
          have hn6 : n6 ≤ 1000 := by omega
          clear hrn hrl
          go_wp2_with fail
          refine (model_Read hA hn5 o6 HN HL).mono ?_
          rintro e w11 ⟨A7, n7, c7, rfl, f7, gq⟩
          have b7 := f7.sl.n63
          have hr0 := r0
          have hy0 := y0
          replace r0 := gq.cell r0
          replace r1 := gq.cell r1
          replace y0 := gq.cell y0
          replace y1 := gq.cell y1
          replace rf : ∀ q, w11.frozen? ⟨ga, q, none⟩ = false := fun q => frozen_ext gq (show ga < _ from World.block_lt_of_cell? _ _ hr0) (rf q)
          replace yf : ∀ q, w11.frozen? ⟨ga + 1, q, none⟩ = false := fun q => frozen_ext gq (show ga + 1 < _ from World.block_lt_of_cell? _ _ hy0) (yf q)
          replace hA := hA.ext gq
          replace hB := hB.ext gq
          replace gxr := gxr.trans gq
          clear gq
          go_wp2_with fail
          refine (ref_Read14 hB hn6 o6 HN HL).mono ?_
          rintro e w12 ⟨A8, n8, c8, rfl, f8, gq⟩
          have b8 := f8.sl.n63
          replace hr0 := r0
          replace hy0 := y0
          replace r0 := gq.cell r0
          replace r1 := gq.cell r1
          replace y0 := gq.cell y0
          replace y1 := gq.cell y1
          replace rf : ∀ q, w12.frozen? ⟨ga, q, none⟩ = false := fun q => frozen_ext gq (show ga < _ from World.block_lt_of_cell? _ _ hr0) (rf q)
          replace yf : ∀ q, w12.frozen? ⟨ga + 1, q, none⟩ = false := fun q => frozen_ext gq (show ga + 1 < _ from World.block_lt_of_cell? _ _ hy0) (yf q)
          replace hA := hA.ext gq
          replace hB := hB.ext gq
          replace gxr := gxr.trans gq
          replace f7 := f7.ext gq
          clear gq
          have ht7 := run_text_u8 f7.sl
          have ht8 := run_text_u8 f8.sl
          go_wp2_with fail
          clear ht7 ht8 f7 f8
          refine (ref_SameSt hA hB (Lib.hid (decide_eq_true rfl))).mono ?_
          rintro e w13 ⟨rfl, gq⟩
          replace hr0 := r0
          replace hy0 := y0
          replace r0 := gq.cell r0
          replace r1 := gq.cell r1
          replace y0 := gq.cell y0
          replace y1 := gq.cell y1
          replace rf : ∀ q, w13.frozen? ⟨ga, q, none⟩ = false := fun q => frozen_ext gq (show ga < _ from World.block_lt_of_cell? _ _ hr0) (rf q)
          replace yf : ∀ q, w13.frozen? ⟨ga + 1, q, none⟩ = false := fun q => frozen_ext gq (show ga + 1 < _ from World.block_lt_of_cell? _ _ hy0) (yf q)
          replace hA := hA.ext gq
          replace hB := hB.ext gq
          replace gxr := gxr.trans gq
          clear gq
          go_wp2_with fail
          refine (model_Right hA hrT).mono ?_
          rintro e w14 ⟨rfl, gq⟩
          replace hr0 := r0
          replace hy0 := y0
          replace r0 := gq.cell r0
          replace r1 := gq.cell r1
          replace y0 := gq.cell y0
          replace y1 := gq.cell y1
          replace rf : ∀ q, w14.frozen? ⟨ga, q, none⟩ = false := fun q => frozen_ext gq (show ga < _ from World.block_lt_of_cell? _ _ hr0) (rf q)
          replace yf : ∀ q, w14.frozen? ⟨ga + 1, q, none⟩ = false := fun q => frozen_ext gq (show ga + 1 < _ from World.block_lt_of_cell? _ _ hy0) (yf q)
          replace hA := hA.ext gq
          replace hB := hB.ext gq
          replace gxr := gxr.trans gq
          clear gq
          go_wp2_with fail
          go_roundw
          case rel => exact ⟨k + 1, T, _, _, _, _, _, _, _, _, _, _, _, _, by omega, by go_num, r0, r1, rf, y0, y1, yf, hA, hB, hfT, hrT, gxr⟩
          case measure => simp [intOf]; omega
      · have hT3 := hfT.out
        rw [List.take_of_length_le (by rw [h.len]; omega)] at hT3
        replace hT3 := Lib.hid hT3
        have gxx := gx.trans gxr
        clear hfT
        go_wp2_with fail
        refine wp_region_typed Ext.steady rfl 131 rfl (by kernel_rfl) ?_
        -- 0: Op.move t0
        apply Stage.step (Is _) [] (Is.keeps _) (by kernel_rfl)
        · intro w1 h1
          simp only [Given]
          go_wp2_with fail
          exact Post.isv (Ext.refl _) rfl rfl rfl
        -- 1: Op.call { value (Operand.func 49), args := #[t122], argTypes := #[3] }
        apply Stage.step (NewT S0) [true] (NewT.keeps _) (by kernel_rfl)
        · intro w1 h1
          simp only [List.nil_append, Given]
          rintro _ rfl
          go_wp2_with fail
          refine (model_New z _).mono ?_
          rintro e w30 ⟨A7, n7, c7, rfl, k1, gq⟩
          rw [HS0.out] at k1
          go_wp2_with fail
          exact ⟨rfl, rfl, gq, _, _, _, rfl, k1⟩
        -- 2: Op.move t1
        apply Stage.step (Is _) [] (Is.keeps _) (by kernel_rfl)
        · intro w1 h1
          simp only [Given]
          go_wp2_with fail
          exact Post.isv (Ext.refl _) rfl rfl rfl
        -- 3: Op.call { value (Operand.func 48), args := #[t123, t124], argTypes := #[35, 23] }
        apply Stage.step (StT 0 T) [false, true, true] (StT.keeps _ _) (by kernel_rfl)
        · intro w1 h1
          simp only [List.nil_append, List.cons_append, Given]
          rintro _ ⟨A7, n7, c7, rfl, h7⟩
          rintro _ rfl
          have b7 := h7.1.n63
          go_wp2_with fail
          refine (model_Fold h7 ok0 (h.ext ev_rep (gxx.trans h1))).mono ?_
          rintro e w30 ⟨A8, n8, c8, B8, m8, d8, rfl, h8, gq⟩
          rw [hT3.out] at h8
          go_wp2_with fail
          exact ⟨rfl, rfl, gq, _, _, _, _, _, _, rfl, h8.low (Nat.zero_le _)⟩
        -- 4: Op.load 35 t12
        apply Stage.step (Is _) [] (Is.keeps _) (by kernel_rfl)
        · intro w1 h1
          simp only [Given]
          have hq := h1.cell y0
          have hq2 := h1.cell y1
          go_wp2_with fail
          exact Post.isv (Ext.refl _) rfl rfl rfl
        -- 5: Op.call { value (Operand.func 56), args := #[t125, t126], argTypes := #[35, 35] }
        apply Stage.step (Is (.bool true)) [false, false, false, true, true] (Is.keeps _) (by kernel_rfl)
        · intro w1 h1
          simp only [List.nil_append, List.cons_append, Given]
          rintro _ ⟨A8, n8, c8, B8, m8, d8, rfl, h8⟩
          rintro _ rfl
          have b8 := h8.st.1.n63
          have bb8 := h8.st.2.n63
          go_wp2_with fail
          refine (ref_SameSt h8.st (hB.ext h1) (Lib.hid (decide_eq_true rfl))).mono ?_
          rintro e w30 ⟨rfl, gq⟩
          go_wp2_with fail
          exact Post.isv gq rfl rfl rfl
        -- 6: Op.move t127
        apply Stage.step (Is _) [false, false, false, false, false, true] (Is.keeps _) (by kernel_rfl)
        · intro w1 h1
          simp only [List.nil_append, List.cons_append, Given]
          rintro _ rfl
          go_wp2_with fail
          exact Post.isv (Ext.refl _) rfl rfl rfl
        -- 7: Op.call { value (Operand.func 47), args := #[], argTypes := #[] }   [guarded: some (6, true)]
        apply Stage.step (Is (.bool true)) [false, false, false, false, false, false, true] (Is.keeps _) (by kernel_rfl)
        · intro w1 h1
          simp only [List.nil_append, List.cons_append, Given]
          rintro _ rfl
          go_wp2_with fail
          refine (law14_known _).mono ?_
          rintro e w30 ⟨rfl, gq⟩
          go_wp2_with fail
          exact Post.isv gq rfl rfl rfl
        -- 8: Op.pick t128 t129 (const (Value.bool false))
        apply Stage.step (Is _) [false, false, false, false, false, false, true, true] (Is.keeps _) (by kernel_rfl)
        · intro w1 h1
          simp only [List.nil_append, List.cons_append, Given]
          rintro _ rfl
          rintro _ rfl
          go_wp2_with fail
          exact Post.isv (Ext.refl _) rfl rfl rfl
        -- 9: Op.assign t130
        apply Stage.step (Is _) [false, false, false, false, false, false, false, false, true] (Is.keeps _) (by kernel_rfl)
        · intro w1 h1
          simp only [List.nil_append, List.cons_append, Given]
          rintro _ rfl
          go_wp2_with fail
          exact Post.isv (Ext.refl _) rfl rfl rfl
        apply Stage.nil
        intro w1 h1
        simp only [List.nil_append, List.cons_append]
        refine Fin.is_ ?_
        refine Fin.step_ ?_
        rintro _ ⟨A7, n7, c7, rfl, h7⟩
        refine Fin.is_ ?_
        refine Fin.step_ ?_
        rintro _ ⟨A8, n8, c8, B8, m8, d8, rfl, h8⟩
        refine Fin.is_ ?_
        refine Fin.is_ ?_
        refine Fin.is_ ?_
        refine Fin.is_ ?_
        refine Fin.is_ ?_
        refine Fin.is_ ?_
        refine Fin.nil_ ?_
        go_simp
        go_wp2_with fail
        go_ret
        exact ⟨rfl, gxx.trans h1⟩
end Go.Proofs.Ytcklkjklepmabaa
