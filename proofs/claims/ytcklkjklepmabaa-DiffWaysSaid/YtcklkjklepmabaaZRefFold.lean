/-
  Images with snapshots: contract of the reference's Fold, and of After.
-/
import Derived.Test.YtcklkjklepmabaaZRefApply
import Derived.Test.YtcklkjklepmabaaZFoldPlain
import Derived.Test.YtcklkjklepmabaaZStNew
namespace Go.Proofs.Ytcklkjklepmabaa
open Go.RowKit
set_option linter.unusedVariables false
set_option linter.unusedSimpArgs false
set_option linter.unnecessarySimpa false
set_option maxRecDepth 100000

set_option maxHeartbeats 8000000 in
theorem ref14_Fold {A : Option Addr} {n c : Nat} {A2 : Option Addr} {n2 c2 : Nat} {st : St} {Ae : Option Addr} {ne ce : Nat} {xs : List Ev} {w : World} (hst : StR w A n c A2 n2 c2 st) (hok : okS st) (l1 : Lst 5 evR w Ae ne ce xs) :
    Calls Try.prog 26 #[stV A n c A2 n2 c2, .slice Ae ne ce] w fun e w' => ∃ A' n' c' A3 n3 c3, e = .returned (stV A' n' c' A3 n3 c3) ∧ StR w' A' n' c' A3 n3 c3 (foldS st xs) ∧ Ext w w' := by
  have h63 := l1.n63
  have h63a := hst.1.n63
  have h63b := hst.2.n63
  obtain ⟨W, hW⟩ : ∃ W, (w.alloc (.cells #[.slice A n c, .slice A2 n2 c2] TSt)).alloc (.cells #[.slice none 0 0, .slice none 0 0] TSt) = W := ⟨_, rfl⟩
  have g0 : Ext w W := by rw [← hW]; exact (Ext.alloc _ _).trans (Ext.alloc _ _)
  have hWs : W.heap.size = w.heap.size + 2 := by rw [← hW]; simp
  have s0 : W.cell? ⟨w.heap.size, 0, none⟩ = some (.slice A n c) := by rw [← hW]; exact (Ext.alloc _ _).cell (cell_new w _ _ 0)
  have s1 : W.cell? ⟨w.heap.size, 1, none⟩ = some (.slice A2 n2 c2) := by rw [← hW]; exact (Ext.alloc _ _).cell (cell_new w _ _ 1)
  have sf : ∀ q, W.frozen? ⟨w.heap.size, q, none⟩ = false := fun q => by
    rw [← hW]
    refine frozen_ext (Ext.alloc _ _) (by simp) ?_
    unfold World.frozen?
    rw [heap_alloc_new]
    simp
  have z0 : W.cell? ⟨w.heap.size + 1, 0, none⟩ = some (.slice none 0 0) := by rw [← hW]; have := cell_new (w.alloc (.cells #[.slice A n c, .slice A2 n2 c2] TSt)) #[.slice none 0 0, .slice none 0 0] TSt 0; simpa using this
  have z1 : W.cell? ⟨w.heap.size + 1, 1, none⟩ = some (.slice none 0 0) := by rw [← hW]; have := cell_new (w.alloc (.cells #[.slice A n c, .slice A2 n2 c2] TSt)) #[.slice none 0 0, .slice none 0 0] TSt 1; simpa using this
  have zf : ∀ q, W.frozen? ⟨w.heap.size + 1, q, none⟩ = false := fun q => by
    have e : (w.alloc (.cells #[.slice A n c, .slice A2 n2 c2] TSt)).heap.size = w.heap.size + 1 := by simp
    rw [← hW, ← e]
    unfold World.frozen?
    rw [heap_alloc_new]
    simp
  obtain ⟨gp, hgp⟩ : ∃ q, w.heap.size = q := ⟨_, rfl⟩
  rw [hgp] at hWs s0 s1 sf z0 z1 zf
  have hS0 := hst.ext g0
  go_enter Try.func26, Try.ntmps26
  go_wp2_with fail
  clear hW
  go_loopw [5] (fun i wr => ∃ (k : Nat) (A5 : Option Addr) (n5 c5 : Nat) (B5 : Option Addr) (m5 d5 : Nat), k ≤ ne ∧ i = .int .i64 k ∧ wr.cell? ⟨gp, 0, none⟩ = some (.slice A5 n5 c5) ∧ wr.cell? ⟨gp, 1, none⟩ = some (.slice B5 m5 d5) ∧ (∀ q, wr.frozen? ⟨gp, q, none⟩ = false) ∧ StR wr A5 n5 c5 B5 m5 d5 (foldS st (xs.take k)) ∧ But W.heap.size (fun k => k = gp) W wr) (fun i _ => ne - (intOf i).toNat)
  case atStart => exact ⟨0, _, _, _, _, _, _, by omega, rfl, s0, s1, sf, by simpa [foldS] using hS0, But.refl _ _ _⟩
  case round =>
    obtain ⟨k, A5, n5, c5, B5, m5, d5, hk, rfl, r0, r1, rf, hS, hbt⟩ := hrel
    clear s0 s1 sf hS0
    have b5 := hS.1.n63
    have bb5 := hS.2.n63
    have gx : Ext w wr := g0.but hbt g0.size (fun g e => by omega)
    have hsz : gp + 2 ≤ wr.heap.size := by have := hbt.size; omega
    have hok1 := okS_fold hok (xs.take k)
    by_cases hlt : k < ne
    · obtain ⟨ga, oa, x, cs, rfl, hx, ⟨Aa, na, ca, rfl, sa0, hs⟩, ha⟩ := l1.at2 ev_rep (by omega) hlt
      have a0 : wr.cell? ⟨ga, oa + k * 5, none⟩ = _ := gx.cell (ha 0 _ rfl)
      have a1 := gx.cell (ha 1 _ rfl)
      have a2 := gx.cell (ha 2 _ rfl)
      have a3 := gx.cell (ha 3 _ rfl)
      have a4 := gx.cell (ha 4 _ rfl)
      have sa := sa0.ext gx
      have hna := sa0.n63
      have hal := sa0.len
      have hfn := fold_next (st := st) hx
      obtain ⟨T, hT⟩ : ∃ q, foldS st (xs.take k) = q := ⟨_, rfl⟩
      rw [hT] at hfn hS hok1
      obtain ⟨xk, xo, xm, xl, xs'⟩ := x
      simp only at a0 a1 a2 a3 a4 sa hs hal
      obtain ⟨r, hr⟩ : ∃ q, checkN T xk xo xm na xs' = q := ⟨_, rfl⟩
      obtain ⟨T1, hT11⟩ : ∃ q, appliedS r T xk xo xm xl xs' = q := ⟨_, rfl⟩
      have hstep : foldS st (xs.take (k + 1)) = if r = 0 then T1 else T := by
        rw [hfn, ← hr, ← hT11, ← hal]
        unfold stepS appliedS
        simp only
        rw [← hr, ← hal]
        split <;> rfl
      have HR := Lib.hid hr
      have HT1 := Lib.hid hT11
      replace hstep := Lib.hid hstep
      replace hT := Lib.hid hT
      obtain ⟨o1, o2, o3⟩ := hok1
      have hnd := hS.1.len
      have hmd := hS.2.len
      have hn5 : n5 ≤ 1000 := by omega
      have hm5 : m5 ≤ 1000 := by omega
      clear ha hx sa0 hfn hr hT11 hal
      go_wp2_with fail
      refine wp_region_typed3 (R := Bux wr.heap.size (fun _ => False)) Ext.steady (Bux.steady _ _) (fun _ _ => Bux.of_ext) rfl 27 rfl [0, 0, 0, 6, 14, 31, 63, 127, 127, 0, 767, 2047] 1024 9 (by kernel_rfl) ?_
      -- 0: Op.load 35 t2
      apply Stage3.step (Is _) true [] true false (Is.keeps _) (fun _ => Is.keeps _) (by kernel_rfl)
      · intro γ w1 h1
        have h1 : Ext _ w1 := h1
        simp only [List.nil_append, List.cons_append, List.map_cons, List.map_nil, Given]
        have hq := h1.cell r0
        have hq2 := h1.cell r1
        go_wp2_with fail
        exact Post.isv (Ext.refl _) rfl rfl rfl
      -- 1: Op.move t1
      apply Stage3.step (Is _) true [] true false (Is.keeps _) (fun _ => Is.keeps _) (by kernel_rfl)
      · intro γ w1 h1
        have h1 : Ext _ w1 := h1
        simp only [List.nil_append, List.cons_append, List.map_cons, List.map_nil, Given]
        go_wp2_with fail
        exact Post.isv (Ext.refl _) rfl rfl rfl
      -- 2: Op.move t5
      apply Stage3.step (Is _) true [] true false (Is.keeps _) (fun _ => Is.keeps _) (by kernel_rfl)
      · intro γ w1 h1
        have h1 : Ext _ w1 := h1
        simp only [List.nil_append, List.cons_append, List.map_cons, List.map_nil, Given]
        go_wp2_with fail
        exact Post.isv (Ext.refl _) rfl rfl rfl
      -- 3: Op.indexAddr 23 t16 t17
      apply Stage3.step (Is _) true [false, true, true] true false (Is.keeps _) (fun _ => Is.keeps _) (by kernel_rfl)
      · intro γ w1 h1
        have h1 : Ext _ w1 := h1
        simp only [List.nil_append, List.cons_append, List.map_cons, List.map_nil, Sp3.at, Sp.pr, Given]
        rintro _ rfl
        rintro _ rfl
        go_wp2_with fail
        exact Post.isv (Ext.refl _) rfl rfl rfl
      -- 4: Op.load 28 t18
      apply Stage3.step (Is _) true [false, false, false, true] true false (Is.keeps _) (fun _ => Is.keeps _) (by kernel_rfl)
      · intro γ w1 h1
        have h1 : Ext _ w1 := h1
        simp only [List.nil_append, List.cons_append, List.map_cons, List.map_nil, Sp3.at, Sp.pr, Given]
        rintro _ rfl
        have hq0 := h1.cell a0
        have hq1 := h1.cell a1
        have hq2 := h1.cell a2
        have hq3 := h1.cell a3
        have hq4 := h1.cell a4
        go_wp2_with fail
        exact Post.isv (Ext.refl _) rfl rfl rfl
      -- 5: Op.call { value (Operand.func 55), args := #[t15, t19], argTypes := #[35, 28] }
      apply Stage3.step (StE 0 T1 r) true [true, false, false, false, true] true false (StE.keeps _ _ _) (fun _ => StE.keeps2 _ _ _) (by kernel_rfl)
      · intro γ w1 h1
        have h1 : Ext _ w1 := h1
        simp only [List.nil_append, List.cons_append, List.map_cons, List.map_nil, Sp3.at, Sp.pr, Given]
        rintro _ rfl
        rintro _ rfl
        go_wp2_with fail
        refine (ref14_Apply (hS.ext h1) hn5 hm5 o3 (sa.ext h1) hs HR HT1).mono ?_
        rintro e w30 ⟨A8, n8, c8, B8, m8, d8, rfl, h8, gq⟩
        go_wp2_with fail
        exact ⟨rfl, rfl, gq, _, _, _, _, _, _, rfl, h8.f0⟩
      -- 6: Op.move t20
      apply Stage3.step (StE 0 T1 r) true [false, false, false, false, false, true] true false (StE.keeps _ _ _) (fun _ => StE.keeps2 _ _ _) (by kernel_rfl)
      · intro γ w1 h1
        have h1 : Ext _ w1 := h1
        simp only [List.nil_append, List.cons_append, List.map_cons, List.map_nil, Sp3.at, Sp.pr, Given]
        rintro v hcp
        go_wp2_with fail
        exact ⟨rfl, rfl, Ext.refl _, hcp⟩
      -- 7: Op.extract t14 0
      apply Stage3.step (StT 0 T1) true [false, false, false, false, false, false, true] true false (StT.keeps _ _) (fun _ => StT.keeps2 _ _) (by kernel_rfl)
      · intro γ w1 h1
        have h1 : Ext _ w1 := h1
        simp only [List.nil_append, List.cons_append, List.map_cons, List.map_nil, Sp3.at, Sp.pr, Given]
        rintro _ ⟨A8, n8, c8, B8, m8, d8, rfl, h8⟩
        go_wp2_with fail
        exact ⟨rfl, rfl, Ext.refl _, _, _, _, _, _, _, rfl, h8⟩
      -- 8: Op.extract t14 1
      apply Stage3.step (Is (.int .i64 r)) true [false, false, false, false, false, false, true] false false (Is.keeps _) (fun _ => Is.keeps _) (by kernel_rfl)
      · intro γ w1 h1
        have h1 : (Bux wr.heap.size (fun _ => False)) _ w1 := h1
        simp only [List.nil_append, List.cons_append, List.map_cons, List.map_nil, Sp3.at, Sp.pr, Given]
        rintro _ ⟨A8, n8, c8, B8, m8, d8, rfl, h8⟩
        go_wp2_with fail
        exact Post.isv (Ext.refl _) rfl rfl rfl
      -- 9: Op.alloc 35
      apply Stage3.stepA (BoxP wr.heap.size) true [] true false (BoxP.keeps _) (fun _ => BoxP.keeps2 _) (by kernel_rfl)
      · intro γ w1 h1
        have h1 : Ext _ w1 := h1
        simp only [List.nil_append, List.cons_append, List.map_cons, List.map_nil, Given]
        go_wp2_with fail
        exact ⟨rfl, rfl, Ext.alloc _ _, BoxP.made h1.size⟩
      -- 10: Op.store 35 t6 t21
      apply Stage3.stepD (fun γ => BoxS 0 T1 γ) false [false, false, false, false, false, false, false, true, false, true] true true (fun γ => BoxS.keeps _ _ _) (fun h => by cases h) (by kernel_rfl)
      · intro γ w1 h1
        have h1 : Ext _ w1 := h1
        simp only [List.nil_append, List.cons_append, List.map_cons, List.map_nil, Sp3.at, Sp.pr, Given]
        rintro _ ⟨A8, n8, c8, B8, m8, d8, rfl, h8⟩
        rintro _ ⟨rfl, g8, rfl, hg8, hb8⟩
        have hbx := hb8
        obtain ⟨hx1, ⟨y1, y2, y3, y4, y5, y6, x0, x1⟩, xf⟩ := hb8
        have xf0 := xf 0
        have xf1 := xf 1
        go_wp2_with fail
        refine ⟨rfl, rfl, bux_set2 (.inr hg8) hbx _ _ _ _ _ _, fun g e => ?_⟩
        obtain rfl : g8 = g := by injection e with e; injection e with e; injection e with e
        exact stb_box hbx h8 _
      -- 11: Op.assign t22
      apply Stage3.step (Is _) true [false, false, false, false, false, false, false, false, true] false false (Is.keeps _) (fun _ => Is.keeps _) (by kernel_rfl)
      · intro γ w1 h1
        have h1 : (Bux wr.heap.size (fun _ => False)) _ w1 := h1
        simp only [List.nil_append, List.cons_append, List.map_cons, List.map_nil, Sp3.at, Sp.pr, Given]
        rintro _ rfl
        go_wp2_with fail
        exact Post.isv (Ext.refl _) rfl rfl rfl
      apply Stage3.nil [true, true, true, true, true, true, true, true, true, true, true, true] (by kernel_rfl)
      intro γ w1 h1
      have h1 : (Bux wr.heap.size (fun _ => False)) _ w1 := h1
      simp only [List.nil_append, List.cons_append, List.map_cons, List.map_nil, Sp3.at, Sp.pr]
      refine Fin2.is_ ?_
      refine Fin2.is_ ?_
      refine Fin2.is_ ?_
      refine Fin2.is_ ?_
      refine Fin2.is_ ?_
      refine Fin2.step_ ?_
      rintro _ ⟨A8, n8, c8, B8, m8, d8, rfl, h8⟩
      refine Fin2.step_ ?_
      rintro _ ⟨A8, n8, c8, B8, m8, d8, rfl, h8⟩
      refine Fin2.step_ ?_
      rintro _ ⟨A8, n8, c8, B8, m8, d8, rfl, h8⟩
      refine Fin2.is_ ?_
      refine Fin2.step_ ?_
      rintro _ ⟨rfl, g8, rfl, hg8, hb8⟩
      refine Fin2.step_ ?_
      rintro _ hst8
      refine Fin2.is_ ?_
      refine Fin2.nil_ ?_
      go_simp
      obtain ⟨A9, n9, c9, B9, m9, d9, x0, x1, xf, hS8, hgs8⟩ := hst8 g8 rfl
      have g8x : Ext wr w1 := (Ext.refl wr).but h1.but (Nat.le_refl _) (fun _ h => h.elim)
      have b9 := hS8.data.sl.n63
      have bb9 := hS8.snaps.n63
      replace r0 := g8x.cell r0
      replace r1 := g8x.cell r1
      have rf8 : ∀ q, w1.frozen? ⟨gp, q, none⟩ = false := fun q => frozen_ext g8x (show gp < wr.heap.size by omega) (rf q)
      have hbt8 : But W.heap.size (fun k => k = gp) W w1 := hbt.trans (But.of_ext g8x)
      replace hS := hS.ext g8x
      have hgp1 : gp < w1.heap.size := World.block_lt_of_cell? _ _ r0
      clear h1 hst8 h8 hb8 a0 a1 a2 a3 a4 sa rf
      obtain ⟨wm, rfl⟩ : ∃ q, q = w1 := ⟨_, rfl⟩
      by_cases hr0 : r = 0
      · subst hr0
        have e1 := hstep.out
        rw [if_pos rfl] at e1
        have f0 := rf8 0
        have f1 := rf8 1
        have hbx : IsBox gp wm := ⟨hgp1, ⟨_, _, _, _, _, _, r0, r1⟩, rf8⟩
        have hnew := Lib.hid (stb_box hbx hS8 (.bool true))
        have hb9 : But W.heap.size (fun k => k = gp) W ((wm.setCell ⟨gp, 0, none⟩ (.slice A9 n9 c9)).setCell ⟨gp, 1, none⟩ (.slice B9 m9 d9)) := hbt8.trans (but_set2 _ _)
        have hgw : g8 ≠ gp := by omega
        replace hstep := Lib.hid e1
        clear e1 hbx
        go_wp2_with fail
        go_roundw
        case rel =>
          obtain ⟨A10, n10, c10, B10, m10, d10, y0, y1, yf, hS10, _⟩ := hnew.out
          exact ⟨k + 1, A10, n10, c10, B10, m10, d10, by omega, by go_num, y0, y1, yf, by rw [hstep.out]; exact hS10.st, hb9⟩
        case measure => simp [intOf]; omega
      · have qr : ((r : Int) == 0) = false := by simp; omega
        have e1 := hstep.out
        rw [if_neg hr0] at e1
        replace hstep := Lib.hid e1
        clear e1
        go_wp2_with fail
        go_roundw
        case rel => exact ⟨k + 1, A5, n5, c5, B5, m5, d5, by omega, by go_num, r0, r1, rf8, by rw [hstep.out]; exact hS, hbt8⟩
        case measure => simp [intOf]; omega
    · rw [List.take_of_length_le (by rw [l1.len]; omega)] at hS
      have y0 := hbt.cell z0 (by simp only; omega) (by simp only; omega)
      have y1 := hbt.cell z1 (by simp only; omega) (by simp only; omega)
      have yf : ∀ q, wr.frozen? ⟨gp + 1, q, none⟩ = false := fun q => frozen_but hbt (by simp only; omega) (by simp only; omega) (by simp only; omega) (zf q)
      have f0 := yf 0
      have f1 := yf 1
      clear z0 z1 zf
      go_wp2_with fail
      refine bodyPost_ret (v := stV A5 n5 c5 B5 m5 d5) ?hres rfl ⟨_, _, _, _, _, _, rfl, ?hst, ?hxx⟩
      case hres => simp [results, Try.results26, go_sem, y0, y1]
      case hst => exact ((StR.f0 hS).box (g := gp + 1) ⟨by omega, ⟨_, _, _, _, _, _, y0, y1⟩, yf⟩ _ _).st
      case hxx => exact (gx.sets (by simp only; omega) _).sets (by simp only; omega) _
end Go.Proofs.Ytcklkjklepmabaa
