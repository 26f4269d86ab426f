/-
  The walk of one statement of chapter 15: the way leads there.
-/
import Derived.Test.YtcklkjklepmabaaZWay
import Derived.Test.YtcklkjklepmabaaZDiffKnown
import Derived.Test.YtcklkjklepmabaaZStNew
import Derived.Test.YtcklkjklepmabaaZOpenEvs
import Derived.Test.YtcklkjklepmabaaZBoxTy
import Derived.Test.YtcklkjklepmabaaZStV
namespace Go.Proofs.Ytcklkjklepmabaa
open Go.RowKit
set_option linter.unusedVariables false
set_option linter.unusedSimpArgs false
set_option linter.unnecessarySimpa false
set_option maxRecDepth 100000

def EvsT (l : List Ev) : Ty := fun v w => ∃ A n c, v = .slice A n c ∧ Lst 5 evR w A n c l
theorem EvsT.keeps (l : List Ev) : Keeps Ext (EvsT l) := fun _ _ _ hx ⟨A, n, c, e, h⟩ => ⟨A, n, c, e, h.ext ev_rep hx⟩
theorem small_len {xs : List Ev} {m : Nat} (h : smallB xs m = true) : xs.length ≤ m := (of_decide_eq_true h).2
set_option maxHeartbeats 8000000 in
theorem law_DiffLeads (z z' : Int) (A : Option Addr) (n c : Nat) (both : List Ev) (A' : Option Addr) (n' c' : Nat) (one : List Ev) (A'' : Option Addr) (n'' c'' : Nat) (two : List Ev) (w : World) (hz1 : -9223372036854775808 ≤ z) (hz2 : z ≤ 9223372036854775807) (hz1' : -9223372036854775808 ≤ z') (hz2' : z' ≤ 9223372036854775807) (h : Lst 5 evR w A n c both) (h' : Lst 5 evR w A' n' c' one) (h'' : Lst 5 evR w A'' n'' c'' two) :
    Calls Try.prog 18 #[.int .i64 z, .int .i64 z', .slice A n c, .slice A' n' c', .slice A'' n'' c''] w fun e w' => e = .returned (.bool true) ∧ Ext w w' := by
  have h63 := h.n63
  have h63' := h'.n63
  have h63'' := h''.n63
  obtain ⟨f, hf⟩ : ∃ q, smallB both 30 = q := ⟨_, rfl⟩
  obtain ⟨f2, hf2⟩ : ∃ q, smallB one 30 = q := ⟨_, rfl⟩
  obtain ⟨f3, hf3⟩ : ∃ q, smallB two 30 = q := ⟨_, rfl⟩
  have HF := Lib.hid hf
  have HF2 := Lib.hid hf2
  have HF3 := Lib.hid hf3
  cases f with
  | false =>
    clear hf hf2 hf3
    go_enter Try.func18, Try.ntmps18
    go_wp2_with fail
    refine (keep_Small h (m := 30) (by decide) HF).mono ?_
    rintro e w1 ⟨rfl, gq⟩
    go_wp2_with fail
    refine (law15_known _).mono ?_
    rintro e w9 ⟨rfl, hx1⟩
    go_wp2_with fail
    go_ret
    exact ⟨rfl, gq.trans hx1⟩
  | true =>
    cases f2 with
    | false =>
      clear hf hf2 hf3
      go_enter Try.func18, Try.ntmps18
      go_wp2_with fail
      refine (keep_Small h (m := 30) (by decide) HF).mono ?_
      rintro e w1 ⟨rfl, gq⟩
      have gx := gq
      go_wp2_with fail
      refine (keep_Small (h'.ext ev_rep gx) (m := 30) (by decide) HF2).mono ?_
      rintro e w1 ⟨rfl, gq⟩
      replace gx := gx.trans gq
      go_wp2_with fail
      refine (law15_known _).mono ?_
      rintro e w9 ⟨rfl, hx1⟩
      go_wp2_with fail
      go_ret
      exact ⟨rfl, gx.trans hx1⟩
    | true =>
      cases f3 with
      | false =>
        clear hf hf2 hf3
        go_enter Try.func18, Try.ntmps18
        go_wp2_with fail
        refine (keep_Small h (m := 30) (by decide) HF).mono ?_
        rintro e w1 ⟨rfl, gq⟩
        have gx := gq
        go_wp2_with fail
        refine (keep_Small (h'.ext ev_rep gx) (m := 30) (by decide) HF2).mono ?_
        rintro e w1 ⟨rfl, gq⟩
        replace gx := gx.trans gq
        go_wp2_with fail
        refine (keep_Small (h''.ext ev_rep gx) (m := 30) (by decide) HF3).mono ?_
        rintro e w1 ⟨rfl, gq⟩
        replace gx := gx.trans gq
        go_wp2_with fail
        refine (law15_known _).mono ?_
        rintro e w9 ⟨rfl, hx1⟩
        go_wp2_with fail
        go_ret
        exact ⟨rfl, gx.trans hx1⟩
      | true =>
        have hnl := small_len hf
        have hnl2 := small_len hf2
        have hnl3 := small_len hf3
        rw [h.len] at hnl
        rw [h'.len] at hnl2
        rw [h''.len] at hnl3
        obtain ⟨i0, hi0, hy0, hy1, hy2⟩ := info_parts info_ev
        have rt0 := right_new z
        obtain ⟨S0, hS0⟩ : ∃ S, newS z = S := ⟨_, rfl⟩
        rw [hS0] at rt0
        have rt0' := right_new z'
        obtain ⟨S0', hS0'⟩ : ∃ S, newS z' = S := ⟨_, rfl⟩
        rw [hS0'] at rt0'
        have rt1 := right_fold rt0 (both ++ one)
        obtain ⟨S1, hS1⟩ : ∃ S, foldS S0 (both ++ one) = S := ⟨_, rfl⟩
        rw [hS1] at rt1
        have rt2 := right_fold rt0' (both ++ two)
        obtain ⟨S2, hS2⟩ : ∃ S, foldS S0' (both ++ two) = S := ⟨_, rfl⟩
        rw [hS2] at rt2
        have ok0 := okS_right rt0
        have ok0' := okS_right rt0'
        obtain ⟨R, hR⟩ : ∃ R, wayS S1 S2 = R := ⟨_, rfl⟩
        have hled := way_leads rt1 rt2
        have hnil := way_nil rt1 rt2
        rw [hR] at hled hnil
        have HS0 := Lib.hid hS0
        have HS0' := Lib.hid hS0'
        have HS1 := Lib.hid hS1
        have HS2 := Lib.hid hS2
        have HR := Lib.hid hR
        have HL := Lib.hid hled
        have HN := Lib.hid hnil
        have RT1 := Lib.hid rt1
        clear hS0 hS0' hS1 hS2 hR rt0 rt0' rt1 rt2 hf hf2 hf3 hled hnil
        go_enter Try.func18, Try.ntmps18
        go_wp2_with fail
        refine (keep_Small h (m := 30) (by decide) HF).mono ?_
        rintro e w1 ⟨rfl, gq⟩
        have gx := gq
        go_wp2_with fail
        refine (keep_Small (h'.ext ev_rep gx) (m := 30) (by decide) HF2).mono ?_
        rintro e w1 ⟨rfl, gq⟩
        replace gx := gx.trans gq
        go_wp2_with fail
        refine (keep_Small (h''.ext ev_rep gx) (m := 30) (by decide) HF3).mono ?_
        rintro e w1 ⟨rfl, gq⟩
        replace gx := gx.trans gq
        clear gq
        go_wp2_with fail
        refine (model_New z _).mono ?_
        rintro e w2 ⟨A2, n2, c2, rfl, k1, gq⟩
        have b2 := k1.1.n63
        rw [HS0.out] at k1
        replace gx := gx.trans gq
        clear gq
        have hh := h.ext ev_rep gx
        have hh2 := h'.ext ev_rep gx
        go_wp2_with (
          at_builtin
          first
          | (refine wpList_append_lst2 (w0 := w2) ev_rep rfl _ _ _ _ rfl TEv i0 _ 64 under_evs hi0 hy0 hy1 hy2 rfl _ 0 0 [] rfl (OwnL.nil _ _ _ _) _ n both rfl (Feed.old (e := TEv) (n := 0) (xs := []) ev_rep (OwnL.nil _ _ _ _) hh (Ext.alloc _ _) under_evs) n (Nat.zero_add _) both rfl (by simp only [maxLen]; omega) (by omega) (Ext.alloc _ _) ?_
             intro Aa ca wa ho1 gxa hga)
          | (refine wpList_append_lst2 (w0 := w2) ev_rep rfl _ _ _ _ rfl TEv i0 _ 64 under_evs hi0 hy0 hy1 hy2 rfl Aa n ca both rfl ho1 _ n' one rfl (Feed.old ev_rep ho1 hh2 gxa under_evs) (n + n') rfl _ rfl (by simp only [maxLen]; omega) (by omega) gxa ?_
             intro Ab cb wb ho2 gq hgb))
        replace k1 := k1.ext gq
        replace gx := gx.trans gq
        clear gq
        clear gxa hga hgb ho1 hh hh2
        refine (model_Fold k1 ok0 ho2.lst).mono ?_
        rintro e w3 ⟨A3, n3, c3, B3, m3, d3, rfl, ua, gq⟩
        rw [HS1.out] at ua
        have b3 := ua.st.1.n63
        have bb3 := ua.st.2.n63
        replace gx := gx.trans gq
        clear gq
        clear k1 ho2
        obtain ⟨w3b, hW⟩ : ∃ q, w3.alloc (.cells #[.slice A3 n3 c3, .slice B3 m3 d3] TSt) = q := ⟨_, rfl⟩
        obtain ⟨blkp, hgp⟩ : ∃ q, w3.heap.size = q := ⟨_, rfl⟩
        have gq : Ext w3 w3b := by rw [← hW]; exact Ext.alloc _ _
        have p0 : w3b.cell? ⟨blkp, 0, none⟩ = some (.slice A3 n3 c3) := by rw [← hW, ← hgp]; exact cell_new w3 _ _ 0
        have p1 : w3b.cell? ⟨blkp, 1, none⟩ = some (.slice B3 m3 d3) := by rw [← hW, ← hgp]; exact cell_new w3 _ _ 1
        replace ua := ua.ext gq
        replace gx := gx.trans gq
        clear gq
        go_wp2_with fail
        clear hW hgp
        refine (model_New z' _).mono ?_
        rintro e w4 ⟨A4, n4, c4, rfl, k1, gq⟩
        have b4 := k1.1.n63
        rw [HS0'.out] at k1
        replace p0 := gq.cell p0
        replace p1 := gq.cell p1
        replace ua := ua.ext gq
        replace gx := gx.trans gq
        clear gq
        have hh := h.ext ev_rep gx
        have hh2 := h''.ext ev_rep gx
        go_wp2_with (
          at_builtin
          first
          | (refine wpList_append_lst2 (w0 := w4) ev_rep rfl _ _ _ _ rfl TEv i0 _ 64 under_evs hi0 hy0 hy1 hy2 rfl _ 0 0 [] rfl (OwnL.nil _ _ _ _) _ n both rfl (Feed.old (e := TEv) (n := 0) (xs := []) ev_rep (OwnL.nil _ _ _ _) hh (Ext.alloc _ _) under_evs) n (Nat.zero_add _) both rfl (by simp only [maxLen]; omega) (by omega) (Ext.alloc _ _) ?_
             intro Aa ca wa ho1 gxa hga)
          | (refine wpList_append_lst2 (w0 := w4) ev_rep rfl _ _ _ _ rfl TEv i0 _ 64 under_evs hi0 hy0 hy1 hy2 rfl Aa n ca both rfl ho1 _ n'' two rfl (Feed.old ev_rep ho1 hh2 gxa under_evs) (n + n'') rfl _ rfl (by simp only [maxLen]; omega) (by omega) gxa ?_
             intro Ab cb wb ho2 gq hgb))
        replace k1 := k1.ext gq
        replace p0 := gq.cell p0
        replace p1 := gq.cell p1
        replace ua := ua.ext gq
        replace gx := gx.trans gq
        clear gq
        clear gxa hga hgb ho1 hh hh2
        refine (model_Fold k1 ok0' ho2.lst).mono ?_
        rintro e w5 ⟨A5, n5, c5, B5, m5, d5, rfl, ub, gq⟩
        rw [HS2.out] at ub
        have b5 := ub.st.1.n63
        have bb5 := ub.st.2.n63
        replace p0 := gq.cell p0
        replace p1 := gq.cell p1
        replace ua := ua.ext gq
        replace gx := gx.trans gq
        clear gq
        clear k1 ho2
        obtain ⟨w5b, hW⟩ : ∃ q, w5.alloc (.cells #[.slice A5 n5 c5, .slice B5 m5 d5] TSt) = q := ⟨_, rfl⟩
        obtain ⟨blkq, hgq⟩ : ∃ q, w5.heap.size = q := ⟨_, rfl⟩
        have gq : Ext w5 w5b := by rw [← hW]; exact Ext.alloc _ _
        have q0 : w5b.cell? ⟨blkq, 0, none⟩ = some (.slice A5 n5 c5) := by rw [← hW, ← hgq]; exact cell_new w5 _ _ 0
        have q1 : w5b.cell? ⟨blkq, 1, none⟩ = some (.slice B5 m5 d5) := by rw [← hW, ← hgq]; exact cell_new w5 _ _ 1
        replace p0 := gq.cell p0
        replace p1 := gq.cell p1
        replace ua := ua.ext gq
        replace ub := ub.ext gq
        replace gx := gx.trans gq
        clear gq
        go_wp2_with fail
        clear hW hgq
        refine (diff_Way ua.st ub.st HR).mono ?_
        rintro e w8 ⟨Al, nl, cl, rfl, hl, gq⟩
        have bl := hl.n63
        have hll := hl.len
        replace p0 := gq.cell p0
        replace p1 := gq.cell p1
        replace q0 := gq.cell q0
        replace q1 := gq.cell q1
        replace ua := ua.ext gq
        replace ub := ub.ext gq
        replace gx := gx.trans gq
        clear gq
        obtain ⟨gs, hgs⟩ : ∃ q, w8.heap.size = q := ⟨_, rfl⟩
        obtain ⟨w9, hw9⟩ : ∃ q, w8.alloc (.cells #[.slice A3 n3 c3, .slice B3 m3 d3] TSt) = q := ⟨_, rfl⟩
        have gq : Ext w8 w9 := by rw [← hw9]; exact Ext.alloc _ _
        have r0 : w9.cell? ⟨gs, 0, none⟩ = some (.slice A3 n3 c3) := by rw [← hw9, ← hgs]; exact cell_new w8 _ _ 0
        have r1 : w9.cell? ⟨gs, 1, none⟩ = some (.slice B3 m3 d3) := by rw [← hw9, ← hgs]; exact cell_new w8 _ _ 1
        have rf : ∀ q, w9.frozen? ⟨gs, q, none⟩ = false := fun q => by
          rw [← hw9, ← hgs]
          unfold World.frozen?
          rw [heap_alloc_new]
          simp
        have rs : gs < w9.heap.size := by rw [← hw9, ← hgs]; simp
        have k2 := (ua.st.v.ext gq).weak (V' := fun k => k ≠ gs) (fun k hk _ => by omega)
        go_wp2_with fail
        clear hw9
        have hLd := HL.out
        go_loopw [15] (fun i wr => ∃ (k : Nat) (T : St) (A5 : Option Addr) (n5 c5 : Nat) (B5 : Option Addr) (m5 d5 : Nat), k ≤ nl ∧ i = .int .i64 k ∧ wr.cell? ⟨gs, 0, none⟩ = some (.slice A5 n5 c5) ∧ wr.cell? ⟨gs, 1, none⟩ = some (.slice B5 m5 d5) ∧ (∀ q, wr.frozen? ⟨gs, q, none⟩ = false) ∧ gs < wr.heap.size ∧ StV (fun k => k ≠ gs) wr A5 n5 c5 B5 m5 d5 T ∧ Hid (foldS S1 (R.take k) = T) ∧ Hid (rightS T = true) ∧ Ext w8 wr) (fun i _ => nl - (intOf i).toNat)
        case atStart => exact ⟨0, S1, _, _, _, _, _, _, by omega, rfl, r0, r1, rf, rs, k2, Lib.hid rfl, RT1, gq⟩
        case round =>
          obtain ⟨k, T, A5, n5, c5, B5, m5, d5, hk, rfl, r0, r1, rf, rs, hS, hT2, hrT, gxr⟩ := hrel
          have b5 := hS.data.n63
          have bb5 := hS.snaps.n63
          have gxx := gx.trans gxr
          replace p0 := gxr.cell p0
          replace p1 := gxr.cell p1
          replace q0 := gxr.cell q0
          replace q1 := gxr.cell q1
          replace ua := ua.ext gxr
          replace ub := ub.ext gxr
          by_cases hlt : k < nl
          · obtain ⟨ga, oa, x, cs, rfl, hx, ⟨Aa, na, ca, rfl, sa0, hs⟩, ha⟩ := hl.at2 ev_rep (by omega) hlt
            have a0 : wr.cell? ⟨ga, oa + k * 5, none⟩ = _ := gxr.cell (ha 0 _ rfl)
            have a1 := gxr.cell (ha 1 _ rfl)
            have a2 := gxr.cell (ha 2 _ rfl)
            have a3 := gxr.cell (ha 3 _ rfl)
            have a4 := gxr.cell (ha 4 _ rfl)
            have sa := sa0.ext gxr
            have hna := sa0.n63
            have hal := sa0.len
            have hld := led_at hLd hx
            rw [hT2.out] at hld
            have hfn := fold_next (st := S1) hx
            rw [hT2.out] at hfn
            have hrT1 := right_step (e := x) hrT.out
            rw [step_yes hld.1] at hfn hrT1
            obtain ⟨T1, hT1⟩ : ∃ q, appE T x = q := ⟨_, rfl⟩
            have hT1' : applyS T x.k x.o x.m x.l x.s = T1 := hT1
            rw [hT1'] at hfn hrT1
            rw [hT1] at hld
            have HNE : Hid (decide (T = T1) = false) := Lib.hid (by simpa using fun e => hld.2 e.symm)
            obtain ⟨xk, xo, xm, xl, xs'⟩ := x
            simp only at a0 a1 a2 a3 a4 sa hs hal hT1'
            have HR0 : Hid (checkN T xk xo xm na xs' = 0) := Lib.hid (by rw [← hal]; exact hld.1)
            have HT1 : Hid (appliedS 0 T xk xo xm xl xs' = T1) := Lib.hid (by unfold appliedS; rw [if_pos rfl]; exact hT1')
            obtain ⟨o1, o2, o3⟩ := okS_right hrT.out
            have hnd := hS.data.len
            have hmd := hS.snaps.len
            have hn5 : n5 ≤ 1000 := by omega
            have hm5 : m5 ≤ 1000 := by omega
            replace hfn := Lib.hid hfn
            replace hrT1 := Lib.hid hrT1
            clear ha hx sa0 hld hT1 hT1' hT2 hal
            go_wp2_with fail
            refine wp_region_typed3 (R := Bux wr.heap.size (fun _ => False)) Ext.steady (Bux.steady _ _) (fun _ _ => Bux.of_ext) rfl 90 rfl [0, 0, 0, 6, 14, 31, 63, 127, 127, 0, 767, 2047] 1024 9 (by kernel_rfl) ?_
            -- 0: Op.load 35 t14
            apply Stage3.step (Is _) true [] true false (Is.keeps _) (fun _ => Is.keeps _) (by kernel_rfl)
            · intro γ w1 h1
              have h1 : Ext _ w1 := h1
              simp only [List.nil_append, List.cons_append, List.map_cons, List.map_nil, Given]
              have hq := h1.cell r0
              have hq2 := h1.cell r1
              go_wp2_with fail
              exact Post.isv (Ext.refl _) rfl rfl rfl
            -- 1: Op.move t13
            apply Stage3.step (Is _) true [] true false (Is.keeps _) (fun _ => Is.keeps _) (by kernel_rfl)
            · intro γ w1 h1
              have h1 : Ext _ w1 := h1
              simp only [List.nil_append, List.cons_append, List.map_cons, List.map_nil, Given]
              go_wp2_with fail
              exact Post.isv (Ext.refl _) rfl rfl rfl
            -- 2: Op.move t15
            apply Stage3.step (Is _) true [] true false (Is.keeps _) (fun _ => Is.keeps _) (by kernel_rfl)
            · intro γ w1 h1
              have h1 : Ext _ w1 := h1
              simp only [List.nil_append, List.cons_append, List.map_cons, List.map_nil, Given]
              go_wp2_with fail
              exact Post.isv (Ext.refl _) rfl rfl rfl
            -- 3: Op.indexAddr 23 t60 t61
            apply Stage3.step (Is _) true [false, true, true] true false (Is.keeps _) (fun _ => Is.keeps _) (by kernel_rfl)
            · intro γ w1 h1
              have h1 : Ext _ w1 := h1
              simp only [List.nil_append, List.cons_append, List.map_cons, List.map_nil, Sp3.at, Sp.pr, Given]
              rintro _ rfl
              rintro _ rfl
              go_wp2_with fail
              exact Post.isv (Ext.refl _) rfl rfl rfl
            -- 4: Op.load 28 t62
            apply Stage3.step (Is _) true [false, false, false, true] true false (Is.keeps _) (fun _ => Is.keeps _) (by kernel_rfl)
            · intro γ w1 h1
              have h1 : Ext _ w1 := h1
              simp only [List.nil_append, List.cons_append, List.map_cons, List.map_nil, Sp3.at, Sp.pr, Given]
              rintro _ rfl
              have hq0 := h1.cell a0
              have hq1 := h1.cell a1
              have hq2 := h1.cell a2
              have hq3 := h1.cell a3
              have hq4 := h1.cell a4
              go_wp2_with fail
              exact Post.isv (Ext.refl _) rfl rfl rfl
            -- 5: Op.call { value (Operand.func 50), args := #[t59, t63], argTypes := #[35, 28] }
            apply Stage3.step (StE wr.heap.size T1 0) true [true, false, false, false, true] true false (StE.keeps _ _ _) (fun _ => StE.keeps2 _ _ _) (by kernel_rfl)
            · intro γ w1 h1
              have h1 : Ext _ w1 := h1
              simp only [List.nil_append, List.cons_append, List.map_cons, List.map_nil, Sp3.at, Sp.pr, Given]
              rintro _ rfl
              rintro _ rfl
              go_wp2_with fail
              refine (model_Apply (hS.st.ext h1) hn5 hm5 o3 (sa.ext h1) hs HR0 HT1).mono ?_
              rintro e w30 ⟨A8, n8, c8, B8, m8, d8, rfl, h8, gq⟩
              go_wp2_with fail
              exact ⟨rfl, rfl, gq, _, _, _, _, _, _, rfl, h8.low h1.size⟩
            -- 6: Op.move t64
            apply Stage3.step (StE wr.heap.size T1 0) true [false, false, false, false, false, true] true false (StE.keeps _ _ _) (fun _ => StE.keeps2 _ _ _) (by kernel_rfl)
            · intro γ w1 h1
              have h1 : Ext _ w1 := h1
              simp only [List.nil_append, List.cons_append, List.map_cons, List.map_nil, Sp3.at, Sp.pr, Given]
              rintro v hcp
              go_wp2_with fail
              exact ⟨rfl, rfl, Ext.refl _, hcp⟩
            -- 7: Op.extract t58 0
            apply Stage3.step (StT wr.heap.size T1) true [false, false, false, false, false, false, true] true false (StT.keeps _ _) (fun _ => StT.keeps2 _ _) (by kernel_rfl)
            · intro γ w1 h1
              have h1 : Ext _ w1 := h1
              simp only [List.nil_append, List.cons_append, List.map_cons, List.map_nil, Sp3.at, Sp.pr, Given]
              rintro _ ⟨A8, n8, c8, B8, m8, d8, rfl, h8⟩
              go_wp2_with fail
              exact ⟨rfl, rfl, Ext.refl _, _, _, _, _, _, _, rfl, h8⟩
            -- 8: Op.extract t58 1
            apply Stage3.step (Is (.int .i64 0)) true [false, false, false, false, false, false, true] false false (Is.keeps _) (fun _ => Is.keeps _) (by kernel_rfl)
            · intro γ w1 h1
              have h1 : (Bux wr.heap.size (fun _ => False)) _ w1 := h1
              simp only [List.nil_append, List.cons_append, List.map_cons, List.map_nil, Sp3.at, Sp.pr, Given]
              rintro _ ⟨A8, n8, c8, B8, m8, d8, rfl, h8⟩
              go_wp2_with fail
              exact Post.isv (Ext.refl _) rfl rfl rfl
            -- 9: Op.alloc 35
            apply Stage3.stepA (BoxP wr.heap.size) true [] true false (BoxP.keeps _) (fun _ => BoxP.keeps2 _) (by kernel_rfl)
            · intro γ w1 h1
              have h1 : Ext _ w1 := h1
              simp only [List.nil_append, List.cons_append, List.map_cons, List.map_nil, Given]
              go_wp2_with fail
              exact ⟨rfl, rfl, Ext.alloc _ _, BoxP.made h1.size⟩
            -- 10: Op.store 35 t16 t65
            apply Stage3.stepD (fun γ => BoxS wr.heap.size T1 γ) false [false, false, false, false, false, false, false, true, false, true] true true (fun γ => BoxS.keeps _ _ _) (fun h => by cases h) (by kernel_rfl)
            · intro γ w1 h1
              have h1 : Ext _ w1 := h1
              simp only [List.nil_append, List.cons_append, List.map_cons, List.map_nil, Sp3.at, Sp.pr, Given]
              rintro _ ⟨A8, n8, c8, B8, m8, d8, rfl, h8⟩
              rintro _ ⟨rfl, g8, rfl, hg8, hb8⟩
              have hbx := hb8
              obtain ⟨hx1, ⟨y1, y2, y3, y4, y5, y6, z0, z1⟩, zf⟩ := hb8
              have zf0 := zf 0
              have zf1 := zf 1
              go_wp2_with fail
              refine ⟨rfl, rfl, bux_set2 (.inr hg8) hbx _ _ _ _ _ _, fun g e => ?_⟩
              obtain rfl : g8 = g := by injection e with e; injection e with e; injection e with e
              exact stb_box hbx h8 _
            -- 11: Op.assign t66
            apply Stage3.step (Is _) true [false, false, false, false, false, false, false, false, true] false false (Is.keeps _) (fun _ => Is.keeps _) (by kernel_rfl)
            · intro γ w1 h1
              have h1 : (Bux wr.heap.size (fun _ => False)) _ w1 := h1
              simp only [List.nil_append, List.cons_append, List.map_cons, List.map_nil, Sp3.at, Sp.pr, Given]
              rintro _ rfl
              go_wp2_with fail
              exact Post.isv (Ext.refl _) rfl rfl rfl
            apply Stage3.nil [true, true, true, true, true, true, true, true, true, true, true, true] (by kernel_rfl)
            intro γ w1 h1
            have h1 : (Bux wr.heap.size (fun _ => False)) _ w1 := h1
            simp only [List.nil_append, List.cons_append, List.map_cons, List.map_nil, Sp3.at, Sp.pr]
            refine Fin2.is_ ?_
            refine Fin2.is_ ?_
            refine Fin2.is_ ?_
            refine Fin2.is_ ?_
            refine Fin2.is_ ?_
            refine Fin2.step_ ?_
            rintro _ ⟨A8, n8, c8, B8, m8, d8, rfl, h8⟩
            refine Fin2.step_ ?_
            rintro _ ⟨A8, n8, c8, B8, m8, d8, rfl, h8⟩
            refine Fin2.step_ ?_
            rintro _ ⟨A8, n8, c8, B8, m8, d8, rfl, h8⟩
            refine Fin2.is_ ?_
            refine Fin2.step_ ?_
            rintro _ ⟨rfl, g8, rfl, hg8, hb8⟩
            refine Fin2.step_ ?_
            rintro _ hst8
            refine Fin2.is_ ?_
            refine Fin2.nil_ ?_
            go_simp
            obtain ⟨A9, n9, c9, B9, m9, d9, x0, x1, xf, hS8, hgs8⟩ := hst8 g8 rfl
            have g8x : Ext wr w1 := (Ext.refl wr).but h1.but (Nat.le_refl _) (fun _ h => h.elim)
            have b9 := hS8.data.sl.n63
            have bb9 := hS8.snaps.n63
            replace r0 := g8x.cell r0
            replace r1 := g8x.cell r1
            have rs8 := Nat.lt_of_lt_of_le rs g8x.size
            replace rf : ∀ q, w1.frozen? ⟨gs, q, none⟩ = false := fun q => frozen_ext g8x rs (rf q)
            replace hS := hS.ext g8x
            have gxr8 := gxr.trans g8x
            clear h1 hst8 h8 hb8 a0 a1 a2 a3 a4 sa
            obtain ⟨wm, rfl⟩ : ∃ q, q = w1 := ⟨_, rfl⟩
            go_wp2_with fail
            refine (model_SameSt hS.st hS8.st HNE).mono ?_
            rintro e w1 ⟨rfl, h1⟩
            replace x0 := h1.cell x0
            replace x1 := h1.cell x1
            replace hS8 := hS8.ext h1
            replace r0 := h1.cell r0
            replace r1 := h1.cell r1
            replace rf : ∀ q, w1.frozen? ⟨gs, q, none⟩ = false := fun q => frozen_ext h1 rs8 (rf q)
            replace rs8 := Nat.lt_of_lt_of_le rs8 h1.size
            replace gxr8 := gxr8.trans h1
            have hwsz : wr.heap.size ≤ w1.heap.size := Nat.le_trans g8x.size h1.size
            have f0 := rf 0
            have f1 := rf 1
            have y0 : ((w1.setCell ⟨gs, 0, none⟩ (.slice A9 n9 c9)).setCell ⟨gs, 1, none⟩ (.slice B9 m9 d9)).cell? ⟨gs, 0, none⟩ = some (.slice A9 n9 c9) := by
              rw [World.cell?_setCell_other _ _ _ _ (fun e => by injection e with e1 e2; omega)]
              exact World.cell?_setCell_same _ _ _ r0
            have y1 : ((w1.setCell ⟨gs, 0, none⟩ (.slice A9 n9 c9)).setCell ⟨gs, 1, none⟩ (.slice B9 m9 d9)).cell? ⟨gs, 1, none⟩ = some (.slice B9 m9 d9) :=
              World.cell?_setCell_same _ _ _ (by rw [World.cell?_setCell_other _ _ _ _ (fun e => by injection e with e1 e2; omega)]; exact r1)
            have gx8 := gxr8.but (but_set2 (H := w1.heap.size) (g := gs) (.slice A9 n9 c9) (.slice B9 m9 d9)) gxr8.size (fun g e => by omega)
            have hs8' : StV (fun k => k ≠ gs) ((w1.setCell ⟨gs, 0, none⟩ (.slice A9 n9 c9)).setCell ⟨gs, 1, none⟩ (.slice B9 m9 d9)) A9 n9 c9 B9 m9 d9 T1 := by
              refine ((hS8.v.weak (V' := fun k => k ≠ gs) fun k hk _ => by omega)).keep fun k hk _ => ?_
              rw [Below.heap_setCell _ _ _ _ (by simpa using hk), Below.heap_setCell _ _ _ _ (by simpa using hk)]
            have hsz8 : gs < ((w1.setCell ⟨gs, 0, none⟩ (.slice A9 n9 c9)).setCell ⟨gs, 1, none⟩ (.slice B9 m9 d9)).heap.size := by simp [World.setCell]; omega
            have yf : ∀ q, ((w1.setCell ⟨gs, 0, none⟩ (.slice A9 n9 c9)).setCell ⟨gs, 1, none⟩ (.slice B9 m9 d9)).frozen? ⟨gs, q, none⟩ = false := fun q => by
              rw [World.frozen?_setCell, World.frozen?_setCell]
              exact rf q
            replace y0 := Lib.hid y0
            replace y1 := Lib.hid y1
            replace yf := Lib.hid yf
            clear h1 hS
            go_wp2_with fail
            go_roundw
            case rel => exact ⟨k + 1, T1, A9, n9, c9, B9, m9, d9, by omega, by go_num, y0.out, y1.out, yf.out, hsz8, hs8', hfn, hrT1, gx8⟩
            case measure => simp [intOf]; omega
          · have hT3 := hT2.out
            rw [List.take_of_length_le (by rw [hll]; omega), led_fold hLd] at hT3
            have hsame := Lib.hid (decide_eq_true hT3.symm)
            have hgn : ((nl : Int) == 0) = decide (S1 = S2) := by
              rw [← hll, Bool.eq_iff_iff, decide_eq_true_eq, ← HN.out]
              simp
            obtain ⟨gb, hgb⟩ : ∃ q, decide (S1 = S2) = q := ⟨_, rfl⟩
            rw [hgb] at hgn
            have HGB := Lib.hid hgb
            have hgg : (gb == gb) = true := by simp
            clear hT2 hT3 hgb
            go_wp2_with fail
            refine (model_SameSt hS.st ub.st hsame).mono ?_
            rintro e w10 ⟨rfl, gq⟩
            replace p0 := gq.cell p0
            replace p1 := gq.cell p1
            replace q0 := gq.cell q0
            replace q1 := gq.cell q1
            replace ua := ua.ext gq
            replace ub := ub.ext gq
            go_wp2_with fail
            refine (model_SameSt ua.st ub.st HGB).mono ?_
            rintro e w11 ⟨rfl, gq2⟩
            go_wp2_with fail
            refine (law15_known _).mono ?_
            rintro e w9 ⟨rfl, hx1⟩
            go_wp2_with fail
            go_ret
            exact ⟨rfl, ((gxx.trans gq).trans gq2).trans hx1⟩
end Go.Proofs.Ytcklkjklepmabaa
