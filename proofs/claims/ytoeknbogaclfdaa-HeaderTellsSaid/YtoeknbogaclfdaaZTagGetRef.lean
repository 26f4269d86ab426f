/-
  Chains out of bytes: contract of the reference GetChain.
-/
import Derived.Test.YtoeknbogaclfdaaZTagGet
import Derived.Test.YtoeknbogaclfdaaZTagNums
import Derived.Test.YtoeknbogaclfdaaZCore
namespace Go.Proofs.Ytoeknbogaclfdaa
open Go.RowKit
set_option linter.unusedVariables false
set_option linter.unusedSimpArgs false
set_option linter.unnecessarySimpa false
set_option maxRecDepth 100000

theorem four {l : List Int} (h : l.length = 4) : ∃ x1 x2 x3 x4, l = [x1, x2, x3, x4] := by
  obtain _ | ⟨x1, _ | ⟨x2, _ | ⟨x3, _ | ⟨x4, _ | ⟨x5, l⟩⟩⟩⟩⟩ := l <;> simp at h
  exact ⟨_, _, _, _, rfl⟩
def TgT (B : Nat) (n : Nat) (xs : List Tg) : Ty := fun v w => ∃ A c, v = .slice A n c ∧ OwnL TTg 4 tgR w B A n c xs
theorem TgT.keeps (B n : Nat) (xs : List Tg) : Keeps Ext (TgT B n xs) := fun _ _ _ hx ⟨A, c, e, h⟩ => ⟨A, c, e, h.ext tg_rep hx⟩
def TgL (xs : List Tg) (n : Nat) : Ty := fun v w => ∃ A c, v = .slice A n c ∧ Lst 4 tgR w A n c xs
theorem TgL.keeps (xs : List Tg) (n : Nat) : Keeps Ext (TgL xs n) := fun _ _ _ hx ⟨A, c, e, h⟩ => ⟨A, c, e, h.ext tg_rep hx⟩
set_option maxHeartbeats 2000000 in
theorem ref_GetChain {A : Option Addr} {n c : Nat} {b : List UInt8} {w : World} (hb : Sl w A n c b) (hn6 : n ≤ 1000000) {o : Option (List Tg)} (ho : Hid (getL b = o)) :
    Calls Try.prog 100 #[.slice A n c] w fun e w' => ∃ A' n' c', e = .returned (.tuple #[.slice A' n' c', .int .i64 (if o.isSome then 0 else 2)]) ∧ OwnL TTg 4 tgR w' w.heap.size A' n' c' (o.getD []) ∧ Ext w w' := by
  have h63 := hb.n63
  obtain ⟨i0, hi0, hz0, hz1, hz2⟩ := info_parts info_tg
  have hs0 := gv_small b 0 (by omega)
  obtain ⟨q, hq⟩ : ∃ q, parseL b = q := ⟨_, rfl⟩
  have hg1 := ho.out
  have hq1 := hq
  unfold parseL at hq1
  obtain ⟨ga, hga⟩ : ∃ q, gvA b 0 = q := ⟨_, rfl⟩
  obtain ⟨gb, hgb⟩ : ∃ q, gvB b 0 = q := ⟨_, rfl⟩
  obtain ⟨gc, hgc⟩ : ∃ q, gvC b 0 = q := ⟨_, rfl⟩
  rw [hga, hgb, hgc] at hq1
  rw [hga] at hs0
  have HG := Lib.hid (And.intro hga (And.intro hgb hgc))
  have hga0 : 0 ≤ ga := hs0.1
  clear hga hgb hgc hs0 ho
  cases gc with
  | false =>
    obtain rfl : q = none := by rw [← hq1]; simp
    rw [get_none hq] at hg1
    subst hg1
    clear hq hq1
    go_enter Try.func100, Try.ntmps100
    go_wp2_with fail
    refine (ref_GetVar_h hb hn6 HG).mono ?_
    rintro e _ ⟨rfl, rfl⟩
    go_wp2_with fail
    go_ret2
    exact ⟨_, _, _, rfl, OwnL.nil _ _ _ _, Ext.refl _⟩
  | true =>
    obtain ⟨N, rfl⟩ := Int.eq_ofNat_of_zero_le hga0
    by_cases h32 : 32 < N
    · obtain rfl : q = none := by rw [← hq1, if_neg (by rintro ⟨_, h⟩; omega)]
      rw [get_none hq] at hg1
      subst hg1
      clear hq hq1
      go_enter Try.func100, Try.ntmps100
      go_wp2_with fail
      refine (ref_GetVar_h hb hn6 HG).mono ?_
      rintro e _ ⟨rfl, rfl⟩
      go_wp2_with fail
      go_ret2
      exact ⟨_, _, _, rfl, OwnL.nil _ _ _ _, Ext.refl _⟩
    rw [if_pos ⟨rfl, by omega⟩, Int.toNat_natCast] at hq1
    have HO : Hid ((tgsF (N - 0) b gb).map (fun l => ([] : List Tg) ++ l) = q) := by
      unfold Hid
      rw [Nat.sub_zero, ← hq1]
      simp
    have HQ := Lib.hid hq
    have HG1 := Lib.hid hg1
    clear hq hq1 hga0 hg1
    go_enter Try.func100, Try.ntmps100
    go_wp2_with fail
    refine (ref_GetVar_h hb hn6 HG).mono ?_
    rintro e _ ⟨rfl, rfl⟩
    go_wp2_with fail
    go_loopw [5, 7, 8] (fun av v i wr => ∃ (k : Nat) (a : Int) (Ao : Option Addr) (co : Nat) (out : List Tg), k ≤ N ∧ av = .int .i64 a ∧ v = .slice Ao k co ∧ i = .int .i64 k ∧ OwnL TTg 4 tgR wr w.heap.size Ao k co out ∧ Hid ((tgsF (N - k) b a).map (fun l => out ++ l) = q) ∧ Ext w wr) (fun _ _ i _ => N - (intOf i).toNat)
    case atStart => exact ⟨0, gb, none, 0, [], by omega, rfl, rfl, rfl, OwnL.nil _ _ _ _, HO, Ext.refl _⟩
    case round =>
      obtain ⟨k, a, Ao, co, out, hk, rfl, rfl, rfl, hown, hrk, hxr⟩ := hrel
      clear HO HG
      by_cases hlt : k < N
      · obtain ⟨p, hp⟩ : ∃ p, numsF 4 b a = p := ⟨_, rfl⟩
        have HP := Lib.hid hp
        cases p with
        | none =>
          obtain rfl := tgs_stop hrk.out hlt hp
          obtain rfl : o = none := by rw [← HG1.out]; exact get_none HQ.out
          clear hrk hp HQ HG1
          go_wp2_with fail
          refine (ref_numbers (F := 4) (hb.ext hxr) hn6 (by omega) HP).mono ?_
          rintro e w1 ⟨A1, n1, c1, rfl, h1, hx1⟩
          go_wp2_with fail
          go_ret2
          exact ⟨_, _, _, rfl, OwnL.nil _ _ _ _, hxr.trans hx1⟩
        | some p =>
          obtain ⟨p, d⟩ := p
          obtain ⟨x1, x2, x3, x4, rfl⟩ := four (numsF_len _ _ _ _ hp)
          have HN := Lib.hid (tgs_next hrk.out hlt hp)
          clear hrk hp
          go_wp2_with fail
          refine (ref_numbers (F := 4) (hb.ext hxr) hn6 (by omega) HP).mono ?_
          rintro e w1 ⟨A1, n1, c1, rfl, h1, hx1⟩
          rw [show ((some ([x1, x2, x3, x4], d) : Option (List Int × Int)).map Prod.snd).getD 0 = d from rfl, show (some ([x1, x2, x3, x4], d) : Option (List Int × Int)).isSome = true from rfl]
          have l4 : Lst 1 intR w1 A1 n1 c1 [x1, x2, x3, x4] := h1.lst
          obtain rfl : n1 = 4 := l4.len.symm
          obtain ⟨g1, o1, y1, rfl, hy1, d1⟩ := l4.atI (i := 0) (by omega)
          obtain ⟨_, _, y2, e2, hy2, d2⟩ := l4.atI (i := 1) (by omega)
          obtain ⟨_, _, y3, e3, hy3, d3⟩ := l4.atI (i := 2) (by omega)
          obtain ⟨_, _, y4, e4, hy4, d4⟩ := l4.atI (i := 3) (by omega)
          injection e2 with e2; injection e2 with e2 e2'; subst e2 e2'
          injection e3 with e3; injection e3 with e3 e3'; subst e3 e3'
          injection e4 with e4; injection e4 with e4 e4'; subst e4 e4'
          simp only [List.getElem?_cons_zero, List.getElem?_cons_succ, Option.some.injEq] at hy1 hy2 hy3 hy4
          subst hy1 hy2 hy3 hy4
          rw [Nat.add_zero] at d1
          have hown1 := hown.ext tg_rep hx1
          have hx01 := hxr.trans hx1
          clear hown hxr hx1 h1 l4
          go_wp2_with fail
          refine wp_region_typed2 (R := But w.heap.size (fun _ => False)) Ext.steady (But.steady _ _) (fun _ _ => But.of_ext) rfl 72 rfl [0, 0, 2, 6, 0, 16, 48, 0, 128, 384, 0, 1024, 3072, 8190, 16382, 32767, 65535] 32768 (by kernel_rfl) ?_
          -- 0: Op.move t7
          apply Stage2.step (Is _) true [] true false (Is.keeps _) (fun _ => Is.keeps _) (by kernel_rfl)
          · intro w1 h1
            have h1 : Ext _ w1 := h1
            simp only [List.nil_append, List.cons_append, List.map_cons, List.map_nil, Given]
            go_wp2_with fail
            exact Post.isv (Ext.refl _) rfl rfl rfl
          -- 1: Op.move t9
          apply Stage2.step (Is _) true [] true false (Is.keeps _) (fun _ => Is.keeps _) (by kernel_rfl)
          · intro w1 h1
            have h1 : Ext _ w1 := h1
            simp only [List.nil_append, List.cons_append, List.map_cons, List.map_nil, Given]
            go_wp2_with fail
            exact Post.isv (Ext.refl _) rfl rfl rfl
          -- 2: Op.indexAddr 22 t41 (const (0:i64))
          apply Stage2.step (Is _) true [false, true] true false (Is.keeps _) (fun _ => Is.keeps _) (by kernel_rfl)
          · intro w1 h1
            have h1 : Ext _ w1 := h1
            simp only [List.nil_append, List.cons_append, List.map_cons, List.map_nil, Sp.pr, Given]
            rintro _ rfl
            go_wp2_with fail
            exact Post.isv (Ext.refl _) rfl rfl rfl
          -- 3: Op.load 3 t42
          apply Stage2.step (Is (.int .i64 x1)) true [false, false, true] true false (Is.keeps _) (fun _ => Is.keeps _) (by kernel_rfl)
          · intro w1 h1
            have h1 : Ext _ w1 := h1
            simp only [List.nil_append, List.cons_append, List.map_cons, List.map_nil, Sp.pr, Given]
            rintro _ rfl
            have q0 := h1.cell d1
            go_wp2_with fail
            exact Post.isv (Ext.refl _) rfl rfl rfl
          -- 4: Op.move t9
          apply Stage2.step (Is _) true [] true false (Is.keeps _) (fun _ => Is.keeps _) (by kernel_rfl)
          · intro w1 h1
            have h1 : Ext _ w1 := h1
            simp only [List.nil_append, List.cons_append, List.map_cons, List.map_nil, Given]
            go_wp2_with fail
            exact Post.isv (Ext.refl _) rfl rfl rfl
          -- 5: Op.indexAddr 22 t44 (const (1:i64))
          apply Stage2.step (Is _) true [false, false, false, false, true] true false (Is.keeps _) (fun _ => Is.keeps _) (by kernel_rfl)
          · intro w1 h1
            have h1 : Ext _ w1 := h1
            simp only [List.nil_append, List.cons_append, List.map_cons, List.map_nil, Sp.pr, Given]
            rintro _ rfl
            go_wp2_with fail
            exact Post.isv (Ext.refl _) rfl rfl rfl
          -- 6: Op.load 3 t45
          apply Stage2.step (Is (.int .i64 x2)) true [false, false, false, false, false, true] true false (Is.keeps _) (fun _ => Is.keeps _) (by kernel_rfl)
          · intro w1 h1
            have h1 : Ext _ w1 := h1
            simp only [List.nil_append, List.cons_append, List.map_cons, List.map_nil, Sp.pr, Given]
            rintro _ rfl
            have q0 := h1.cell d2
            go_wp2_with fail
            exact Post.isv (Ext.refl _) rfl rfl rfl
          -- 7: Op.move t9
          apply Stage2.step (Is _) true [] true false (Is.keeps _) (fun _ => Is.keeps _) (by kernel_rfl)
          · intro w1 h1
            have h1 : Ext _ w1 := h1
            simp only [List.nil_append, List.cons_append, List.map_cons, List.map_nil, Given]
            go_wp2_with fail
            exact Post.isv (Ext.refl _) rfl rfl rfl
          -- 8: Op.indexAddr 22 t47 (const (2:i64))
          apply Stage2.step (Is _) true [false, false, false, false, false, false, false, true] true false (Is.keeps _) (fun _ => Is.keeps _) (by kernel_rfl)
          · intro w1 h1
            have h1 : Ext _ w1 := h1
            simp only [List.nil_append, List.cons_append, List.map_cons, List.map_nil, Sp.pr, Given]
            rintro _ rfl
            go_wp2_with fail
            exact Post.isv (Ext.refl _) rfl rfl rfl
          -- 9: Op.load 3 t48
          apply Stage2.step (Is (.int .i64 x3)) true [false, false, false, false, false, false, false, false, true] true false (Is.keeps _) (fun _ => Is.keeps _) (by kernel_rfl)
          · intro w1 h1
            have h1 : Ext _ w1 := h1
            simp only [List.nil_append, List.cons_append, List.map_cons, List.map_nil, Sp.pr, Given]
            rintro _ rfl
            have q0 := h1.cell d3
            go_wp2_with fail
            exact Post.isv (Ext.refl _) rfl rfl rfl
          -- 10: Op.move t9
          apply Stage2.step (Is _) true [] true false (Is.keeps _) (fun _ => Is.keeps _) (by kernel_rfl)
          · intro w1 h1
            have h1 : Ext _ w1 := h1
            simp only [List.nil_append, List.cons_append, List.map_cons, List.map_nil, Given]
            go_wp2_with fail
            exact Post.isv (Ext.refl _) rfl rfl rfl
          -- 11: Op.indexAddr 22 t50 (const (3:i64))
          apply Stage2.step (Is _) true [false, false, false, false, false, false, false, false, false, false, true] true false (Is.keeps _) (fun _ => Is.keeps _) (by kernel_rfl)
          · intro w1 h1
            have h1 : Ext _ w1 := h1
            simp only [List.nil_append, List.cons_append, List.map_cons, List.map_nil, Sp.pr, Given]
            rintro _ rfl
            go_wp2_with fail
            exact Post.isv (Ext.refl _) rfl rfl rfl
          -- 12: Op.load 3 t51
          apply Stage2.step (Is (.int .i64 x4)) true [false, false, false, false, false, false, false, false, false, false, false, true] true false (Is.keeps _) (fun _ => Is.keeps _) (by kernel_rfl)
          · intro w1 h1
            have h1 : Ext _ w1 := h1
            simp only [List.nil_append, List.cons_append, List.map_cons, List.map_nil, Sp.pr, Given]
            rintro _ rfl
            have q0 := h1.cell d4
            go_wp2_with fail
            exact Post.isv (Ext.refl _) rfl rfl rfl
          -- 13: Op.build 104 #[(0, t43), (1, t46), (2, t49), (3, t52)]
          apply Stage2.step (Is _) true [false, false, false, true, false, false, true, false, false, true, false, false, true] true false (Is.keeps _) (fun _ => Is.keeps _) (by kernel_rfl)
          · intro w1 h1
            have h1 : Ext _ w1 := h1
            simp only [List.nil_append, List.cons_append, List.map_cons, List.map_nil, Sp.pr, Given]
            rintro _ rfl
            rintro _ rfl
            rintro _ rfl
            rintro _ rfl
            go_wp2_with fail
            exact Post.isv (Ext.refl _) rfl rfl rfl
          -- 14: Op.buildSlice 25 1 #[(0, t53)]
          apply Stage2.step (TgL [⟨x1, x2, x3, x4⟩] 1) false [false, false, false, false, false, false, false, false, false, false, false, false, false, true] true false (TgL.keeps _ _) (no_keeps) (by kernel_rfl)
          · intro w1 h1
            have h1 : Ext _ w1 := h1
            simp only [List.nil_append, List.cons_append, List.map_cons, List.map_nil, Sp.pr, Given]
            rintro _ rfl
            go_wp2_with fail
            exact ⟨rfl, rfl, Ext.alloc _ _, _, _, rfl, (tag_lit _ ⟨x1, x2, x3, x4⟩).lst⟩
          -- 15: Op.call { builtin append, args := #[t40, t54], argTypes := #[25, 25] }
          apply Stage2.step (TgT w.heap.size (k + 1) (out ++ [⟨x1, x2, x3, x4⟩])) false [true, false, false, false, false, false, false, false, false, false, false, false, false, false, true] true true (TgT.keeps _ _ _) (no_keeps) (by kernel_rfl)
          · intro w1 h1
            have h1 : Ext _ w1 := h1
            simp only [List.nil_append, List.cons_append, List.map_cons, List.map_nil, Sp.pr, Given]
            rintro _ rfl
            rintro _ ⟨A3, c3, rfl, h3⟩
            go_wp2_with (
              at_builtin
              refine wpList_append_flat2 (w0 := w) tg_rep (fun x cs w h => tag_nop h) rfl _ _ _ _ rfl TTg TTg i0 _ 32 under_tgs under_tgs hi0 hz0 hz1 hz2 rfl Ao k co out rfl (hown1.ext tg_rep h1) A3 1 c3 [⟨x1, x2, x3, x4⟩] rfl h3 (k + 1) rfl _ rfl (by simp only [maxLen]; omega) (by omega) (hx01.trans h1) ?_
              intro A6 c6 w6 hb6 hx6 hg6)
            exact ⟨rfl, rfl, But.grown (But.refl _ _ _) hg6 (fun g hg => .inr ((hown1.ext tg_rep h1).row_lt g hg).1), _, _, rfl, hb6⟩
          -- 16: Op.assign t55
          apply Stage2.step (TgT w.heap.size (k + 1) (out ++ [⟨x1, x2, x3, x4⟩])) false [false, false, false, false, false, false, false, false, false, false, false, false, false, false, false, true] false false (TgT.keeps _ _ _) (no_keeps) (by kernel_rfl)
          · intro w1 h1
            have h1 : (But w.heap.size (fun _ => False)) _ w1 := h1
            simp only [List.nil_append, List.cons_append, List.map_cons, List.map_nil, Sp.pr, Given]
            rintro v hcp
            go_wp2_with fail
            exact ⟨rfl, rfl, Ext.refl _, hcp⟩
          apply Stage2.nil [true, true, true, true, true, true, true, true, true, true, true, true, true, true, false, true, true] (by kernel_rfl)
          intro w1 h1
          have h1 : (But w.heap.size (fun _ => False)) _ w1 := h1
          simp only [List.nil_append, List.cons_append, List.map_cons, List.map_nil, Sp.pr]
          refine Fin2.is_ ?_
          refine Fin2.is_ ?_
          refine Fin2.is_ ?_
          refine Fin2.is_ ?_
          refine Fin2.is_ ?_
          refine Fin2.is_ ?_
          refine Fin2.is_ ?_
          refine Fin2.is_ ?_
          refine Fin2.is_ ?_
          refine Fin2.is_ ?_
          refine Fin2.is_ ?_
          refine Fin2.is_ ?_
          refine Fin2.is_ ?_
          refine Fin2.is_ ?_
          refine Fin2.dead_ ?_
          intro dead14
          refine Fin2.step_ ?_
          rintro _ ⟨A6, c6, rfl, h6⟩
          refine Fin2.step_ ?_
          rintro _ ⟨A6, c6, rfl, h6⟩
          refine Fin2.nil_ ?_
          go_simp
          go_wp2_with fail
          go_roundw
          case rel => exact ⟨k + 1, d, A6, c6, _, by omega, rfl, rfl, by go_num, h6, HN, hx01.but h1 (Nat.le_refl _) (fun _ h => h.elim)⟩
          case measure => simp [intOf]; omega
      · obtain rfl : k = N := by omega
        have hr1 := hrk.out
        rw [Nat.sub_self] at hr1
        obtain rfl : q = some out := by rw [← hr1]; simp [tgsF]
        clear hrk hr1
        obtain ⟨r, hr⟩ : ∃ r, rightL out = r := ⟨_, rfl⟩
        have HR := Lib.hid hr
        obtain ⟨L, hL⟩ : ∃ L, putR out r = L := ⟨_, rfl⟩
        have HL := Lib.hid hL
        cases r with
        | false =>
          obtain rfl : o = none := by rw [← HG1.out]; exact get_wrong HQ.out hr
          clear HQ hr hL HG1
          go_wp2_with fail
          refine (ref_PutChain hown.lst HR HL).mono ?_
          rintro e w2 ⟨A2, n2, c2, rfl, h2, hx2⟩
          rw [show (if false = true then (0 : Int) else 1) = 1 from rfl]
          go_wp2_with fail
          go_ret2
          exact ⟨_, _, _, rfl, OwnL.nil _ _ _ _, hxr.trans hx2⟩
        | true =>
          obtain rfl : putL out = L := hL
          obtain ⟨z, hz⟩ : ∃ z, (putL out == b) = z := ⟨_, rfl⟩
          cases z with
          | false =>
            obtain rfl : o = none := by rw [← HG1.out]; exact get_other HQ.out hz
            clear HQ hr HG1
            go_wp2_with fail
            refine (ref_PutChain hown.lst HR HL).mono ?_
            rintro e w2 ⟨A2, n2, c2, rfl, h2, hx2⟩
            rw [show (if true = true then (0 : Int) else 1) = 0 from rfl]
            have t1 := run_text_u8 h2.sl
            have t2 := run_text_u8 (hb.ext (hxr.trans hx2))
            go_wp2_with fail
            go_ret2
            exact ⟨_, _, _, rfl, OwnL.nil _ _ _ _, hxr.trans hx2⟩
          | true =>
            obtain rfl : o = some out := by rw [← HG1.out]; exact get_yes HQ.out hr hz
            have hz := eq_of_beq hz
            subst hz
            clear HQ hr HG1
            go_wp2_with fail
            refine (ref_PutChain hown.lst HR HL).mono ?_
            rintro e w2 ⟨A2, n2, c2, rfl, h2, hx2⟩
            rw [show (if true = true then (0 : Int) else 1) = 0 from rfl]
            have t1 := run_text_u8 h2.sl
            have t2 := run_text_u8 (hb.ext (hxr.trans hx2))
            go_wp2_with fail
            go_ret2
            exact ⟨_, _, _, rfl, hown.ext tg_rep hx2, hxr.trans hx2⟩
end Go.Proofs.Ytoeknbogaclfdaa
