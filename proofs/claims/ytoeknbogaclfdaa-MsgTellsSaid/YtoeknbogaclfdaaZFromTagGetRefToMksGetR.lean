/-
  Chains out of bytes: contract of the reference GetChain.
-/
/-
  Marks out of bytes: contract of the reference's getMarks.
-/
import Derived.Test.YtoeknbogaclfdaaZFromTagParseToMsTags
import Derived.Test.YtoeknbogaclfdaaZFromReg4ToTagNums
import Derived.Test.YtoeknbogaclfdaaZCore
import Derived.Test.YtoeknbogaclfdaaZFromMksPutToMsParse
namespace Go.Proofs.Ytoeknbogaclfdaa
open Go.RowKit
set_option linter.unusedVariables false
set_option linter.unusedSimpArgs false
set_option linter.unnecessarySimpa false
set_option maxRecDepth 100000
theorem four {l : List Int} (h : l.length = 4) : ∃ x1 x2 x3 x4, l = [x1, x2, x3, x4] := by
  obtain _ | ⟨x1, _ | ⟨x2, _ | ⟨x3, _ | ⟨x4, _ | ⟨x5, l⟩⟩⟩⟩⟩ := l <;> simp at h
  exact ⟨_, _, _, _, rfl⟩
def TgT (B : Nat) (n : Nat) (xs : List Tg) : Ty := fun v w => ∃ A c, v = .slice A n c ∧ OwnL TTg 4 tgR w B A n c xs
theorem TgT.keeps (B n : Nat) (xs : List Tg) : Keeps Ext (TgT B n xs) := fun _ _ _ hx ⟨A, c, e, h⟩ => ⟨A, c, e, h.ext tg_rep hx⟩
def TgL (xs : List Tg) (n : Nat) : Ty := fun v w => ∃ A c, v = .slice A n c ∧ Lst 4 tgR w A n c xs
theorem TgL.keeps (xs : List Tg) (n : Nat) : Keeps Ext (TgL xs n) := fun _ _ _ hx ⟨A, c, e, h⟩ => ⟨A, c, e, h.ext tg_rep hx⟩
set_option maxHeartbeats 2000000 in
theorem ref_GetChain {A : Option Addr} {n c : Nat} {b : List UInt8} {w : World} (hb : Sl w A n c b) (hn6 : n ≤ 1000000) {o : Option (List Tg)} (ho : Hid (getL b = o)) :
    Calls Try.prog 100 #[.slice A n c] w fun e w' => ∃ A' n' c', e = .returned (.tuple #[.slice A' n' c', .int .i64 (if o.isSome then 0 else 2)]) ∧ OwnL TTg 4 tgR w' w.heap.size A' n' c' (o.getD []) ∧ Ext w w' := by
  have h63 := hb.n63
  obtain ⟨i0, hi0, hz0, hz1, hz2⟩ := info_parts info_tg
  have hs0 := gv_small b 0 (by omega)
  obtain ⟨q, hq⟩ : ∃ q, parseL b = q := ⟨_, rfl⟩
  have hg1 := ho.out
  have hq1 := hq
  unfold parseL at hq1
  obtain ⟨ga, hga⟩ : ∃ q, gvA b 0 = q := ⟨_, rfl⟩
  obtain ⟨gb, hgb⟩ : ∃ q, gvB b 0 = q := ⟨_, rfl⟩
  obtain ⟨gc, hgc⟩ : ∃ q, gvC b 0 = q := ⟨_, rfl⟩
  rw [hga, hgb, hgc] at hq1
  rw [hga] at hs0
  have HG := Lib.hid (And.intro hga (And.intro hgb hgc))
  have hga0 : 0 ≤ ga := hs0.1
  clear hga hgb hgc hs0 ho
  cases gc with
  | false =>
    obtain rfl : q = none := by rw [← hq1]; simp
    rw [get_none hq] at hg1
    subst hg1
    clear hq hq1
    go_enter Try.func100, Try.ntmps100
    go_wp2_with fail
    refine (ref_GetVar_h hb hn6 HG).mono ?_
    rintro e _ ⟨rfl, rfl⟩
    go_wp2_with fail
    go_ret2
    exact ⟨_, _, _, rfl, OwnL.nil _ _ _ _, Ext.refl _⟩
  | true =>
    obtain ⟨N, rfl⟩ := Int.eq_ofNat_of_zero_le hga0
    by_cases h32 : 32 < N
    · obtain rfl : q = none := by rw [← hq1, if_neg (by rintro ⟨_, h⟩; omega)]
      rw [get_none hq] at hg1
      subst hg1
      clear hq hq1
      go_enter Try.func100, Try.ntmps100
      go_wp2_with fail
      refine (ref_GetVar_h hb hn6 HG).mono ?_
      rintro e _ ⟨rfl, rfl⟩
      go_wp2_with fail
      go_ret2
      exact ⟨_, _, _, rfl, OwnL.nil _ _ _ _, Ext.refl _⟩
    rw [if_pos ⟨rfl, by omega⟩, Int.toNat_natCast] at hq1
    have HO : Hid ((tgsF (N - 0) b gb).map (fun l => ([] : List Tg) ++ l) = q) := by
      unfold Hid
      rw [Nat.sub_zero, ← hq1]
      simp
    have HQ := Lib.hid hq
    have HG1 := Lib.hid hg1
    clear hq hq1 hga0 hg1
    go_enter Try.func100, Try.ntmps100
    go_wp2_with fail
    refine (ref_GetVar_h hb hn6 HG).mono ?_
    rintro e _ ⟨rfl, rfl⟩
    go_wp2_with fail
    go_loopw [5, 7, 8] (fun av v i wr => ∃ (k : Nat) (a : Int) (Ao : Option Addr) (co : Nat) (out : List Tg), k ≤ N ∧ av = .int .i64 a ∧ v = .slice Ao k co ∧ i = .int .i64 k ∧ OwnL TTg 4 tgR wr w.heap.size Ao k co out ∧ Hid ((tgsF (N - k) b a).map (fun l => out ++ l) = q) ∧ Ext w wr) (fun _ _ i _ => N - (intOf i).toNat)
    case atStart => exact ⟨0, gb, none, 0, [], by omega, rfl, rfl, rfl, OwnL.nil _ _ _ _, HO, Ext.refl _⟩
    case round =>
      obtain ⟨k, a, Ao, co, out, hk, rfl, rfl, rfl, hown, hrk, hxr⟩ := hrel
      clear HO HG
      by_cases hlt : k < N
      · obtain ⟨p, hp⟩ : ∃ p, numsF 4 b a = p := ⟨_, rfl⟩
        have HP := Lib.hid hp
        cases p with
        | none =>
          obtain rfl := tgs_stop hrk.out hlt hp
          obtain rfl : o = none := by rw [← HG1.out]; exact get_none HQ.out
          clear hrk hp HQ HG1
          go_wp2_with fail
          refine (ref_numbers (F := 4) (hb.ext hxr) hn6 (by omega) HP).mono ?_
          rintro e w1 ⟨A1, n1, c1, rfl, h1, hx1⟩
          go_wp2_with fail
          go_ret2
          exact ⟨_, _, _, rfl, OwnL.nil _ _ _ _, hxr.trans hx1⟩
        | some p =>
          obtain ⟨p, d⟩ := p
          obtain ⟨x1, x2, x3, x4, rfl⟩ := four (numsF_len _ _ _ _ hp)
          have HN := Lib.hid (tgs_next hrk.out hlt hp)
          clear hrk hp
          go_wp2_with fail
          refine (ref_numbers (F := 4) (hb.ext hxr) hn6 (by omega) HP).mono ?_
          rintro e w1 ⟨A1, n1, c1, rfl, h1, hx1⟩
          rw [show ((some ([x1, x2, x3, x4], d) : Option (List Int × Int)).map Prod.snd).getD 0 = d from rfl, show (some ([x1, x2, x3, x4], d) : Option (List Int × Int)).isSome = true from rfl]
          have l4 : Lst 1 intR w1 A1 n1 c1 [x1, x2, x3, x4] := h1.lst
          obtain rfl : n1 = 4 := l4.len.symm
          obtain ⟨g1, o1, y1, rfl, hy1, d1⟩ := l4.atI (i := 0) (by omega)
          obtain ⟨_, _, y2, e2, hy2, d2⟩ := l4.atI (i := 1) (by omega)
          obtain ⟨_, _, y3, e3, hy3, d3⟩ := l4.atI (i := 2) (by omega)
          obtain ⟨_, _, y4, e4, hy4, d4⟩ := l4.atI (i := 3) (by omega)
          injection e2 with e2; injection e2 with e2 e2'; subst e2 e2'
          injection e3 with e3; injection e3 with e3 e3'; subst e3 e3'
          injection e4 with e4; injection e4 with e4 e4'; subst e4 e4'
          simp only [List.getElem?_cons_zero, List.getElem?_cons_succ, Option.some.injEq] at hy1 hy2 hy3 hy4
          subst hy1 hy2 hy3 hy4
          rw [Nat.add_zero] at d1
          have hown1 := hown.ext tg_rep hx1
          have hx01 := hxr.trans hx1
          clear hown hxr hx1 h1 l4
          go_wp2_with fail
          refine wp_region_typed2 (R := But w.heap.size (fun _ => False)) Ext.steady (But.steady _ _) (fun _ _ => But.of_ext) rfl 72 rfl [0, 0, 2, 6, 0, 16, 48, 0, 128, 384, 0, 1024, 3072, 8190, 16382, 32767, 65535] 32768 (by kernel_rfl) ?_
          apply Stage2.step (Is _) true [] true false (Is.keeps _) (fun _ => Is.keeps _) (by kernel_rfl)
          · intro w1 h1
            have h1 : Ext _ w1 := h1
            simp only [List.nil_append, List.cons_append, List.map_cons, List.map_nil, Given]
            go_wp2_with fail
            exact Post.isv (Ext.refl _) rfl rfl rfl
          apply Stage2.step (Is _) true [] true false (Is.keeps _) (fun _ => Is.keeps _) (by kernel_rfl)
          · intro w1 h1
            have h1 : Ext _ w1 := h1
            simp only [List.nil_append, List.cons_append, List.map_cons, List.map_nil, Given]
            go_wp2_with fail
            exact Post.isv (Ext.refl _) rfl rfl rfl
          apply Stage2.step (Is _) true [false, true] true false (Is.keeps _) (fun _ => Is.keeps _) (by kernel_rfl)
          · intro w1 h1
            have h1 : Ext _ w1 := h1
            simp only [List.nil_append, List.cons_append, List.map_cons, List.map_nil, Sp.pr, Given]
            rintro _ rfl
            go_wp2_with fail
            exact Post.isv (Ext.refl _) rfl rfl rfl
          apply Stage2.step (Is (.int .i64 x1)) true [false, false, true] true false (Is.keeps _) (fun _ => Is.keeps _) (by kernel_rfl)
          · intro w1 h1
            have h1 : Ext _ w1 := h1
            simp only [List.nil_append, List.cons_append, List.map_cons, List.map_nil, Sp.pr, Given]
            rintro _ rfl
            have q0 := h1.cell d1
            go_wp2_with fail
            exact Post.isv (Ext.refl _) rfl rfl rfl
          apply Stage2.step (Is _) true [] true false (Is.keeps _) (fun _ => Is.keeps _) (by kernel_rfl)
          · intro w1 h1
            have h1 : Ext _ w1 := h1
            simp only [List.nil_append, List.cons_append, List.map_cons, List.map_nil, Given]
            go_wp2_with fail
            exact Post.isv (Ext.refl _) rfl rfl rfl
          apply Stage2.step (Is _) true [false, false, false, false, true] true false (Is.keeps _) (fun _ => Is.keeps _) (by kernel_rfl)
          · intro w1 h1
            have h1 : Ext _ w1 := h1
            simp only [List.nil_append, List.cons_append, List.map_cons, List.map_nil, Sp.pr, Given]
            rintro _ rfl
            go_wp2_with fail
            exact Post.isv (Ext.refl _) rfl rfl rfl
          apply Stage2.step (Is (.int .i64 x2)) true [false, false, false, false, false, true] true false (Is.keeps _) (fun _ => Is.keeps _) (by kernel_rfl)
          · intro w1 h1
            have h1 : Ext _ w1 := h1
            simp only [List.nil_append, List.cons_append, List.map_cons, List.map_nil, Sp.pr, Given]
            rintro _ rfl
            have q0 := h1.cell d2
            go_wp2_with fail
            exact Post.isv (Ext.refl _) rfl rfl rfl
          apply Stage2.step (Is _) true [] true false (Is.keeps _) (fun _ => Is.keeps _) (by kernel_rfl)
          · intro w1 h1
            have h1 : Ext _ w1 := h1
            simp only [List.nil_append, List.cons_append, List.map_cons, List.map_nil, Given]
            go_wp2_with fail
            exact Post.isv (Ext.refl _) rfl rfl rfl
          apply Stage2.step (Is _) true [false, false, false, false, false, false, false, true] true false (Is.keeps _) (fun _ => Is.keeps _) (by kernel_rfl)
          · intro w1 h1
            have h1 : Ext _ w1 := h1
            simp only [List.nil_append, List.cons_append, List.map_cons, List.map_nil, Sp.pr, Given]
            rintro _ rfl
            go_wp2_with fail
            exact Post.isv (Ext.refl _) rfl rfl rfl
          apply Stage2.step (Is (.int .i64 x3)) true [false, false, false, false, false, false, false, false, true] true false (Is.keeps _) (fun _ => Is.keeps _) (by kernel_rfl)
          · intro w1 h1
            have h1 : Ext _ w1 := h1
            simp only [List.nil_append, List.cons_append, List.map_cons, List.map_nil, Sp.pr, Given]
            rintro _ rfl
            have q0 := h1.cell d3
            go_wp2_with fail
            exact Post.isv (Ext.refl _) rfl rfl rfl
          apply Stage2.step (Is _) true [] true false (Is.keeps _) (fun _ => Is.keeps _) (by kernel_rfl)
          · intro w1 h1
            have h1 : Ext _ w1 := h1
            simp only [List.nil_append, List.cons_append, List.map_cons, List.map_nil, Given]
            go_wp2_with fail
            exact Post.isv (Ext.refl _) rfl rfl rfl
          apply Stage2.step (Is _) true [false, false, false, false, false, false, false, false, false, false, true] true false (Is.keeps _) (fun _ => Is.keeps _) (by kernel_rfl)
          · intro w1 h1
            have h1 : Ext _ w1 := h1
            simp only [List.nil_append, List.cons_append, List.map_cons, List.map_nil, Sp.pr, Given]
            rintro _ rfl
            go_wp2_with fail
            exact Post.isv (Ext.refl _) rfl rfl rfl
          apply Stage2.step (Is (.int .i64 x4)) true [false, false, false, false, false, false, false, false, false, false, false, true] true false (Is.keeps _) (fun _ => Is.keeps _) (by kernel_rfl)
          · intro w1 h1
            have h1 : Ext _ w1 := h1
            simp only [List.nil_append, List.cons_append, List.map_cons, List.map_nil, Sp.pr, Given]
            rintro _ rfl
            have q0 := h1.cell d4
            go_wp2_with fail
            exact Post.isv (Ext.refl _) rfl rfl rfl
          apply Stage2.step (Is _) true [false, false, false, true, false, false, true, false, false, true, false, false, true] true false (Is.keeps _) (fun _ => Is.keeps _) (by kernel_rfl)
          · intro w1 h1
            have h1 : Ext _ w1 := h1
            simp only [List.nil_append, List.cons_append, List.map_cons, List.map_nil, Sp.pr, Given]
            rintro _ rfl
            rintro _ rfl
            rintro _ rfl
            rintro _ rfl
            go_wp2_with fail
            exact Post.isv (Ext.refl _) rfl rfl rfl
          apply Stage2.step (TgL [⟨x1, x2, x3, x4⟩] 1) false [false, false, false, false, false, false, false, false, false, false, false, false, false, true] true false (TgL.keeps _ _) (no_keeps) (by kernel_rfl)
          · intro w1 h1
            have h1 : Ext _ w1 := h1
            simp only [List.nil_append, List.cons_append, List.map_cons, List.map_nil, Sp.pr, Given]
            rintro _ rfl
            go_wp2_with fail
            exact ⟨rfl, rfl, Ext.alloc _ _, _, _, rfl, (tag_lit _ ⟨x1, x2, x3, x4⟩).lst⟩
          apply Stage2.step (TgT w.heap.size (k + 1) (out ++ [⟨x1, x2, x3, x4⟩])) false [true, false, false, false, false, false, false, false, false, false, false, false, false, false, true] true true (TgT.keeps _ _ _) (no_keeps) (by kernel_rfl)
          · intro w1 h1
            have h1 : Ext _ w1 := h1
            simp only [List.nil_append, List.cons_append, List.map_cons, List.map_nil, Sp.pr, Given]
            rintro _ rfl
            rintro _ ⟨A3, c3, rfl, h3⟩
            go_wp2_with (
              at_builtin
              refine wpList_append_flat2 (w0 := w) tg_rep (fun x cs w h => tag_nop h) rfl _ _ _ _ rfl TTg TTg i0 _ 32 under_tgs under_tgs hi0 hz0 hz1 hz2 rfl Ao k co out rfl (hown1.ext tg_rep h1) A3 1 c3 [⟨x1, x2, x3, x4⟩] rfl h3 (k + 1) rfl _ rfl (by simp only [maxLen]; omega) (by omega) (hx01.trans h1) ?_
              intro A6 c6 w6 hb6 hx6 hg6)
            exact ⟨rfl, rfl, But.grown (But.refl _ _ _) hg6 (fun g hg => .inr ((hown1.ext tg_rep h1).row_lt g hg).1), _, _, rfl, hb6⟩
          apply Stage2.step (TgT w.heap.size (k + 1) (out ++ [⟨x1, x2, x3, x4⟩])) false [false, false, false, false, false, false, false, false, false, false, false, false, false, false, false, true] false false (TgT.keeps _ _ _) (no_keeps) (by kernel_rfl)
          · intro w1 h1
            have h1 : (But w.heap.size (fun _ => False)) _ w1 := h1
            simp only [List.nil_append, List.cons_append, List.map_cons, List.map_nil, Sp.pr, Given]
            rintro v hcp
            go_wp2_with fail
            exact ⟨rfl, rfl, Ext.refl _, hcp⟩
          apply Stage2.nil [true, true, true, true, true, true, true, true, true, true, true, true, true, true, false, true, true] (by kernel_rfl)
          intro w1 h1
          have h1 : (But w.heap.size (fun _ => False)) _ w1 := h1
          simp only [List.nil_append, List.cons_append, List.map_cons, List.map_nil, Sp.pr]
          refine Fin2.is_ ?_
          refine Fin2.is_ ?_
          refine Fin2.is_ ?_
          refine Fin2.is_ ?_
          refine Fin2.is_ ?_
          refine Fin2.is_ ?_
          refine Fin2.is_ ?_
          refine Fin2.is_ ?_
          refine Fin2.is_ ?_
          refine Fin2.is_ ?_
          refine Fin2.is_ ?_
          refine Fin2.is_ ?_
          refine Fin2.is_ ?_
          refine Fin2.is_ ?_
          refine Fin2.dead_ ?_
          intro dead14
          refine Fin2.step_ ?_
          rintro _ ⟨A6, c6, rfl, h6⟩
          refine Fin2.step_ ?_
          rintro _ ⟨A6, c6, rfl, h6⟩
          refine Fin2.nil_ ?_
          go_simp
          go_wp2_with fail
          go_roundw
          case rel => exact ⟨k + 1, d, A6, c6, _, by omega, rfl, rfl, by go_num, h6, HN, hx01.but h1 (Nat.le_refl _) (fun _ h => h.elim)⟩
          case measure => simp [intOf]; omega
      · obtain rfl : k = N := by omega
        have hr1 := hrk.out
        rw [Nat.sub_self] at hr1
        obtain rfl : q = some out := by rw [← hr1]; simp [tgsF]
        clear hrk hr1
        obtain ⟨r, hr⟩ : ∃ r, rightL out = r := ⟨_, rfl⟩
        have HR := Lib.hid hr
        obtain ⟨L, hL⟩ : ∃ L, putR out r = L := ⟨_, rfl⟩
        have HL := Lib.hid hL
        cases r with
        | false =>
          obtain rfl : o = none := by rw [← HG1.out]; exact get_wrong HQ.out hr
          clear HQ hr hL HG1
          go_wp2_with fail
          refine (ref_PutChain hown.lst HR HL).mono ?_
          rintro e w2 ⟨A2, n2, c2, rfl, h2, hx2⟩
          rw [show (if false = true then (0 : Int) else 1) = 1 from rfl]
          go_wp2_with fail
          go_ret2
          exact ⟨_, _, _, rfl, OwnL.nil _ _ _ _, hxr.trans hx2⟩
        | true =>
          obtain rfl : putL out = L := hL
          obtain ⟨z, hz⟩ : ∃ z, (putL out == b) = z := ⟨_, rfl⟩
          cases z with
          | false =>
            obtain rfl : o = none := by rw [← HG1.out]; exact get_other HQ.out hz
            clear HQ hr HG1
            go_wp2_with fail
            refine (ref_PutChain hown.lst HR HL).mono ?_
            rintro e w2 ⟨A2, n2, c2, rfl, h2, hx2⟩
            rw [show (if true = true then (0 : Int) else 1) = 0 from rfl]
            have t1 := run_text_u8 h2.sl
            have t2 := run_text_u8 (hb.ext (hxr.trans hx2))
            go_wp2_with fail
            go_ret2
            exact ⟨_, _, _, rfl, OwnL.nil _ _ _ _, hxr.trans hx2⟩
          | true =>
            obtain rfl : o = some out := by rw [← HG1.out]; exact get_yes HQ.out hr hz
            have hz := eq_of_beq hz
            subst hz
            clear HQ hr HG1
            go_wp2_with fail
            refine (ref_PutChain hown.lst HR HL).mono ?_
            rintro e w2 ⟨A2, n2, c2, rfl, h2, hx2⟩
            rw [show (if true = true then (0 : Int) else 1) = 0 from rfl]
            have t1 := run_text_u8 h2.sl
            have t2 := run_text_u8 (hb.ext (hxr.trans hx2))
            go_wp2_with fail
            go_ret2
            exact ⟨_, _, _, rfl, hown.ext tg_rep hx2, hxr.trans hx2⟩
end Go.Proofs.Ytoeknbogaclfdaa

namespace Go.Proofs.Ytoeknbogaclfdaa
open Go.RowKit
set_option linter.unusedVariables false
set_option linter.unusedSimpArgs false
set_option linter.unnecessarySimpa false
set_option maxRecDepth 100000
theorem three {l : List Int} (h : l.length = 3) : ∃ x1 x2 x3, l = [x1, x2, x3] := by
  obtain _ | ⟨x1, _ | ⟨x2, _ | ⟨x3, _ | ⟨x4, l⟩⟩⟩⟩ := l <;> simp at h
  exact ⟨x1, x2, x3, rfl⟩
def MkT (B n : Nat) (xs : List Mk) : Ty := fun v w => ∃ A c, v = .slice A n c ∧ OwnL TMk 4 mkR w B A n c xs
theorem MkT.keeps (B n : Nat) (xs : List Mk) : Keeps Ext (MkT B n xs) := fun _ _ _ hx ⟨A, c, e, h⟩ => ⟨A, c, e, h.ext mk_rep hx⟩
def MkL (xs : List Mk) (n : Nat) : Ty := fun v w => ∃ A c, v = .slice A n c ∧ Lst 4 mkR w A n c xs
theorem MkL.keeps (xs : List Mk) (n : Nat) : Keeps Ext (MkL xs n) := fun _ _ _ hx ⟨A, c, e, h⟩ => ⟨A, c, e, h.ext mk_rep hx⟩
set_option maxHeartbeats 4000000 in
theorem ref_getMarks {A : Option Addr} {n c : Nat} {b : List UInt8} {a : Int} {w : World} (hb : Sl w A n c b) (hn6 : n ≤ 1000000) {o : Option (List Mk × Int)} (ho : Hid (mksO true b a = o)) :
    Calls Try.prog 64 #[.slice A n c, .int .i64 a] w fun e w' => ∃ A' n' c', e = .returned (.tuple #[.slice A' n' c', .int .i64 ((o.map Prod.snd).getD 0), .bool o.isSome]) ∧ OwnL TMk 4 mkR w' w.heap.size A' n' c' ((o.map Prod.fst).getD []) ∧ Ext w w' := by
  have h63 := hb.n63
  obtain ⟨i0, hi0, hz0, hz1, hz2⟩ := info_parts info_mk
  have ho1 := ho.out
  unfold mksO at ho1
  have hga0 := gvA_pos b a
  obtain ⟨ga, hga⟩ : ∃ q, gvA b a = q := ⟨_, rfl⟩
  obtain ⟨gb, hgb⟩ : ∃ q, gvB b a = q := ⟨_, rfl⟩
  obtain ⟨gc, hgc⟩ : ∃ q, gvC b a = q := ⟨_, rfl⟩
  rw [hga, hgb, hgc] at ho1
  rw [hga] at hga0
  have HG := Lib.hid (And.intro hga (And.intro hgb hgc))
  clear hga hgb hgc ho
  cases gc with
  | false =>
    obtain rfl : o = none := by rw [← ho1]; simp
    clear ho1
    go_enter Try.func64, Try.ntmps64
    go_wp2_with fail
    refine (ref_GetVar_h hb hn6 HG).mono ?_
    rintro e _ ⟨rfl, rfl⟩
    go_wp2_with fail
    go_ret3
    exact ⟨_, _, _, rfl, OwnL.nil _ _ _ _, Ext.refl _⟩
  | true =>
    obtain ⟨N, rfl⟩ := Int.eq_ofNat_of_zero_le hga0
    by_cases h17 : 17 < N
    · obtain rfl : o = none := by rw [← ho1, if_neg (by rintro ⟨_, h⟩; omega)]
      clear ho1
      have d17 : decide ((17 : Int) < (N : Int)) = true := by simp; omega
      go_enter Try.func64, Try.ntmps64
      go_wp2_with fail
      refine (ref_GetVar_h hb hn6 HG).mono ?_
      rintro e _ ⟨rfl, rfl⟩
      go_wp2_with fail
      go_ret3
      exact ⟨_, _, _, rfl, OwnL.nil _ _ _ _, Ext.refl _⟩
    have d17 : decide ((17 : Int) < (N : Int)) = false := by simp; omega
    rw [if_pos ⟨rfl, by omega⟩, Int.toNat_natCast] at ho1
    have HO : Hid ((mksG true (N - 0) b gb).map (fun q => (([] : List Mk) ++ q.1, q.2)) = o) := by
      unfold Hid
      rw [Nat.sub_zero, ← ho1]
      cases mksG true N b gb <;> simp
    clear ho1 hga0
    go_enter Try.func64, Try.ntmps64
    go_wp2_with fail
    refine (ref_GetVar_h hb hn6 HG).mono ?_
    rintro e _ ⟨rfl, rfl⟩
    clear HG
    go_wp2_with fail
    go_loopw [1, 9, 10] (fun av v i wr => ∃ (k : Nat) (d : Int) (Ao : Option Addr) (co : Nat) (out : List Mk), k ≤ N ∧ av = .int .i64 d ∧ v = .slice Ao k co ∧ i = .int .i64 k ∧ OwnL TMk 4 mkR wr w.heap.size Ao k co out ∧ Hid ((mksG true (N - k) b d).map (fun q => (out ++ q.1, q.2)) = o) ∧ Ext w wr) (fun _ _ i _ => N - (intOf i).toNat)
    case atStart => exact ⟨0, gb, none, 0, [], by omega, rfl, rfl, rfl, OwnL.nil _ _ _ _, HO, Ext.refl _⟩
    case round =>
      clear HO
      obtain ⟨k, d, Ao, co, out, hk, rfl, rfl, rfl, hown, hrk, hxr⟩ := hrel
      by_cases hlt : k < N
      · obtain ⟨p, hp⟩ : ∃ p, numsF 3 b d = p := ⟨_, rfl⟩
        have HP := Lib.hid hp
        cases p with
        | none =>
          obtain rfl := mks_stop hrk.out hlt (mkG_none hp)
          clear hrk hp
          go_wp2_with fail
          refine (ref_numbers (F := 3) (hb.ext hxr) hn6 (by omega) HP).mono ?_
          rintro e w1 ⟨A1, n1, c1, rfl, h1, hx1⟩
          go_wp2_with fail
          go_ret3
          exact ⟨_, _, _, rfl, OwnL.nil _ _ _ _, hxr.trans hx1⟩
        | some p =>
          obtain ⟨p, d2⟩ := p
          obtain ⟨x1, x2, x3, rfl⟩ := three (numsF_len _ _ _ _ hp)
          have hmk : mkG true b d = if 1 < x3 then none else (gtO b d2 20).map fun q => (mkOf [x1, x2, x3] q.1, q.2) := by
            unfold mkG
            rw [hp, Option.bind_some]
            simp [mostG]
          clear hp
          obtain ⟨ta, hta⟩ : ∃ q, (⟨(gtA b d2 20).toArray⟩ : ByteArray) = q := ⟨_, rfl⟩
          obtain ⟨tb, htb⟩ : ∃ q, gtB b d2 20 = q := ⟨_, rfl⟩
          obtain ⟨tc, htc⟩ : ∃ q, gtC b d2 20 = q := ⟨_, rfl⟩
          have HGT := Lib.hid (And.intro hta (And.intro htb htc))
          obtain ⟨w1, hw1⟩ : ∃ q : World, q = q := ⟨wr, rfl⟩
          clear w1 hw1
          by_cases h3 : 1 < x3
          · rw [if_pos h3] at hmk
            obtain rfl := mks_stop hrk.out hlt hmk
            clear hrk hmk hta htb htc
            go_wp2_with fail
            refine (ref_numbers (F := 3) (hb.ext hxr) hn6 (by omega) HP).mono ?_
            rintro e w1 ⟨A1, n1, c1, rfl, h1, hx1⟩
            rw [show ((some ([x1, x2, x3], d2) : Option (List Int × Int)).map Prod.snd).getD 0 = d2 from rfl, show (some ([x1, x2, x3], d2) : Option (List Int × Int)).isSome = true from rfl]
            have l4 : Lst 1 intR w1 A1 n1 c1 [x1, x2, x3] := h1.lst
            obtain rfl : n1 = 3 := l4.len.symm
            obtain ⟨g1, o1, y3, rfl, hy3, q3⟩ := l4.atI (i := 2) (by omega)
            simp only [List.getElem?_cons_zero, List.getElem?_cons_succ, Option.some.injEq] at hy3
            subst hy3
            clear h1 l4
            go_wp2_with fail
            go_ret3
            exact ⟨_, _, _, rfl, OwnL.nil _ _ _ _, hxr.trans hx1⟩
          · rw [if_neg h3] at hmk
            have d3 : decide (1 < x3) = false := decide_eq_false h3
            obtain ⟨g, hg⟩ : ∃ g, decide (x3 = 1) = g := ⟨_, rfl⟩
            have hgb : (x3 == 1) = g := by rw [← hg]; by_cases h : x3 = 1 <;> simp [h]
            cases tc with
            | false =>
              rw [gtO_none htc, Option.map_none] at hmk
              obtain rfl := mks_stop hrk.out hlt hmk
              clear hrk hmk hta htb htc hg hgb
              go_wp2_with fail
              refine (ref_numbers (F := 3) (hb.ext hxr) hn6 (by omega) HP).mono ?_
              rintro e w1 ⟨A1, n1, c1, rfl, h1, hx1⟩
              rw [show ((some ([x1, x2, x3], d2) : Option (List Int × Int)).map Prod.snd).getD 0 = d2 from rfl, show (some ([x1, x2, x3], d2) : Option (List Int × Int)).isSome = true from rfl]
              have l4 : Lst 1 intR w1 A1 n1 c1 [x1, x2, x3] := h1.lst
              obtain rfl : n1 = 3 := l4.len.symm
              obtain ⟨g1, o1, y3, rfl, hy3, q3⟩ := l4.atI (i := 2) (by omega)
              simp only [List.getElem?_cons_zero, List.getElem?_cons_succ, Option.some.injEq] at hy3
              subst hy3
              clear h1 l4
              go_wp2_with fail
              refine (ref_GetText_h (hb.ext (hxr.trans hx1)) hn6 HGT).mono ?_
              rintro e _ ⟨rfl, rfl⟩
              go_wp2_with fail
              go_ret3
              exact ⟨_, _, _, rfl, OwnL.nil _ _ _ _, hxr.trans hx1⟩
            | true =>
              rw [gtO_some htc, Option.map_some, htb] at hmk
              have hmk2 : mkG true b d = some (⟨x1, ta, x2, g⟩, tb) := by
                rw [hmk]
                simp only [mkOf, List.getD_cons_zero, List.getD_cons_succ, hta, hg]
              have HN := Lib.hid (mks_next hrk.out hlt hmk2)
              clear hrk hmk hmk2 hta htb htc hg
              go_wp2_with fail
              refine (ref_numbers (F := 3) (hb.ext hxr) hn6 (by omega) HP).mono ?_
              rintro e w1 ⟨A1, n1, c1, rfl, h1, hx1⟩
              rw [show ((some ([x1, x2, x3], d2) : Option (List Int × Int)).map Prod.snd).getD 0 = d2 from rfl, show (some ([x1, x2, x3], d2) : Option (List Int × Int)).isSome = true from rfl]
              have l4 : Lst 1 intR w1 A1 n1 c1 [x1, x2, x3] := h1.lst
              obtain rfl : n1 = 3 := l4.len.symm
              obtain ⟨g1, o1, y1, rfl, hy1, q1⟩ := l4.atI (i := 0) (by omega)
              obtain ⟨_, _, y2, e2, hy2, q2⟩ := l4.atI (i := 1) (by omega)
              obtain ⟨_, _, y3, e3, hy3, q3⟩ := l4.atI (i := 2) (by omega)
              injection e2 with e2; injection e2 with e2 e2'; subst e2 e2'
              injection e3 with e3; injection e3 with e3 e3'; subst e3 e3'
              simp only [List.getElem?_cons_zero, List.getElem?_cons_succ, Option.some.injEq] at hy1 hy2 hy3
              subst hy1 hy2 hy3
              rw [Nat.add_zero] at q1
              have hown1 := hown.ext mk_rep hx1
              have hx01 := hxr.trans hx1
              clear hown hxr hx1 h1 l4
              go_wp2_with fail
              refine (ref_GetText_h (hb.ext hx01) hn6 HGT).mono ?_
              rintro e _ ⟨rfl, rfl⟩
              obtain ⟨wb, rfl⟩ : ∃ q, q = w1 := ⟨_, rfl⟩
              go_wp2_with fail
              refine wp_region_typed2 (R := But w.heap.size (fun _ => False)) Ext.steady (But.steady _ _) (fun _ _ => But.of_ext) rfl 77 rfl [0, 0, 2, 6, 0, 0, 32, 96, 0, 256, 768, 1792, 4094, 8190, 16383, 32767] 16384 (by kernel_rfl) ?_
              apply Stage2.step (Is _) true [] true false (Is.keeps _) (fun _ => Is.keeps _) (by kernel_rfl)
              · intro w1 h1
                have h1 : Ext _ w1 := h1
                simp only [List.nil_append, List.cons_append, List.map_cons, List.map_nil, Given]
                go_wp2_with fail
                exact Post.isv (Ext.refl _) rfl rfl rfl
              apply Stage2.step (Is _) true [] true false (Is.keeps _) (fun _ => Is.keeps _) (by kernel_rfl)
              · intro w1 h1
                have h1 : Ext _ w1 := h1
                simp only [List.nil_append, List.cons_append, List.map_cons, List.map_nil, Given]
                go_wp2_with fail
                exact Post.isv (Ext.refl _) rfl rfl rfl
              apply Stage2.step (Is _) true [false, true] true false (Is.keeps _) (fun _ => Is.keeps _) (by kernel_rfl)
              · intro w1 h1
                have h1 : Ext _ w1 := h1
                simp only [List.nil_append, List.cons_append, List.map_cons, List.map_nil, Sp.pr, Given]
                rintro _ rfl
                go_wp2_with fail
                exact Post.isv (Ext.refl _) rfl rfl rfl
              apply Stage2.step (Is (.int .i64 x1)) true [false, false, true] true false (Is.keeps _) (fun _ => Is.keeps _) (by kernel_rfl)
              · intro w1 h1
                have h1 : Ext _ w1 := h1
                simp only [List.nil_append, List.cons_append, List.map_cons, List.map_nil, Sp.pr, Given]
                rintro _ rfl
                have q0 := h1.cell q1
                go_wp2_with fail
                exact Post.isv (Ext.refl _) rfl rfl rfl
              apply Stage2.step (Is _) true [] true false (Is.keeps _) (fun _ => Is.keeps _) (by kernel_rfl)
              · intro w1 h1
                have h1 : Ext _ w1 := h1
                simp only [List.nil_append, List.cons_append, List.map_cons, List.map_nil, Given]
                go_wp2_with fail
                exact Post.isv (Ext.refl _) rfl rfl rfl
              apply Stage2.step (Is _) true [] true false (Is.keeps _) (fun _ => Is.keeps _) (by kernel_rfl)
              · intro w1 h1
                have h1 : Ext _ w1 := h1
                simp only [List.nil_append, List.cons_append, List.map_cons, List.map_nil, Given]
                go_wp2_with fail
                exact Post.isv (Ext.refl _) rfl rfl rfl
              apply Stage2.step (Is _) true [false, false, false, false, false, true] true false (Is.keeps _) (fun _ => Is.keeps _) (by kernel_rfl)
              · intro w1 h1
                have h1 : Ext _ w1 := h1
                simp only [List.nil_append, List.cons_append, List.map_cons, List.map_nil, Sp.pr, Given]
                rintro _ rfl
                go_wp2_with fail
                exact Post.isv (Ext.refl _) rfl rfl rfl
              apply Stage2.step (Is (.int .i64 x2)) true [false, false, false, false, false, false, true] true false (Is.keeps _) (fun _ => Is.keeps _) (by kernel_rfl)
              · intro w1 h1
                have h1 : Ext _ w1 := h1
                simp only [List.nil_append, List.cons_append, List.map_cons, List.map_nil, Sp.pr, Given]
                rintro _ rfl
                have q0 := h1.cell q2
                go_wp2_with fail
                exact Post.isv (Ext.refl _) rfl rfl rfl
              apply Stage2.step (Is _) true [] true false (Is.keeps _) (fun _ => Is.keeps _) (by kernel_rfl)
              · intro w1 h1
                have h1 : Ext _ w1 := h1
                simp only [List.nil_append, List.cons_append, List.map_cons, List.map_nil, Given]
                go_wp2_with fail
                exact Post.isv (Ext.refl _) rfl rfl rfl
              apply Stage2.step (Is _) true [false, false, false, false, false, false, false, false, true] true false (Is.keeps _) (fun _ => Is.keeps _) (by kernel_rfl)
              · intro w1 h1
                have h1 : Ext _ w1 := h1
                simp only [List.nil_append, List.cons_append, List.map_cons, List.map_nil, Sp.pr, Given]
                rintro _ rfl
                go_wp2_with fail
                exact Post.isv (Ext.refl _) rfl rfl rfl
              apply Stage2.step (Is (.int .i64 x3)) true [false, false, false, false, false, false, false, false, false, true] true false (Is.keeps _) (fun _ => Is.keeps _) (by kernel_rfl)
              · intro w1 h1
                have h1 : Ext _ w1 := h1
                simp only [List.nil_append, List.cons_append, List.map_cons, List.map_nil, Sp.pr, Given]
                rintro _ rfl
                have q0 := h1.cell q3
                go_wp2_with fail
                exact Post.isv (Ext.refl _) rfl rfl rfl
              apply Stage2.step (Is _) true [false, false, false, false, false, false, false, false, false, false, true] true false (Is.keeps _) (fun _ => Is.keeps _) (by kernel_rfl)
              · intro w1 h1
                have h1 : Ext _ w1 := h1
                simp only [List.nil_append, List.cons_append, List.map_cons, List.map_nil, Sp.pr, Given]
                rintro _ rfl
                go_wp2_with fail
                exact Post.isv (Ext.refl _) rfl rfl rfl
              apply Stage2.step (Is _) true [false, false, false, true, true, false, false, true, false, false, false, true] true false (Is.keeps _) (fun _ => Is.keeps _) (by kernel_rfl)
              · intro w1 h1
                have h1 : Ext _ w1 := h1
                simp only [List.nil_append, List.cons_append, List.map_cons, List.map_nil, Sp.pr, Given]
                rintro _ rfl
                rintro _ rfl
                rintro _ rfl
                rintro _ rfl
                go_wp2_with fail
                exact Post.isv (Ext.refl _) rfl rfl rfl
              apply Stage2.step (MkL [⟨x1, ta, x2, g⟩] 1) false [false, false, false, false, false, false, false, false, false, false, false, false, true] true false (MkL.keeps _ _) (no_keeps) (by kernel_rfl)
              · intro w1 h1
                have h1 : Ext _ w1 := h1
                simp only [List.nil_append, List.cons_append, List.map_cons, List.map_nil, Sp.pr, Given]
                rintro _ rfl
                go_wp2_with fail
                exact ⟨rfl, rfl, Ext.alloc _ _, _, _, rfl, (mk_lit _ ⟨x1, ta, x2, g⟩).lst⟩
              apply Stage2.step (MkT w.heap.size (k + 1) (out ++ [⟨x1, ta, x2, g⟩])) false [true, false, false, false, false, false, false, false, false, false, false, false, false, true] true true (MkT.keeps _ _ _) (no_keeps) (by kernel_rfl)
              · intro w1 h1
                have h1 : Ext _ w1 := h1
                simp only [List.nil_append, List.cons_append, List.map_cons, List.map_nil, Sp.pr, Given]
                rintro _ rfl
                rintro _ ⟨A3, c3, rfl, h3⟩
                go_wp2_with (
                  at_builtin
                  refine wpList_append_flat2 (w0 := w) mk_rep (fun x cs w h => mk_nop h) rfl _ _ _ _ rfl TMk TMk i0 _ 40 under_mks under_mks hi0 hz0 hz1 hz2 rfl Ao k co out rfl (hown1.ext mk_rep h1) A3 1 c3 [⟨x1, ta, x2, g⟩] rfl h3 (k + 1) rfl _ rfl (by simp only [maxLen]; omega) (by omega) (hx01.trans h1) ?_
                  intro A6 c6 w6 hb6 hx6 hg6)
                exact ⟨rfl, rfl, But.grown (But.refl _ _ _) hg6 (fun g hg => .inr ((hown1.ext mk_rep h1).row_lt g hg).1), _, _, rfl, hb6⟩
              apply Stage2.step (MkT w.heap.size (k + 1) (out ++ [⟨x1, ta, x2, g⟩])) false [false, false, false, false, false, false, false, false, false, false, false, false, false, false, true] false false (MkT.keeps _ _ _) (no_keeps) (by kernel_rfl)
              · intro w1 h1
                have h1 : (But w.heap.size (fun _ => False)) _ w1 := h1
                simp only [List.nil_append, List.cons_append, List.map_cons, List.map_nil, Sp.pr, Given]
                rintro v hcp
                go_wp2_with fail
                exact ⟨rfl, rfl, Ext.refl _, hcp⟩
              apply Stage2.nil [true, true, true, true, true, true, true, true, true, true, true, true, true, false, true, true] (by kernel_rfl)
              intro w1 h1
              have h1 : (But w.heap.size (fun _ => False)) _ w1 := h1
              simp only [List.nil_append, List.cons_append, List.map_cons, List.map_nil, Sp.pr]
              refine Fin2.is_ ?_
              refine Fin2.is_ ?_
              refine Fin2.is_ ?_
              refine Fin2.is_ ?_
              refine Fin2.is_ ?_
              refine Fin2.is_ ?_
              refine Fin2.is_ ?_
              refine Fin2.is_ ?_
              refine Fin2.is_ ?_
              refine Fin2.is_ ?_
              refine Fin2.is_ ?_
              refine Fin2.is_ ?_
              refine Fin2.is_ ?_
              refine Fin2.dead_ ?_
              intro dead13
              refine Fin2.step_ ?_
              rintro _ ⟨A6, c6, rfl, h6⟩
              refine Fin2.step_ ?_
              rintro _ ⟨A6, c6, rfl, h6⟩
              refine Fin2.nil_ ?_
              go_simp
              go_wp2_with fail
              go_roundw
              case rel => exact ⟨k + 1, tb, A6, c6, _, by omega, rfl, rfl, by go_num, h6, HN, hx01.but h1 (Nat.le_refl _) (fun _ h => h.elim)⟩
              case measure => simp [intOf]; omega
      · obtain rfl : k = N := by omega
        have hr1 := hrk.out
        rw [Nat.sub_self] at hr1
        obtain rfl : o = some (out, d) := by rw [← hr1]; simp [mksG]
        clear hrk hr1
        go_wp2_with fail
        go_ret3
        exact ⟨_, _, _, rfl, hown, hxr⟩
end Go.Proofs.Ytoeknbogaclfdaa
