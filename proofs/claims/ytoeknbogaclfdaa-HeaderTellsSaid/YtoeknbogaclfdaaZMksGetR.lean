/-
  Marks out of bytes: contract of the reference's getMarks.
-/
import Derived.Test.YtoeknbogaclfdaaZHdGet
import Derived.Test.YtoeknbogaclfdaaZTagGetRef
namespace Go.Proofs.Ytoeknbogaclfdaa
open Go.RowKit
set_option linter.unusedVariables false
set_option linter.unusedSimpArgs false
set_option linter.unnecessarySimpa false
set_option maxRecDepth 100000

theorem three {l : List Int} (h : l.length = 3) : ∃ x1 x2 x3, l = [x1, x2, x3] := by
  obtain _ | ⟨x1, _ | ⟨x2, _ | ⟨x3, _ | ⟨x4, l⟩⟩⟩⟩ := l <;> simp at h
  exact ⟨x1, x2, x3, rfl⟩
def MkT (B n : Nat) (xs : List Mk) : Ty := fun v w => ∃ A c, v = .slice A n c ∧ OwnL TMk 4 mkR w B A n c xs
theorem MkT.keeps (B n : Nat) (xs : List Mk) : Keeps Ext (MkT B n xs) := fun _ _ _ hx ⟨A, c, e, h⟩ => ⟨A, c, e, h.ext mk_rep hx⟩
def MkL (xs : List Mk) (n : Nat) : Ty := fun v w => ∃ A c, v = .slice A n c ∧ Lst 4 mkR w A n c xs
theorem MkL.keeps (xs : List Mk) (n : Nat) : Keeps Ext (MkL xs n) := fun _ _ _ hx ⟨A, c, e, h⟩ => ⟨A, c, e, h.ext mk_rep hx⟩
set_option maxHeartbeats 4000000 in
theorem ref_getMarks {A : Option Addr} {n c : Nat} {b : List UInt8} {a : Int} {w : World} (hb : Sl w A n c b) (hn6 : n ≤ 1000000) {o : Option (List Mk × Int)} (ho : Hid (mksO true b a = o)) :
    Calls Try.prog 64 #[.slice A n c, .int .i64 a] w fun e w' => ∃ A' n' c', e = .returned (.tuple #[.slice A' n' c', .int .i64 ((o.map Prod.snd).getD 0), .bool o.isSome]) ∧ OwnL TMk 4 mkR w' w.heap.size A' n' c' ((o.map Prod.fst).getD []) ∧ Ext w w' := by
  have h63 := hb.n63
  obtain ⟨i0, hi0, hz0, hz1, hz2⟩ := info_parts info_mk
  have ho1 := ho.out
  unfold mksO at ho1
  have hga0 := gvA_pos b a
  obtain ⟨ga, hga⟩ : ∃ q, gvA b a = q := ⟨_, rfl⟩
  obtain ⟨gb, hgb⟩ : ∃ q, gvB b a = q := ⟨_, rfl⟩
  obtain ⟨gc, hgc⟩ : ∃ q, gvC b a = q := ⟨_, rfl⟩
  rw [hga, hgb, hgc] at ho1
  rw [hga] at hga0
  have HG := Lib.hid (And.intro hga (And.intro hgb hgc))
  clear hga hgb hgc ho
  cases gc with
  | false =>
    obtain rfl : o = none := by rw [← ho1]; simp
    clear ho1
    go_enter Try.func64, Try.ntmps64
    go_wp2_with fail
    refine (ref_GetVar_h hb hn6 HG).mono ?_
    rintro e _ ⟨rfl, rfl⟩
    go_wp2_with fail
    go_ret3
    exact ⟨_, _, _, rfl, OwnL.nil _ _ _ _, Ext.refl _⟩
  | true =>
    obtain ⟨N, rfl⟩ := Int.eq_ofNat_of_zero_le hga0
    by_cases h17 : 17 < N
    · obtain rfl : o = none := by rw [← ho1, if_neg (by rintro ⟨_, h⟩; omega)]
      clear ho1
      have d17 : decide ((17 : Int) < (N : Int)) = true := by simp; omega
      go_enter Try.func64, Try.ntmps64
      go_wp2_with fail
      refine (ref_GetVar_h hb hn6 HG).mono ?_
      rintro e _ ⟨rfl, rfl⟩
      go_wp2_with fail
      go_ret3
      exact ⟨_, _, _, rfl, OwnL.nil _ _ _ _, Ext.refl _⟩
    have d17 : decide ((17 : Int) < (N : Int)) = false := by simp; omega
    rw [if_pos ⟨rfl, by omega⟩, Int.toNat_natCast] at ho1
    have HO : Hid ((mksG true (N - 0) b gb).map (fun q => (([] : List Mk) ++ q.1, q.2)) = o) := by
      unfold Hid
      rw [Nat.sub_zero, ← ho1]
      cases mksG true N b gb <;> simp
    clear ho1 hga0
    go_enter Try.func64, Try.ntmps64
    go_wp2_with fail
    refine (ref_GetVar_h hb hn6 HG).mono ?_
    rintro e _ ⟨rfl, rfl⟩
    clear HG
    go_wp2_with fail
    go_loopw [1, 9, 10] (fun av v i wr => ∃ (k : Nat) (d : Int) (Ao : Option Addr) (co : Nat) (out : List Mk), k ≤ N ∧ av = .int .i64 d ∧ v = .slice Ao k co ∧ i = .int .i64 k ∧ OwnL TMk 4 mkR wr w.heap.size Ao k co out ∧ Hid ((mksG true (N - k) b d).map (fun q => (out ++ q.1, q.2)) = o) ∧ Ext w wr) (fun _ _ i _ => N - (intOf i).toNat)
    case atStart => exact ⟨0, gb, none, 0, [], by omega, rfl, rfl, rfl, OwnL.nil _ _ _ _, HO, Ext.refl _⟩
    case round =>
      clear HO
      obtain ⟨k, d, Ao, co, out, hk, rfl, rfl, rfl, hown, hrk, hxr⟩ := hrel
      by_cases hlt : k < N
      · obtain ⟨p, hp⟩ : ∃ p, numsF 3 b d = p := ⟨_, rfl⟩
        have HP := Lib.hid hp
        cases p with
        | none =>
          obtain rfl := mks_stop hrk.out hlt (mkG_none hp)
          clear hrk hp
          go_wp2_with fail
          refine (ref_numbers (F := 3) (hb.ext hxr) hn6 (by omega) HP).mono ?_
          rintro e w1 ⟨A1, n1, c1, rfl, h1, hx1⟩
          go_wp2_with fail
          go_ret3
          exact ⟨_, _, _, rfl, OwnL.nil _ _ _ _, hxr.trans hx1⟩
        | some p =>
          obtain ⟨p, d2⟩ := p
          obtain ⟨x1, x2, x3, rfl⟩ := three (numsF_len _ _ _ _ hp)
          have hmk : mkG true b d = if 1 < x3 then none else (gtO b d2 20).map fun q => (mkOf [x1, x2, x3] q.1, q.2) := by
            unfold mkG
            rw [hp, Option.bind_some]
            simp [mostG]
          clear hp
          obtain ⟨ta, hta⟩ : ∃ q, (⟨(gtA b d2 20).toArray⟩ : ByteArray) = q := ⟨_, rfl⟩
          obtain ⟨tb, htb⟩ : ∃ q, gtB b d2 20 = q := ⟨_, rfl⟩
          obtain ⟨tc, htc⟩ : ∃ q, gtC b d2 20 = q := ⟨_, rfl⟩
          have HGT := Lib.hid (And.intro hta (And.intro htb htc))
          obtain ⟨w1, hw1⟩ : ∃ q : World, q = q := ⟨wr, rfl⟩
          clear w1 hw1
          by_cases h3 : 1 < x3
          · rw [if_pos h3] at hmk
            obtain rfl := mks_stop hrk.out hlt hmk
            clear hrk hmk hta htb htc
            go_wp2_with fail
            refine (ref_numbers (F := 3) (hb.ext hxr) hn6 (by omega) HP).mono ?_
            rintro e w1 ⟨A1, n1, c1, rfl, h1, hx1⟩
            rw [show ((some ([x1, x2, x3], d2) : Option (List Int × Int)).map Prod.snd).getD 0 = d2 from rfl, show (some ([x1, x2, x3], d2) : Option (List Int × Int)).isSome = true from rfl]
            have l4 : Lst 1 intR w1 A1 n1 c1 [x1, x2, x3] := h1.lst
            obtain rfl : n1 = 3 := l4.len.symm
            obtain ⟨g1, o1, y3, rfl, hy3, q3⟩ := l4.atI (i := 2) (by omega)
            simp only [List.getElem?_cons_zero, List.getElem?_cons_succ, Option.some.injEq] at hy3
            subst hy3
            clear h1 l4
            go_wp2_with fail
            go_ret3
            exact ⟨_, _, _, rfl, OwnL.nil _ _ _ _, hxr.trans hx1⟩
          · rw [if_neg h3] at hmk
            have d3 : decide (1 < x3) = false := decide_eq_false h3
            obtain ⟨g, hg⟩ : ∃ g, decide (x3 = 1) = g := ⟨_, rfl⟩
            have hgb : (x3 == 1) = g := by rw [← hg]; by_cases h : x3 = 1 <;> simp [h]
            cases tc with
            | false =>
              rw [gtO_none htc, Option.map_none] at hmk
              obtain rfl := mks_stop hrk.out hlt hmk
              clear hrk hmk hta htb htc hg hgb
              go_wp2_with fail
              refine (ref_numbers (F := 3) (hb.ext hxr) hn6 (by omega) HP).mono ?_
              rintro e w1 ⟨A1, n1, c1, rfl, h1, hx1⟩
              rw [show ((some ([x1, x2, x3], d2) : Option (List Int × Int)).map Prod.snd).getD 0 = d2 from rfl, show (some ([x1, x2, x3], d2) : Option (List Int × Int)).isSome = true from rfl]
              have l4 : Lst 1 intR w1 A1 n1 c1 [x1, x2, x3] := h1.lst
              obtain rfl : n1 = 3 := l4.len.symm
              obtain ⟨g1, o1, y3, rfl, hy3, q3⟩ := l4.atI (i := 2) (by omega)
              simp only [List.getElem?_cons_zero, List.getElem?_cons_succ, Option.some.injEq] at hy3
              subst hy3
              clear h1 l4
              go_wp2_with fail
              refine (ref_GetText_h (hb.ext (hxr.trans hx1)) hn6 HGT).mono ?_
              rintro e _ ⟨rfl, rfl⟩
              go_wp2_with fail
              go_ret3
              exact ⟨_, _, _, rfl, OwnL.nil _ _ _ _, hxr.trans hx1⟩
            | true =>
              rw [gtO_some htc, Option.map_some, htb] at hmk
              have hmk2 : mkG true b d = some (⟨x1, ta, x2, g⟩, tb) := by
                rw [hmk]
                simp only [mkOf, List.getD_cons_zero, List.getD_cons_succ, hta, hg]
              have HN := Lib.hid (mks_next hrk.out hlt hmk2)
              clear hrk hmk hmk2 hta htb htc hg
              go_wp2_with fail
              refine (ref_numbers (F := 3) (hb.ext hxr) hn6 (by omega) HP).mono ?_
              rintro e w1 ⟨A1, n1, c1, rfl, h1, hx1⟩
              rw [show ((some ([x1, x2, x3], d2) : Option (List Int × Int)).map Prod.snd).getD 0 = d2 from rfl, show (some ([x1, x2, x3], d2) : Option (List Int × Int)).isSome = true from rfl]
              have l4 : Lst 1 intR w1 A1 n1 c1 [x1, x2, x3] := h1.lst
              obtain rfl : n1 = 3 := l4.len.symm
              obtain ⟨g1, o1, y1, rfl, hy1, q1⟩ := l4.atI (i := 0) (by omega)
              obtain ⟨_, _, y2, e2, hy2, q2⟩ := l4.atI (i := 1) (by omega)
              obtain ⟨_, _, y3, e3, hy3, q3⟩ := l4.atI (i := 2) (by omega)
              injection e2 with e2; injection e2 with e2 e2'; subst e2 e2'
              injection e3 with e3; injection e3 with e3 e3'; subst e3 e3'
              simp only [List.getElem?_cons_zero, List.getElem?_cons_succ, Option.some.injEq] at hy1 hy2 hy3
              subst hy1 hy2 hy3
              rw [Nat.add_zero] at q1
              have hown1 := hown.ext mk_rep hx1
              have hx01 := hxr.trans hx1
              clear hown hxr hx1 h1 l4
              go_wp2_with fail
              refine (ref_GetText_h (hb.ext hx01) hn6 HGT).mono ?_
              rintro e _ ⟨rfl, rfl⟩
              obtain ⟨wb, rfl⟩ : ∃ q, q = w1 := ⟨_, rfl⟩
              go_wp2_with fail
              refine wp_region_typed2 (R := But w.heap.size (fun _ => False)) Ext.steady (But.steady _ _) (fun _ _ => But.of_ext) rfl 77 rfl [0, 0, 2, 6, 0, 0, 32, 96, 0, 256, 768, 1792, 4094, 8190, 16383, 32767] 16384 (by kernel_rfl) ?_
              -- 0: Op.move t9
              apply Stage2.step (Is _) true [] true false (Is.keeps _) (fun _ => Is.keeps _) (by kernel_rfl)
              · intro w1 h1
                have h1 : Ext _ w1 := h1
                simp only [List.nil_append, List.cons_append, List.map_cons, List.map_nil, Given]
                go_wp2_with fail
                exact Post.isv (Ext.refl _) rfl rfl rfl
              -- 1: Op.move t11
              apply Stage2.step (Is _) true [] true false (Is.keeps _) (fun _ => Is.keeps _) (by kernel_rfl)
              · intro w1 h1
                have h1 : Ext _ w1 := h1
                simp only [List.nil_append, List.cons_append, List.map_cons, List.map_nil, Given]
                go_wp2_with fail
                exact Post.isv (Ext.refl _) rfl rfl rfl
              -- 2: Op.indexAddr 22 t60 (const (0:i64))
              apply Stage2.step (Is _) true [false, true] true false (Is.keeps _) (fun _ => Is.keeps _) (by kernel_rfl)
              · intro w1 h1
                have h1 : Ext _ w1 := h1
                simp only [List.nil_append, List.cons_append, List.map_cons, List.map_nil, Sp.pr, Given]
                rintro _ rfl
                go_wp2_with fail
                exact Post.isv (Ext.refl _) rfl rfl rfl
              -- 3: Op.load 3 t61
              apply Stage2.step (Is (.int .i64 x1)) true [false, false, true] true false (Is.keeps _) (fun _ => Is.keeps _) (by kernel_rfl)
              · intro w1 h1
                have h1 : Ext _ w1 := h1
                simp only [List.nil_append, List.cons_append, List.map_cons, List.map_nil, Sp.pr, Given]
                rintro _ rfl
                have q0 := h1.cell q1
                go_wp2_with fail
                exact Post.isv (Ext.refl _) rfl rfl rfl
              -- 4: Op.move t14
              apply Stage2.step (Is _) true [] true false (Is.keeps _) (fun _ => Is.keeps _) (by kernel_rfl)
              · intro w1 h1
                have h1 : Ext _ w1 := h1
                simp only [List.nil_append, List.cons_append, List.map_cons, List.map_nil, Given]
                go_wp2_with fail
                exact Post.isv (Ext.refl _) rfl rfl rfl
              -- 5: Op.move t11
              apply Stage2.step (Is _) true [] true false (Is.keeps _) (fun _ => Is.keeps _) (by kernel_rfl)
              · intro w1 h1
                have h1 : Ext _ w1 := h1
                simp only [List.nil_append, List.cons_append, List.map_cons, List.map_nil, Given]
                go_wp2_with fail
                exact Post.isv (Ext.refl _) rfl rfl rfl
              -- 6: Op.indexAddr 22 t64 (const (1:i64))
              apply Stage2.step (Is _) true [false, false, false, false, false, true] true false (Is.keeps _) (fun _ => Is.keeps _) (by kernel_rfl)
              · intro w1 h1
                have h1 : Ext _ w1 := h1
                simp only [List.nil_append, List.cons_append, List.map_cons, List.map_nil, Sp.pr, Given]
                rintro _ rfl
                go_wp2_with fail
                exact Post.isv (Ext.refl _) rfl rfl rfl
              -- 7: Op.load 3 t65
              apply Stage2.step (Is (.int .i64 x2)) true [false, false, false, false, false, false, true] true false (Is.keeps _) (fun _ => Is.keeps _) (by kernel_rfl)
              · intro w1 h1
                have h1 : Ext _ w1 := h1
                simp only [List.nil_append, List.cons_append, List.map_cons, List.map_nil, Sp.pr, Given]
                rintro _ rfl
                have q0 := h1.cell q2
                go_wp2_with fail
                exact Post.isv (Ext.refl _) rfl rfl rfl
              -- 8: Op.move t11
              apply Stage2.step (Is _) true [] true false (Is.keeps _) (fun _ => Is.keeps _) (by kernel_rfl)
              · intro w1 h1
                have h1 : Ext _ w1 := h1
                simp only [List.nil_append, List.cons_append, List.map_cons, List.map_nil, Given]
                go_wp2_with fail
                exact Post.isv (Ext.refl _) rfl rfl rfl
              -- 9: Op.indexAddr 22 t67 (const (2:i64))
              apply Stage2.step (Is _) true [false, false, false, false, false, false, false, false, true] true false (Is.keeps _) (fun _ => Is.keeps _) (by kernel_rfl)
              · intro w1 h1
                have h1 : Ext _ w1 := h1
                simp only [List.nil_append, List.cons_append, List.map_cons, List.map_nil, Sp.pr, Given]
                rintro _ rfl
                go_wp2_with fail
                exact Post.isv (Ext.refl _) rfl rfl rfl
              -- 10: Op.load 3 t68
              apply Stage2.step (Is (.int .i64 x3)) true [false, false, false, false, false, false, false, false, false, true] true false (Is.keeps _) (fun _ => Is.keeps _) (by kernel_rfl)
              · intro w1 h1
                have h1 : Ext _ w1 := h1
                simp only [List.nil_append, List.cons_append, List.map_cons, List.map_nil, Sp.pr, Given]
                rintro _ rfl
                have q0 := h1.cell q3
                go_wp2_with fail
                exact Post.isv (Ext.refl _) rfl rfl rfl
              -- 11: Op.binOp BinOp.eql 3 t69 (const (1:i64)) 3
              apply Stage2.step (Is _) true [false, false, false, false, false, false, false, false, false, false, true] true false (Is.keeps _) (fun _ => Is.keeps _) (by kernel_rfl)
              · intro w1 h1
                have h1 : Ext _ w1 := h1
                simp only [List.nil_append, List.cons_append, List.map_cons, List.map_nil, Sp.pr, Given]
                rintro _ rfl
                go_wp2_with fail
                exact Post.isv (Ext.refl _) rfl rfl rfl
              -- 12: Op.build 48 #[(0, t62), (1, t63), (2, t66), (3, t70)]
              apply Stage2.step (Is _) true [false, false, false, true, true, false, false, true, false, false, false, true] true false (Is.keeps _) (fun _ => Is.keeps _) (by kernel_rfl)
              · intro w1 h1
                have h1 : Ext _ w1 := h1
                simp only [List.nil_append, List.cons_append, List.map_cons, List.map_nil, Sp.pr, Given]
                rintro _ rfl
                rintro _ rfl
                rintro _ rfl
                rintro _ rfl
                go_wp2_with fail
                exact Post.isv (Ext.refl _) rfl rfl rfl
              -- 13: Op.buildSlice 27 1 #[(0, t71)]
              apply Stage2.step (MkL [⟨x1, ta, x2, g⟩] 1) false [false, false, false, false, false, false, false, false, false, false, false, false, true] true false (MkL.keeps _ _) (no_keeps) (by kernel_rfl)
              · intro w1 h1
                have h1 : Ext _ w1 := h1
                simp only [List.nil_append, List.cons_append, List.map_cons, List.map_nil, Sp.pr, Given]
                rintro _ rfl
                go_wp2_with fail
                exact ⟨rfl, rfl, Ext.alloc _ _, _, _, rfl, (mk_lit _ ⟨x1, ta, x2, g⟩).lst⟩
              -- 14: Op.call { builtin append, args := #[t59, t72], argTypes := #[27, 27] }
              apply Stage2.step (MkT w.heap.size (k + 1) (out ++ [⟨x1, ta, x2, g⟩])) false [true, false, false, false, false, false, false, false, false, false, false, false, false, true] true true (MkT.keeps _ _ _) (no_keeps) (by kernel_rfl)
              · intro w1 h1
                have h1 : Ext _ w1 := h1
                simp only [List.nil_append, List.cons_append, List.map_cons, List.map_nil, Sp.pr, Given]
                rintro _ rfl
                rintro _ ⟨A3, c3, rfl, h3⟩
                go_wp2_with (
                  at_builtin
                  refine wpList_append_flat2 (w0 := w) mk_rep (fun x cs w h => mk_nop h) rfl _ _ _ _ rfl TMk TMk i0 _ 40 under_mks under_mks hi0 hz0 hz1 hz2 rfl Ao k co out rfl (hown1.ext mk_rep h1) A3 1 c3 [⟨x1, ta, x2, g⟩] rfl h3 (k + 1) rfl _ rfl (by simp only [maxLen]; omega) (by omega) (hx01.trans h1) ?_
                  intro A6 c6 w6 hb6 hx6 hg6)
                exact ⟨rfl, rfl, But.grown (But.refl _ _ _) hg6 (fun g hg => .inr ((hown1.ext mk_rep h1).row_lt g hg).1), _, _, rfl, hb6⟩
              -- 15: Op.assign t73
              apply Stage2.step (MkT w.heap.size (k + 1) (out ++ [⟨x1, ta, x2, g⟩])) false [false, false, false, false, false, false, false, false, false, false, false, false, false, false, true] false false (MkT.keeps _ _ _) (no_keeps) (by kernel_rfl)
              · intro w1 h1
                have h1 : (But w.heap.size (fun _ => False)) _ w1 := h1
                simp only [List.nil_append, List.cons_append, List.map_cons, List.map_nil, Sp.pr, Given]
                rintro v hcp
                go_wp2_with fail
                exact ⟨rfl, rfl, Ext.refl _, hcp⟩
              apply Stage2.nil [true, true, true, true, true, true, true, true, true, true, true, true, true, false, true, true] (by kernel_rfl)
              intro w1 h1
              have h1 : (But w.heap.size (fun _ => False)) _ w1 := h1
              simp only [List.nil_append, List.cons_append, List.map_cons, List.map_nil, Sp.pr]
              refine Fin2.is_ ?_
              refine Fin2.is_ ?_
              refine Fin2.is_ ?_
              refine Fin2.is_ ?_
              refine Fin2.is_ ?_
              refine Fin2.is_ ?_
              refine Fin2.is_ ?_
              refine Fin2.is_ ?_
              refine Fin2.is_ ?_
              refine Fin2.is_ ?_
              refine Fin2.is_ ?_
              refine Fin2.is_ ?_
              refine Fin2.is_ ?_
              refine Fin2.dead_ ?_
              intro dead13
              refine Fin2.step_ ?_
              rintro _ ⟨A6, c6, rfl, h6⟩
              refine Fin2.step_ ?_
              rintro _ ⟨A6, c6, rfl, h6⟩
              refine Fin2.nil_ ?_
              go_simp
              go_wp2_with fail
              go_roundw
              case rel => exact ⟨k + 1, tb, A6, c6, _, by omega, rfl, rfl, by go_num, h6, HN, hx01.but h1 (Nat.le_refl _) (fun _ h => h.elim)⟩
              case measure => simp [intOf]; omega
      · obtain rfl : k = N := by omega
        have hr1 := hrk.out
        rw [Nat.sub_self] at hr1
        obtain rfl : o = some (out, d) := by rw [← hr1]; simp [mksG]
        clear hrk hr1
        go_wp2_with fail
        go_ret3
        exact ⟨_, _, _, rfl, hown, hxr⟩
end Go.Proofs.Ytoeknbogaclfdaa
