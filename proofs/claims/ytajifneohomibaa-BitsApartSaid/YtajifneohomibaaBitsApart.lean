/-
  The walk of one statement of chapter 1.
-/
import Derived.Test.YtajifneohomibaaBitsBack
import Derived.Laws.Strings2
namespace Go.Proofs.Ytajifneohomibaa
open Go.RowKit
set_option linter.unusedVariables false
set_option maxRecDepth 100000

theorem varl_free (n m : Nat) (r : List UInt8) (hn : n < 9223372036854775808) (hm : m < 9223372036854775808) (h : varl m = varl n ++ r) : n = m := by
  have h1 := gv_there [] r n hn
  have h2 := gv_there [] [] m hm
  rw [List.append_nil, List.nil_append, h] at h2
  rw [List.nil_append, h2] at h1
  have := congrArg (fun o => o.map Prod.fst) h1
  simpa using this.symm
theorem varl_inj (n m : Nat) (hn : n < 9223372036854775808) (hm : m < 9223372036854775808) (h : varl m = varl n) : n = m :=
  varl_free n m [] hn hm (by rw [h, List.append_nil])

theorem cut_free (n m : Nat) (V U : List UInt8) (hn : n < 9223372036854775808) (hm : m < 9223372036854775808) (hV : varl n = V) (hU : varl m = U) (h : U.take V.length = V) : n = m := by
  refine varl_free n m (U.drop V.length) hn hm ?_
  rw [hV, hU]
  conv => rhs; lhs; rw [← h]
  exact (List.take_append_drop _ _).symm
theorem text_cut (U V : List UInt8) (h : ¬ U.take V.length = V) : ((({data := U.toArray} : ByteArray).extract 0 V.length).toList == V) = false := by
  rw [ByteArray.extract_mk]
  simp [h]
theorem text_behind (l : List UInt8) : (⟨l.toArray⟩ : ByteArray) ++ ⟨#[9, 9, 9]⟩ = ⟨(l ++ [9, 9, 9]).toArray⟩ := by
  apply ByteArray.ext
  simp

set_option maxHeartbeats 4000000 in
theorem law_BitsApart (n m : Int) (A : Option Addr) (k cp : Nat) (l : List UInt8) (w : World) (hn0 : -9223372036854775808 ≤ n) (hn1 : n ≤ 9223372036854775807) (hm0 : -9223372036854775808 ≤ m) (hm1 : m ≤ 9223372036854775807) (hs : Sl w A k cp l) :
    Calls Try.prog 10 #[.int .i64 n, .int .i64 m, .slice A k cp] w fun e w' => e = .returned (.bool true) ∧ Ext w w' := by
  have h63 := hs.n63
  obtain ⟨i0, hi0, hz0, hz1, hz2⟩ := info_parts info_u8
  by_cases c1 : n < 0
  · go_enter Try.func10, Try.ntmps10
    go_wp2_with fail
    refine (law1_known _).mono ?_
    rintro e w1 ⟨rfl, hx1⟩
    go_wp2_with fail
    go_ret
    exact ⟨rfl, hx1⟩
  by_cases c2 : m < 0
  · go_enter Try.func10, Try.ntmps10
    go_wp2_with fail
    refine (law1_known _).mono ?_
    rintro e w1 ⟨rfl, hx1⟩
    go_wp2_with fail
    go_ret
    exact ⟨rfl, hx1⟩
  by_cases hk : 50 < k
  · go_enter Try.func10, Try.ntmps10
    go_wp2_with fail
    refine (law1_known _).mono ?_
    rintro e w1 ⟨rfl, hx1⟩
    go_wp2_with fail
    go_ret
    exact ⟨rfl, hx1⟩
  obtain ⟨n, rfl⟩ := Int.eq_ofNat_of_zero_le (by omega : 0 ≤ n)
  obtain ⟨m, rfl⟩ := Int.eq_ofNat_of_zero_le (by omega : 0 ≤ m)
  have hn : n < 9223372036854775808 := by omega
  have hm : m < 9223372036854775808 := by omega
  clear hn0 hn1 hm0 hm1 c1 c2
  obtain ⟨V, hV⟩ : ∃ L, varl n = L := ⟨_, rfl⟩
  obtain ⟨U, hU⟩ : ∃ L, varl m = L := ⟨_, rfl⟩
  have HV := Lib.hid hV
  have HU := Lib.hid hU
  clear hV hU
  by_cases hnm : n = m
  · subst hnm
    have huv : V = U := by rw [← HU.out, HV.out]
    subst huv
    go_enter Try.func10, Try.ntmps10
    go_wp2_with fail
    refine wp_region_typed Ext.steady rfl 98 rfl (by kernel_rfl) ?_
    -- 0: Op.move t0
    apply Stage.step (Is _) [] (Is.keeps _) (by kernel_rfl)
    · intro w1 h1
      simp only [Given]
      go_wp2_with fail
      exact Post.isv (Ext.refl _) rfl rfl rfl
    -- 1: Op.call { value (Operand.func 27), args := #[const (Value.slice none 0 0), t22], argTypes := #[22, 3
    apply Stage.step (SlT V) [true] (SlT.keeps _) (by kernel_rfl)
    · intro w1 h1
      simp only [List.nil_append, Given]
      rintro _ rfl
      go_wp2_with fail
      refine (bits_Var none 0 0 [] _ _ (Sl.nil _) (by omega) (by omega)).mono ?_
      rintro e w3 ⟨A3, n3, c3, rfl, hb3, hx3⟩
      rw [List.nil_append, Int.toNat_natCast, HV.out] at hb3
      go_wp2_with fail
      exact ⟨rfl, rfl, hx3, _, _, _, rfl, hb3.sl⟩
    -- 2: Op.convert 22 9 t23
    apply Stage.step (Is (.string ⟨V.toArray⟩)) [false, true] (Is.keeps _) (by kernel_rfl)
    · intro w1 h1
      simp only [List.nil_append, List.cons_append, Given]
      rintro _ ⟨A3, n3, c3, rfl, h3⟩
      have ht := run_text_u8 h3
      go_wp2_with fail
      exact Post.isv (Ext.refl _) rfl rfl rfl
    -- 3: Op.move t1
    apply Stage.step (Is _) [] (Is.keeps _) (by kernel_rfl)
    · intro w1 h1
      simp only [Given]
      go_wp2_with fail
      exact Post.isv (Ext.refl _) rfl rfl rfl
    -- 4: Op.call { value (Operand.func 27), args := #[const (Value.slice none 0 0), t25], argTypes := #[22, 3
    apply Stage.step (SlT V) [false, false, false, true] (SlT.keeps _) (by kernel_rfl)
    · intro w1 h1
      simp only [List.nil_append, List.cons_append, Given]
      rintro _ rfl
      go_wp2_with fail
      refine (bits_Var none 0 0 [] _ _ (Sl.nil _) (by omega) (by omega)).mono ?_
      rintro e w3 ⟨A3, n3, c3, rfl, hb3, hx3⟩
      rw [List.nil_append, Int.toNat_natCast, HU.out] at hb3
      go_wp2_with fail
      exact ⟨rfl, rfl, hx3, _, _, _, rfl, hb3.sl⟩
    -- 5: Op.convert 22 9 t26
    apply Stage.step (Is (.string ⟨V.toArray⟩)) [false, false, false, false, true] (Is.keeps _) (by kernel_rfl)
    · intro w1 h1
      simp only [List.nil_append, List.cons_append, Given]
      rintro _ ⟨A4, n4, c4, rfl, h4⟩
      have ht := run_text_u8 h4
      go_wp2_with fail
      exact Post.isv (Ext.refl _) rfl rfl rfl
    -- 6: Op.assign t24
    apply Stage.step (Is _) [false, false, true] (Is.keeps _) (by kernel_rfl)
    · intro w1 h1
      simp only [List.nil_append, List.cons_append, Given]
      rintro _ rfl
      go_wp2_with fail
      exact Post.isv (Ext.refl _) rfl rfl rfl
    -- 7: Op.assign t27
    apply Stage.step (Is _) [false, false, false, false, false, true] (Is.keeps _) (by kernel_rfl)
    · intro w1 h1
      simp only [List.nil_append, List.cons_append, Given]
      rintro _ rfl
      go_wp2_with fail
      exact Post.isv (Ext.refl _) rfl rfl rfl
    apply Stage.nil
    intro w1 h1
    simp only [List.nil_append, List.cons_append]
    refine Fin.is_ ?_
    refine Fin.step_ ?_
    rintro _ ⟨A3, n3, c3, rfl, h3⟩
    refine Fin.is_ ?_
    refine Fin.is_ ?_
    refine Fin.step_ ?_
    rintro _ ⟨A4, n4, c4, rfl, h4⟩
    refine Fin.is_ ?_
    refine Fin.is_ ?_
    refine Fin.is_ ?_
    refine Fin.nil_ ?_
    go_simp
    go_wp2_with (first | (at_builtin; refine wpList_append_mine _ rfl (.tmp 70) (.tmp 71) _ _ rfl w1.heap.size U8 i0 _ 1 1 under_bytes hi0 hz0 hz1 hz2 rfl _ 0 0 _ rfl (Own.nil _ _ _ _ _) _ rfl k (l.map bv) (((hs.ext h1).ext (Ext.alloc _ _)).src under_bytes) (by simp only [maxLen]; omega) (by omega) (by simp) ?_; intro P cpp wp hown hg _; have hbp : Byt U8 wp w1.heap.size P k cpp l := ⟨hs.len, by simpa using hown⟩; have hxp : Ext w1 wp := below_grown (Ext.alloc w1 _) (Own.nil _ _ U8 1 _) hg (by simp); clear hown hg) | (at_builtin; refine wpList_append_mine _ rfl (.tmp 72) (.tmp 73) _ _ rfl w1.heap.size U8 i0 _ 1 1 under_bytes hi0 hz0 hz1 hz2 rfl P k cpp _ rfl (hbp.own.alloc _) _ rfl 3 (([9, 9, 9] : List UInt8).map bv) ((sl_new wp _ _ _ [9, 9, 9] rfl (by simp [maxLen])).src under_bytes) (by simp only [maxLen]; omega) (by omega) (by have := hxp.size; simp; omega) ?_; intro Q cq wq hownq hgq _; have hcq := hownq.caps.1))
    have hq : Byt U8 wq w1.heap.size Q (k + 3) cq (l ++ [9, 9, 9]) := Byt.more hs.len rfl hownq rfl
    have hxq : Ext w1 wq := below_grown (hxp.trans (Ext.alloc wp _)) (hbp.own.alloc _) hgq (by have := hxp.size; simp; omega)
    clear hownq hgq hbp hxp
    have hsq := hq.sl
    have hcut := hsq.upto (hi := k) (by omega)
    refine (bits_Var Q k cq _ _ _ hcut (by omega) (by omega)).mono ?_
    rintro e w2 ⟨A5, n5, c5, rfl, hb5, hx5⟩
    clear hb5
    go_wp2_with fail
    refine (bits_Put Q k cq _ 77 8 _ (hcut.ext hx5) (by omega) (by omega)).mono ?_
    rintro e w3 ⟨A6, n6, c6, rfl, hb6, hx6⟩
    clear hb6
    go_wp2_with fail
    refine (bits_Text Q k cq _ _ _ (hcut.ext (hx5.trans hx6)) (by omega) (by decide)).mono ?_
    rintro e w4 ⟨A7, n7, c7, rfl, hb7, hx7⟩
    clear hb7
    have hx8 : Ext w w4 := h1.trans (hxq.trans (hx5.trans (hx6.trans hx7)))
    have hs8 := hs.ext hx8
    have hq8 := hsq.ext (hx5.trans (hx6.trans hx7))
    clear h1 hxq hx5 hx6 hx7 hsq hcut hs hq h3 h4
    go_wp2_with fail
    refine wp_region_typed Ext.steady rfl 98 rfl (by kernel_rfl) ?_
    -- 0: Op.move t9
    apply Stage.step (Is _) [] (Is.keeps _) (by kernel_rfl)
    · intro w1 h1
      simp only [Given]
      go_wp2_with fail
      exact Post.isv (Ext.refl _) rfl rfl rfl
    -- 1: Op.move t2
    apply Stage.step (Is _) [] (Is.keeps _) (by kernel_rfl)
    · intro w1 h1
      simp only [Given]
      go_wp2_with fail
      exact Post.isv (Ext.refl _) rfl rfl rfl
    -- 2: Op.call { builtin len, args := #[t86], argTypes := #[22] }
    apply Stage.step (Is _) [false, true] (Is.keeps _) (by kernel_rfl)
    · intro w1 h1
      simp only [List.nil_append, List.cons_append, Given]
      rintro _ rfl
      go_wp2_with fail
      exact Post.isv (Ext.refl _) rfl rfl rfl
    -- 3: Op.binOp BinOp.add 3 t87 (const (3:i64)) 3
    apply Stage.step (Is _) [false, false, true] (Is.keeps _) (by kernel_rfl)
    · intro w1 h1
      simp only [List.nil_append, List.cons_append, Given]
      rintro _ rfl
      go_wp2_with fail
      exact Post.isv (Ext.refl _) rfl rfl rfl
    -- 4: Op.slice 22 t85 none (some t88) none
    apply Stage.step (SlT (l ++ [9, 9, 9])) [true, false, false, true] (SlT.keeps _) (by kernel_rfl)
    · intro w1 h1
      simp only [List.nil_append, List.cons_append, Given]
      rintro _ rfl
      rintro _ rfl
      go_wp2_with fail
      exact ⟨rfl, rfl, Ext.refl _, _, _, _, rfl, hq8.ext h1⟩
    -- 5: Op.convert 22 9 t89
    apply Stage.step (Is (.string ⟨(l ++ [9, 9, 9]).toArray⟩)) [false, false, false, false, true] (Is.keeps _) (by kernel_rfl)
    · intro w1 h1
      simp only [List.nil_append, List.cons_append, Given]
      rintro _ ⟨A9, n9, c9, rfl, h9⟩
      have ht := run_text_u8 h9
      go_wp2_with fail
      exact Post.isv (Ext.refl _) rfl rfl rfl
    -- 6: Op.move t2
    apply Stage.step (Is _) [] (Is.keeps _) (by kernel_rfl)
    · intro w1 h1
      simp only [Given]
      go_wp2_with fail
      exact Post.isv (Ext.refl _) rfl rfl rfl
    -- 7: Op.convert 22 9 t91
    apply Stage.step (Is (.string ⟨l.toArray⟩)) [false, false, false, false, false, false, true] (Is.keeps _) (by kernel_rfl)
    · intro w1 h1
      simp only [List.nil_append, List.cons_append, Given]
      rintro _ rfl
      have ht := run_text_u8 (hs8.ext h1)
      go_wp2_with fail
      exact Post.isv (Ext.refl _) rfl rfl rfl
    -- 8: Op.binOp BinOp.add 9 t92 (const (Value.string { data := #[9, 9, 9] })) 9
    apply Stage.step (Is (.string ⟨(l ++ [9, 9, 9]).toArray⟩)) [false, false, false, false, false, false, false, true] (Is.keeps _) (by kernel_rfl)
    · intro w1 h1
      simp only [List.nil_append, List.cons_append, Given]
      rintro _ rfl
      have ht := text_behind l
      have hll := hs8.len
      go_wp2_with fail
      exact Post.isv (Ext.refl _) rfl rfl rfl
    -- 9: Op.binOp BinOp.eql 9 t90 t93 9
    apply Stage.step (Is _) [false, false, false, false, false, true, false, false, true] (Is.keeps _) (by kernel_rfl)
    · intro w1 h1
      simp only [List.nil_append, List.cons_append, Given]
      rintro _ rfl
      rintro _ rfl
      go_wp2_with fail
      exact Post.isv (Ext.refl _) rfl rfl rfl
    -- 10: Op.move t94
    apply Stage.step (Is _) [false, false, false, false, false, false, false, false, false, true] (Is.keeps _) (by kernel_rfl)
    · intro w1 h1
      simp only [List.nil_append, List.cons_append, Given]
      rintro _ rfl
      go_wp2_with fail
      exact Post.isv (Ext.refl _) rfl rfl rfl
    -- 11: Op.call { value (Operand.func 28), args := #[], argTypes := #[] }   [guarded: some (10, true)]
    apply Stage.step (Is (.bool true)) [false, false, false, false, false, false, false, false, false, false, true] (Is.keeps _) (by kernel_rfl)
    · intro w1 h1
      simp only [List.nil_append, List.cons_append, Given]
      rintro _ rfl
      go_wp2_with fail
      refine (law1_known _).mono ?_
      rintro e w2 ⟨rfl, hx5⟩
      go_wp2_with fail
      exact Post.isv hx5 rfl rfl rfl
    -- 12: Op.pick t95 t96 (const (Value.bool false))
    apply Stage.step (Is _) [false, false, false, false, false, false, false, false, false, false, true, true] (Is.keeps _) (by kernel_rfl)
    · intro w1 h1
      simp only [List.nil_append, List.cons_append, Given]
      rintro _ rfl
      rintro _ rfl
      go_wp2_with fail
      exact Post.isv (Ext.refl _) rfl rfl rfl
    -- 13: Op.assign t97
    apply Stage.step (Is _) [false, false, false, false, false, false, false, false, false, false, false, false, true] (Is.keeps _) (by kernel_rfl)
    · intro w1 h1
      simp only [List.nil_append, List.cons_append, Given]
      rintro _ rfl
      go_wp2_with fail
      exact Post.isv (Ext.refl _) rfl rfl rfl
    apply Stage.nil
    intro w1 h1
    simp only [List.nil_append, List.cons_append]
    refine Fin.is_ ?_
    refine Fin.is_ ?_
    refine Fin.is_ ?_
    refine Fin.is_ ?_
    refine Fin.step_ ?_
    rintro _ ⟨A9, n9, c9, rfl, h9⟩
    refine Fin.is_ ?_
    refine Fin.is_ ?_
    refine Fin.is_ ?_
    refine Fin.is_ ?_
    refine Fin.is_ ?_
    refine Fin.is_ ?_
    refine Fin.is_ ?_
    refine Fin.is_ ?_
    refine Fin.is_ ?_
    refine Fin.nil_ ?_
    go_simp
    go_wp2_with fail
    go_ret
    exact ⟨rfl, hx8.trans h1⟩
  have e1 : (V == U) = false := by
    simp only [beq_eq_false_iff_ne]
    intro h
    exact hnm (varl_inj n m hn hm (by rw [HU.out, HV.out, h]))
  have e2 : ((n : Int) == (m : Int)) = false := by simp; omega
  have e5 : ((n : Int) != (m : Int)) = true := by simp; omega
  have e3 : ((({data := U.toArray} : ByteArray).extract 0 V.length).toList == V) = false := text_cut U V fun h => hnm (cut_free n m V U hn hm HV.out HU.out h)
  have e4 : ((({data := V.toArray} : ByteArray).extract 0 U.length).toList == U) = false := text_cut V U fun h => hnm (cut_free m n U V hm hn HU.out HV.out h).symm
  by_cases f1 : V.length ≤ U.length
  · by_cases f2 : U.length ≤ V.length
    · skip
      go_enter Try.func10, Try.ntmps10
      go_wp2_with fail
      refine wp_region_typed Ext.steady rfl 98 rfl (by kernel_rfl) ?_
      -- 0: Op.move t0
      apply Stage.step (Is _) [] (Is.keeps _) (by kernel_rfl)
      · intro w1 h1
        simp only [Given]
        go_wp2_with fail
        exact Post.isv (Ext.refl _) rfl rfl rfl
      -- 1: Op.call { value (Operand.func 27), args := #[const (Value.slice none 0 0), t22], argTypes := #[22, 3
      apply Stage.step (SlT V) [true] (SlT.keeps _) (by kernel_rfl)
      · intro w1 h1
        simp only [List.nil_append, Given]
        rintro _ rfl
        go_wp2_with fail
        refine (bits_Var none 0 0 [] _ _ (Sl.nil _) (by omega) (by omega)).mono ?_
        rintro e w3 ⟨A3, n3, c3, rfl, hb3, hx3⟩
        rw [List.nil_append, Int.toNat_natCast, HV.out] at hb3
        go_wp2_with fail
        exact ⟨rfl, rfl, hx3, _, _, _, rfl, hb3.sl⟩
      -- 2: Op.convert 22 9 t23
      apply Stage.step (Is (.string ⟨V.toArray⟩)) [false, true] (Is.keeps _) (by kernel_rfl)
      · intro w1 h1
        simp only [List.nil_append, List.cons_append, Given]
        rintro _ ⟨A3, n3, c3, rfl, h3⟩
        have ht := run_text_u8 h3
        go_wp2_with fail
        exact Post.isv (Ext.refl _) rfl rfl rfl
      -- 3: Op.move t1
      apply Stage.step (Is _) [] (Is.keeps _) (by kernel_rfl)
      · intro w1 h1
        simp only [Given]
        go_wp2_with fail
        exact Post.isv (Ext.refl _) rfl rfl rfl
      -- 4: Op.call { value (Operand.func 27), args := #[const (Value.slice none 0 0), t25], argTypes := #[22, 3
      apply Stage.step (SlT U) [false, false, false, true] (SlT.keeps _) (by kernel_rfl)
      · intro w1 h1
        simp only [List.nil_append, List.cons_append, Given]
        rintro _ rfl
        go_wp2_with fail
        refine (bits_Var none 0 0 [] _ _ (Sl.nil _) (by omega) (by omega)).mono ?_
        rintro e w3 ⟨A3, n3, c3, rfl, hb3, hx3⟩
        rw [List.nil_append, Int.toNat_natCast, HU.out] at hb3
        go_wp2_with fail
        exact ⟨rfl, rfl, hx3, _, _, _, rfl, hb3.sl⟩
      -- 5: Op.convert 22 9 t26
      apply Stage.step (Is (.string ⟨U.toArray⟩)) [false, false, false, false, true] (Is.keeps _) (by kernel_rfl)
      · intro w1 h1
        simp only [List.nil_append, List.cons_append, Given]
        rintro _ ⟨A4, n4, c4, rfl, h4⟩
        have ht := run_text_u8 h4
        go_wp2_with fail
        exact Post.isv (Ext.refl _) rfl rfl rfl
      -- 6: Op.assign t24
      apply Stage.step (Is _) [false, false, true] (Is.keeps _) (by kernel_rfl)
      · intro w1 h1
        simp only [List.nil_append, List.cons_append, Given]
        rintro _ rfl
        go_wp2_with fail
        exact Post.isv (Ext.refl _) rfl rfl rfl
      -- 7: Op.assign t27
      apply Stage.step (Is _) [false, false, false, false, false, true] (Is.keeps _) (by kernel_rfl)
      · intro w1 h1
        simp only [List.nil_append, List.cons_append, Given]
        rintro _ rfl
        go_wp2_with fail
        exact Post.isv (Ext.refl _) rfl rfl rfl
      apply Stage.nil
      intro w1 h1
      simp only [List.nil_append, List.cons_append]
      refine Fin.is_ ?_
      refine Fin.step_ ?_
      rintro _ ⟨A3, n3, c3, rfl, h3⟩
      refine Fin.is_ ?_
      refine Fin.is_ ?_
      refine Fin.step_ ?_
      rintro _ ⟨A4, n4, c4, rfl, h4⟩
      refine Fin.is_ ?_
      refine Fin.is_ ?_
      refine Fin.is_ ?_
      refine Fin.nil_ ?_
      go_simp
      go_wp2_with (first | (at_builtin; refine wpList_append_mine _ rfl (.tmp 70) (.tmp 71) _ _ rfl w1.heap.size U8 i0 _ 1 1 under_bytes hi0 hz0 hz1 hz2 rfl _ 0 0 _ rfl (Own.nil _ _ _ _ _) _ rfl k (l.map bv) (((hs.ext h1).ext (Ext.alloc _ _)).src under_bytes) (by simp only [maxLen]; omega) (by omega) (by simp) ?_; intro P cpp wp hown hg _; have hbp : Byt U8 wp w1.heap.size P k cpp l := ⟨hs.len, by simpa using hown⟩; have hxp : Ext w1 wp := below_grown (Ext.alloc w1 _) (Own.nil _ _ U8 1 _) hg (by simp); clear hown hg) | (at_builtin; refine wpList_append_mine _ rfl (.tmp 72) (.tmp 73) _ _ rfl w1.heap.size U8 i0 _ 1 1 under_bytes hi0 hz0 hz1 hz2 rfl P k cpp _ rfl (hbp.own.alloc _) _ rfl 3 (([9, 9, 9] : List UInt8).map bv) ((sl_new wp _ _ _ [9, 9, 9] rfl (by simp [maxLen])).src under_bytes) (by simp only [maxLen]; omega) (by omega) (by have := hxp.size; simp; omega) ?_; intro Q cq wq hownq hgq _; have hcq := hownq.caps.1))
      have hq : Byt U8 wq w1.heap.size Q (k + 3) cq (l ++ [9, 9, 9]) := Byt.more hs.len rfl hownq rfl
      have hxq : Ext w1 wq := below_grown (hxp.trans (Ext.alloc wp _)) (hbp.own.alloc _) hgq (by have := hxp.size; simp; omega)
      clear hownq hgq hbp hxp
      have hsq := hq.sl
      have hcut := hsq.upto (hi := k) (by omega)
      refine (bits_Var Q k cq _ _ _ hcut (by omega) (by omega)).mono ?_
      rintro e w2 ⟨A5, n5, c5, rfl, hb5, hx5⟩
      clear hb5
      go_wp2_with fail
      refine (bits_Put Q k cq _ 77 8 _ (hcut.ext hx5) (by omega) (by omega)).mono ?_
      rintro e w3 ⟨A6, n6, c6, rfl, hb6, hx6⟩
      clear hb6
      go_wp2_with fail
      refine (bits_Text Q k cq _ _ _ (hcut.ext (hx5.trans hx6)) (by omega) (by decide)).mono ?_
      rintro e w4 ⟨A7, n7, c7, rfl, hb7, hx7⟩
      clear hb7
      have hx8 : Ext w w4 := h1.trans (hxq.trans (hx5.trans (hx6.trans hx7)))
      have hs8 := hs.ext hx8
      have hq8 := hsq.ext (hx5.trans (hx6.trans hx7))
      clear h1 hxq hx5 hx6 hx7 hsq hcut hs hq h3 h4
      go_wp2_with fail
      refine wp_region_typed Ext.steady rfl 98 rfl (by kernel_rfl) ?_
      -- 0: Op.move t9
      apply Stage.step (Is _) [] (Is.keeps _) (by kernel_rfl)
      · intro w1 h1
        simp only [Given]
        go_wp2_with fail
        exact Post.isv (Ext.refl _) rfl rfl rfl
      -- 1: Op.move t2
      apply Stage.step (Is _) [] (Is.keeps _) (by kernel_rfl)
      · intro w1 h1
        simp only [Given]
        go_wp2_with fail
        exact Post.isv (Ext.refl _) rfl rfl rfl
      -- 2: Op.call { builtin len, args := #[t86], argTypes := #[22] }
      apply Stage.step (Is _) [false, true] (Is.keeps _) (by kernel_rfl)
      · intro w1 h1
        simp only [List.nil_append, List.cons_append, Given]
        rintro _ rfl
        go_wp2_with fail
        exact Post.isv (Ext.refl _) rfl rfl rfl
      -- 3: Op.binOp BinOp.add 3 t87 (const (3:i64)) 3
      apply Stage.step (Is _) [false, false, true] (Is.keeps _) (by kernel_rfl)
      · intro w1 h1
        simp only [List.nil_append, List.cons_append, Given]
        rintro _ rfl
        go_wp2_with fail
        exact Post.isv (Ext.refl _) rfl rfl rfl
      -- 4: Op.slice 22 t85 none (some t88) none
      apply Stage.step (SlT (l ++ [9, 9, 9])) [true, false, false, true] (SlT.keeps _) (by kernel_rfl)
      · intro w1 h1
        simp only [List.nil_append, List.cons_append, Given]
        rintro _ rfl
        rintro _ rfl
        go_wp2_with fail
        exact ⟨rfl, rfl, Ext.refl _, _, _, _, rfl, hq8.ext h1⟩
      -- 5: Op.convert 22 9 t89
      apply Stage.step (Is (.string ⟨(l ++ [9, 9, 9]).toArray⟩)) [false, false, false, false, true] (Is.keeps _) (by kernel_rfl)
      · intro w1 h1
        simp only [List.nil_append, List.cons_append, Given]
        rintro _ ⟨A9, n9, c9, rfl, h9⟩
        have ht := run_text_u8 h9
        go_wp2_with fail
        exact Post.isv (Ext.refl _) rfl rfl rfl
      -- 6: Op.move t2
      apply Stage.step (Is _) [] (Is.keeps _) (by kernel_rfl)
      · intro w1 h1
        simp only [Given]
        go_wp2_with fail
        exact Post.isv (Ext.refl _) rfl rfl rfl
      -- 7: Op.convert 22 9 t91
      apply Stage.step (Is (.string ⟨l.toArray⟩)) [false, false, false, false, false, false, true] (Is.keeps _) (by kernel_rfl)
      · intro w1 h1
        simp only [List.nil_append, List.cons_append, Given]
        rintro _ rfl
        have ht := run_text_u8 (hs8.ext h1)
        go_wp2_with fail
        exact Post.isv (Ext.refl _) rfl rfl rfl
      -- 8: Op.binOp BinOp.add 9 t92 (const (Value.string { data := #[9, 9, 9] })) 9
      apply Stage.step (Is (.string ⟨(l ++ [9, 9, 9]).toArray⟩)) [false, false, false, false, false, false, false, true] (Is.keeps _) (by kernel_rfl)
      · intro w1 h1
        simp only [List.nil_append, List.cons_append, Given]
        rintro _ rfl
        have ht := text_behind l
        have hll := hs8.len
        go_wp2_with fail
        exact Post.isv (Ext.refl _) rfl rfl rfl
      -- 9: Op.binOp BinOp.eql 9 t90 t93 9
      apply Stage.step (Is _) [false, false, false, false, false, true, false, false, true] (Is.keeps _) (by kernel_rfl)
      · intro w1 h1
        simp only [List.nil_append, List.cons_append, Given]
        rintro _ rfl
        rintro _ rfl
        go_wp2_with fail
        exact Post.isv (Ext.refl _) rfl rfl rfl
      -- 10: Op.move t94
      apply Stage.step (Is _) [false, false, false, false, false, false, false, false, false, true] (Is.keeps _) (by kernel_rfl)
      · intro w1 h1
        simp only [List.nil_append, List.cons_append, Given]
        rintro _ rfl
        go_wp2_with fail
        exact Post.isv (Ext.refl _) rfl rfl rfl
      -- 11: Op.call { value (Operand.func 28), args := #[], argTypes := #[] }   [guarded: some (10, true)]
      apply Stage.step (Is (.bool true)) [false, false, false, false, false, false, false, false, false, false, true] (Is.keeps _) (by kernel_rfl)
      · intro w1 h1
        simp only [List.nil_append, List.cons_append, Given]
        rintro _ rfl
        go_wp2_with fail
        refine (law1_known _).mono ?_
        rintro e w2 ⟨rfl, hx5⟩
        go_wp2_with fail
        exact Post.isv hx5 rfl rfl rfl
      -- 12: Op.pick t95 t96 (const (Value.bool false))
      apply Stage.step (Is _) [false, false, false, false, false, false, false, false, false, false, true, true] (Is.keeps _) (by kernel_rfl)
      · intro w1 h1
        simp only [List.nil_append, List.cons_append, Given]
        rintro _ rfl
        rintro _ rfl
        go_wp2_with fail
        exact Post.isv (Ext.refl _) rfl rfl rfl
      -- 13: Op.assign t97
      apply Stage.step (Is _) [false, false, false, false, false, false, false, false, false, false, false, false, true] (Is.keeps _) (by kernel_rfl)
      · intro w1 h1
        simp only [List.nil_append, List.cons_append, Given]
        rintro _ rfl
        go_wp2_with fail
        exact Post.isv (Ext.refl _) rfl rfl rfl
      apply Stage.nil
      intro w1 h1
      simp only [List.nil_append, List.cons_append]
      refine Fin.is_ ?_
      refine Fin.is_ ?_
      refine Fin.is_ ?_
      refine Fin.is_ ?_
      refine Fin.step_ ?_
      rintro _ ⟨A9, n9, c9, rfl, h9⟩
      refine Fin.is_ ?_
      refine Fin.is_ ?_
      refine Fin.is_ ?_
      refine Fin.is_ ?_
      refine Fin.is_ ?_
      refine Fin.is_ ?_
      refine Fin.is_ ?_
      refine Fin.is_ ?_
      refine Fin.is_ ?_
      refine Fin.nil_ ?_
      go_simp
      go_wp2_with fail
      go_ret
      exact ⟨rfl, hx8.trans h1⟩
    · skip
      go_enter Try.func10, Try.ntmps10
      go_wp2_with fail
      refine wp_region_typed Ext.steady rfl 98 rfl (by kernel_rfl) ?_
      -- 0: Op.move t0
      apply Stage.step (Is _) [] (Is.keeps _) (by kernel_rfl)
      · intro w1 h1
        simp only [Given]
        go_wp2_with fail
        exact Post.isv (Ext.refl _) rfl rfl rfl
      -- 1: Op.call { value (Operand.func 27), args := #[const (Value.slice none 0 0), t22], argTypes := #[22, 3
      apply Stage.step (SlT V) [true] (SlT.keeps _) (by kernel_rfl)
      · intro w1 h1
        simp only [List.nil_append, Given]
        rintro _ rfl
        go_wp2_with fail
        refine (bits_Var none 0 0 [] _ _ (Sl.nil _) (by omega) (by omega)).mono ?_
        rintro e w3 ⟨A3, n3, c3, rfl, hb3, hx3⟩
        rw [List.nil_append, Int.toNat_natCast, HV.out] at hb3
        go_wp2_with fail
        exact ⟨rfl, rfl, hx3, _, _, _, rfl, hb3.sl⟩
      -- 2: Op.convert 22 9 t23
      apply Stage.step (Is (.string ⟨V.toArray⟩)) [false, true] (Is.keeps _) (by kernel_rfl)
      · intro w1 h1
        simp only [List.nil_append, List.cons_append, Given]
        rintro _ ⟨A3, n3, c3, rfl, h3⟩
        have ht := run_text_u8 h3
        go_wp2_with fail
        exact Post.isv (Ext.refl _) rfl rfl rfl
      -- 3: Op.move t1
      apply Stage.step (Is _) [] (Is.keeps _) (by kernel_rfl)
      · intro w1 h1
        simp only [Given]
        go_wp2_with fail
        exact Post.isv (Ext.refl _) rfl rfl rfl
      -- 4: Op.call { value (Operand.func 27), args := #[const (Value.slice none 0 0), t25], argTypes := #[22, 3
      apply Stage.step (SlT U) [false, false, false, true] (SlT.keeps _) (by kernel_rfl)
      · intro w1 h1
        simp only [List.nil_append, List.cons_append, Given]
        rintro _ rfl
        go_wp2_with fail
        refine (bits_Var none 0 0 [] _ _ (Sl.nil _) (by omega) (by omega)).mono ?_
        rintro e w3 ⟨A3, n3, c3, rfl, hb3, hx3⟩
        rw [List.nil_append, Int.toNat_natCast, HU.out] at hb3
        go_wp2_with fail
        exact ⟨rfl, rfl, hx3, _, _, _, rfl, hb3.sl⟩
      -- 5: Op.convert 22 9 t26
      apply Stage.step (Is (.string ⟨U.toArray⟩)) [false, false, false, false, true] (Is.keeps _) (by kernel_rfl)
      · intro w1 h1
        simp only [List.nil_append, List.cons_append, Given]
        rintro _ ⟨A4, n4, c4, rfl, h4⟩
        have ht := run_text_u8 h4
        go_wp2_with fail
        exact Post.isv (Ext.refl _) rfl rfl rfl
      -- 6: Op.assign t24
      apply Stage.step (Is _) [false, false, true] (Is.keeps _) (by kernel_rfl)
      · intro w1 h1
        simp only [List.nil_append, List.cons_append, Given]
        rintro _ rfl
        go_wp2_with fail
        exact Post.isv (Ext.refl _) rfl rfl rfl
      -- 7: Op.assign t27
      apply Stage.step (Is _) [false, false, false, false, false, true] (Is.keeps _) (by kernel_rfl)
      · intro w1 h1
        simp only [List.nil_append, List.cons_append, Given]
        rintro _ rfl
        go_wp2_with fail
        exact Post.isv (Ext.refl _) rfl rfl rfl
      apply Stage.nil
      intro w1 h1
      simp only [List.nil_append, List.cons_append]
      refine Fin.is_ ?_
      refine Fin.step_ ?_
      rintro _ ⟨A3, n3, c3, rfl, h3⟩
      refine Fin.is_ ?_
      refine Fin.is_ ?_
      refine Fin.step_ ?_
      rintro _ ⟨A4, n4, c4, rfl, h4⟩
      refine Fin.is_ ?_
      refine Fin.is_ ?_
      refine Fin.is_ ?_
      refine Fin.nil_ ?_
      go_simp
      go_wp2_with (first | (at_builtin; refine wpList_append_mine _ rfl (.tmp 70) (.tmp 71) _ _ rfl w1.heap.size U8 i0 _ 1 1 under_bytes hi0 hz0 hz1 hz2 rfl _ 0 0 _ rfl (Own.nil _ _ _ _ _) _ rfl k (l.map bv) (((hs.ext h1).ext (Ext.alloc _ _)).src under_bytes) (by simp only [maxLen]; omega) (by omega) (by simp) ?_; intro P cpp wp hown hg _; have hbp : Byt U8 wp w1.heap.size P k cpp l := ⟨hs.len, by simpa using hown⟩; have hxp : Ext w1 wp := below_grown (Ext.alloc w1 _) (Own.nil _ _ U8 1 _) hg (by simp); clear hown hg) | (at_builtin; refine wpList_append_mine _ rfl (.tmp 72) (.tmp 73) _ _ rfl w1.heap.size U8 i0 _ 1 1 under_bytes hi0 hz0 hz1 hz2 rfl P k cpp _ rfl (hbp.own.alloc _) _ rfl 3 (([9, 9, 9] : List UInt8).map bv) ((sl_new wp _ _ _ [9, 9, 9] rfl (by simp [maxLen])).src under_bytes) (by simp only [maxLen]; omega) (by omega) (by have := hxp.size; simp; omega) ?_; intro Q cq wq hownq hgq _; have hcq := hownq.caps.1))
      have hq : Byt U8 wq w1.heap.size Q (k + 3) cq (l ++ [9, 9, 9]) := Byt.more hs.len rfl hownq rfl
      have hxq : Ext w1 wq := below_grown (hxp.trans (Ext.alloc wp _)) (hbp.own.alloc _) hgq (by have := hxp.size; simp; omega)
      clear hownq hgq hbp hxp
      have hsq := hq.sl
      have hcut := hsq.upto (hi := k) (by omega)
      refine (bits_Var Q k cq _ _ _ hcut (by omega) (by omega)).mono ?_
      rintro e w2 ⟨A5, n5, c5, rfl, hb5, hx5⟩
      clear hb5
      go_wp2_with fail
      refine (bits_Put Q k cq _ 77 8 _ (hcut.ext hx5) (by omega) (by omega)).mono ?_
      rintro e w3 ⟨A6, n6, c6, rfl, hb6, hx6⟩
      clear hb6
      go_wp2_with fail
      refine (bits_Text Q k cq _ _ _ (hcut.ext (hx5.trans hx6)) (by omega) (by decide)).mono ?_
      rintro e w4 ⟨A7, n7, c7, rfl, hb7, hx7⟩
      clear hb7
      have hx8 : Ext w w4 := h1.trans (hxq.trans (hx5.trans (hx6.trans hx7)))
      have hs8 := hs.ext hx8
      have hq8 := hsq.ext (hx5.trans (hx6.trans hx7))
      clear h1 hxq hx5 hx6 hx7 hsq hcut hs hq h3 h4
      go_wp2_with fail
      refine wp_region_typed Ext.steady rfl 98 rfl (by kernel_rfl) ?_
      -- 0: Op.move t9
      apply Stage.step (Is _) [] (Is.keeps _) (by kernel_rfl)
      · intro w1 h1
        simp only [Given]
        go_wp2_with fail
        exact Post.isv (Ext.refl _) rfl rfl rfl
      -- 1: Op.move t2
      apply Stage.step (Is _) [] (Is.keeps _) (by kernel_rfl)
      · intro w1 h1
        simp only [Given]
        go_wp2_with fail
        exact Post.isv (Ext.refl _) rfl rfl rfl
      -- 2: Op.call { builtin len, args := #[t86], argTypes := #[22] }
      apply Stage.step (Is _) [false, true] (Is.keeps _) (by kernel_rfl)
      · intro w1 h1
        simp only [List.nil_append, List.cons_append, Given]
        rintro _ rfl
        go_wp2_with fail
        exact Post.isv (Ext.refl _) rfl rfl rfl
      -- 3: Op.binOp BinOp.add 3 t87 (const (3:i64)) 3
      apply Stage.step (Is _) [false, false, true] (Is.keeps _) (by kernel_rfl)
      · intro w1 h1
        simp only [List.nil_append, List.cons_append, Given]
        rintro _ rfl
        go_wp2_with fail
        exact Post.isv (Ext.refl _) rfl rfl rfl
      -- 4: Op.slice 22 t85 none (some t88) none
      apply Stage.step (SlT (l ++ [9, 9, 9])) [true, false, false, true] (SlT.keeps _) (by kernel_rfl)
      · intro w1 h1
        simp only [List.nil_append, List.cons_append, Given]
        rintro _ rfl
        rintro _ rfl
        go_wp2_with fail
        exact ⟨rfl, rfl, Ext.refl _, _, _, _, rfl, hq8.ext h1⟩
      -- 5: Op.convert 22 9 t89
      apply Stage.step (Is (.string ⟨(l ++ [9, 9, 9]).toArray⟩)) [false, false, false, false, true] (Is.keeps _) (by kernel_rfl)
      · intro w1 h1
        simp only [List.nil_append, List.cons_append, Given]
        rintro _ ⟨A9, n9, c9, rfl, h9⟩
        have ht := run_text_u8 h9
        go_wp2_with fail
        exact Post.isv (Ext.refl _) rfl rfl rfl
      -- 6: Op.move t2
      apply Stage.step (Is _) [] (Is.keeps _) (by kernel_rfl)
      · intro w1 h1
        simp only [Given]
        go_wp2_with fail
        exact Post.isv (Ext.refl _) rfl rfl rfl
      -- 7: Op.convert 22 9 t91
      apply Stage.step (Is (.string ⟨l.toArray⟩)) [false, false, false, false, false, false, true] (Is.keeps _) (by kernel_rfl)
      · intro w1 h1
        simp only [List.nil_append, List.cons_append, Given]
        rintro _ rfl
        have ht := run_text_u8 (hs8.ext h1)
        go_wp2_with fail
        exact Post.isv (Ext.refl _) rfl rfl rfl
      -- 8: Op.binOp BinOp.add 9 t92 (const (Value.string { data := #[9, 9, 9] })) 9
      apply Stage.step (Is (.string ⟨(l ++ [9, 9, 9]).toArray⟩)) [false, false, false, false, false, false, false, true] (Is.keeps _) (by kernel_rfl)
      · intro w1 h1
        simp only [List.nil_append, List.cons_append, Given]
        rintro _ rfl
        have ht := text_behind l
        have hll := hs8.len
        go_wp2_with fail
        exact Post.isv (Ext.refl _) rfl rfl rfl
      -- 9: Op.binOp BinOp.eql 9 t90 t93 9
      apply Stage.step (Is _) [false, false, false, false, false, true, false, false, true] (Is.keeps _) (by kernel_rfl)
      · intro w1 h1
        simp only [List.nil_append, List.cons_append, Given]
        rintro _ rfl
        rintro _ rfl
        go_wp2_with fail
        exact Post.isv (Ext.refl _) rfl rfl rfl
      -- 10: Op.move t94
      apply Stage.step (Is _) [false, false, false, false, false, false, false, false, false, true] (Is.keeps _) (by kernel_rfl)
      · intro w1 h1
        simp only [List.nil_append, List.cons_append, Given]
        rintro _ rfl
        go_wp2_with fail
        exact Post.isv (Ext.refl _) rfl rfl rfl
      -- 11: Op.call { value (Operand.func 28), args := #[], argTypes := #[] }   [guarded: some (10, true)]
      apply Stage.step (Is (.bool true)) [false, false, false, false, false, false, false, false, false, false, true] (Is.keeps _) (by kernel_rfl)
      · intro w1 h1
        simp only [List.nil_append, List.cons_append, Given]
        rintro _ rfl
        go_wp2_with fail
        refine (law1_known _).mono ?_
        rintro e w2 ⟨rfl, hx5⟩
        go_wp2_with fail
        exact Post.isv hx5 rfl rfl rfl
      -- 12: Op.pick t95 t96 (const (Value.bool false))
      apply Stage.step (Is _) [false, false, false, false, false, false, false, false, false, false, true, true] (Is.keeps _) (by kernel_rfl)
      · intro w1 h1
        simp only [List.nil_append, List.cons_append, Given]
        rintro _ rfl
        rintro _ rfl
        go_wp2_with fail
        exact Post.isv (Ext.refl _) rfl rfl rfl
      -- 13: Op.assign t97
      apply Stage.step (Is _) [false, false, false, false, false, false, false, false, false, false, false, false, true] (Is.keeps _) (by kernel_rfl)
      · intro w1 h1
        simp only [List.nil_append, List.cons_append, Given]
        rintro _ rfl
        go_wp2_with fail
        exact Post.isv (Ext.refl _) rfl rfl rfl
      apply Stage.nil
      intro w1 h1
      simp only [List.nil_append, List.cons_append]
      refine Fin.is_ ?_
      refine Fin.is_ ?_
      refine Fin.is_ ?_
      refine Fin.is_ ?_
      refine Fin.step_ ?_
      rintro _ ⟨A9, n9, c9, rfl, h9⟩
      refine Fin.is_ ?_
      refine Fin.is_ ?_
      refine Fin.is_ ?_
      refine Fin.is_ ?_
      refine Fin.is_ ?_
      refine Fin.is_ ?_
      refine Fin.is_ ?_
      refine Fin.is_ ?_
      refine Fin.is_ ?_
      refine Fin.nil_ ?_
      go_simp
      go_wp2_with fail
      go_ret
      exact ⟨rfl, hx8.trans h1⟩
  · skip
    go_enter Try.func10, Try.ntmps10
    go_wp2_with fail
    refine wp_region_typed Ext.steady rfl 98 rfl (by kernel_rfl) ?_
    -- 0: Op.move t0
    apply Stage.step (Is _) [] (Is.keeps _) (by kernel_rfl)
    · intro w1 h1
      simp only [Given]
      go_wp2_with fail
      exact Post.isv (Ext.refl _) rfl rfl rfl
    -- 1: Op.call { value (Operand.func 27), args := #[const (Value.slice none 0 0), t22], argTypes := #[22, 3
    apply Stage.step (SlT V) [true] (SlT.keeps _) (by kernel_rfl)
    · intro w1 h1
      simp only [List.nil_append, Given]
      rintro _ rfl
      go_wp2_with fail
      refine (bits_Var none 0 0 [] _ _ (Sl.nil _) (by omega) (by omega)).mono ?_
      rintro e w3 ⟨A3, n3, c3, rfl, hb3, hx3⟩
      rw [List.nil_append, Int.toNat_natCast, HV.out] at hb3
      go_wp2_with fail
      exact ⟨rfl, rfl, hx3, _, _, _, rfl, hb3.sl⟩
    -- 2: Op.convert 22 9 t23
    apply Stage.step (Is (.string ⟨V.toArray⟩)) [false, true] (Is.keeps _) (by kernel_rfl)
    · intro w1 h1
      simp only [List.nil_append, List.cons_append, Given]
      rintro _ ⟨A3, n3, c3, rfl, h3⟩
      have ht := run_text_u8 h3
      go_wp2_with fail
      exact Post.isv (Ext.refl _) rfl rfl rfl
    -- 3: Op.move t1
    apply Stage.step (Is _) [] (Is.keeps _) (by kernel_rfl)
    · intro w1 h1
      simp only [Given]
      go_wp2_with fail
      exact Post.isv (Ext.refl _) rfl rfl rfl
    -- 4: Op.call { value (Operand.func 27), args := #[const (Value.slice none 0 0), t25], argTypes := #[22, 3
    apply Stage.step (SlT U) [false, false, false, true] (SlT.keeps _) (by kernel_rfl)
    · intro w1 h1
      simp only [List.nil_append, List.cons_append, Given]
      rintro _ rfl
      go_wp2_with fail
      refine (bits_Var none 0 0 [] _ _ (Sl.nil _) (by omega) (by omega)).mono ?_
      rintro e w3 ⟨A3, n3, c3, rfl, hb3, hx3⟩
      rw [List.nil_append, Int.toNat_natCast, HU.out] at hb3
      go_wp2_with fail
      exact ⟨rfl, rfl, hx3, _, _, _, rfl, hb3.sl⟩
    -- 5: Op.convert 22 9 t26
    apply Stage.step (Is (.string ⟨U.toArray⟩)) [false, false, false, false, true] (Is.keeps _) (by kernel_rfl)
    · intro w1 h1
      simp only [List.nil_append, List.cons_append, Given]
      rintro _ ⟨A4, n4, c4, rfl, h4⟩
      have ht := run_text_u8 h4
      go_wp2_with fail
      exact Post.isv (Ext.refl _) rfl rfl rfl
    -- 6: Op.assign t24
    apply Stage.step (Is _) [false, false, true] (Is.keeps _) (by kernel_rfl)
    · intro w1 h1
      simp only [List.nil_append, List.cons_append, Given]
      rintro _ rfl
      go_wp2_with fail
      exact Post.isv (Ext.refl _) rfl rfl rfl
    -- 7: Op.assign t27
    apply Stage.step (Is _) [false, false, false, false, false, true] (Is.keeps _) (by kernel_rfl)
    · intro w1 h1
      simp only [List.nil_append, List.cons_append, Given]
      rintro _ rfl
      go_wp2_with fail
      exact Post.isv (Ext.refl _) rfl rfl rfl
    apply Stage.nil
    intro w1 h1
    simp only [List.nil_append, List.cons_append]
    refine Fin.is_ ?_
    refine Fin.step_ ?_
    rintro _ ⟨A3, n3, c3, rfl, h3⟩
    refine Fin.is_ ?_
    refine Fin.is_ ?_
    refine Fin.step_ ?_
    rintro _ ⟨A4, n4, c4, rfl, h4⟩
    refine Fin.is_ ?_
    refine Fin.is_ ?_
    refine Fin.is_ ?_
    refine Fin.nil_ ?_
    go_simp
    go_wp2_with (first | (at_builtin; refine wpList_append_mine _ rfl (.tmp 70) (.tmp 71) _ _ rfl w1.heap.size U8 i0 _ 1 1 under_bytes hi0 hz0 hz1 hz2 rfl _ 0 0 _ rfl (Own.nil _ _ _ _ _) _ rfl k (l.map bv) (((hs.ext h1).ext (Ext.alloc _ _)).src under_bytes) (by simp only [maxLen]; omega) (by omega) (by simp) ?_; intro P cpp wp hown hg _; have hbp : Byt U8 wp w1.heap.size P k cpp l := ⟨hs.len, by simpa using hown⟩; have hxp : Ext w1 wp := below_grown (Ext.alloc w1 _) (Own.nil _ _ U8 1 _) hg (by simp); clear hown hg) | (at_builtin; refine wpList_append_mine _ rfl (.tmp 72) (.tmp 73) _ _ rfl w1.heap.size U8 i0 _ 1 1 under_bytes hi0 hz0 hz1 hz2 rfl P k cpp _ rfl (hbp.own.alloc _) _ rfl 3 (([9, 9, 9] : List UInt8).map bv) ((sl_new wp _ _ _ [9, 9, 9] rfl (by simp [maxLen])).src under_bytes) (by simp only [maxLen]; omega) (by omega) (by have := hxp.size; simp; omega) ?_; intro Q cq wq hownq hgq _; have hcq := hownq.caps.1))
    have hq : Byt U8 wq w1.heap.size Q (k + 3) cq (l ++ [9, 9, 9]) := Byt.more hs.len rfl hownq rfl
    have hxq : Ext w1 wq := below_grown (hxp.trans (Ext.alloc wp _)) (hbp.own.alloc _) hgq (by have := hxp.size; simp; omega)
    clear hownq hgq hbp hxp
    have hsq := hq.sl
    have hcut := hsq.upto (hi := k) (by omega)
    refine (bits_Var Q k cq _ _ _ hcut (by omega) (by omega)).mono ?_
    rintro e w2 ⟨A5, n5, c5, rfl, hb5, hx5⟩
    clear hb5
    go_wp2_with fail
    refine (bits_Put Q k cq _ 77 8 _ (hcut.ext hx5) (by omega) (by omega)).mono ?_
    rintro e w3 ⟨A6, n6, c6, rfl, hb6, hx6⟩
    clear hb6
    go_wp2_with fail
    refine (bits_Text Q k cq _ _ _ (hcut.ext (hx5.trans hx6)) (by omega) (by decide)).mono ?_
    rintro e w4 ⟨A7, n7, c7, rfl, hb7, hx7⟩
    clear hb7
    have hx8 : Ext w w4 := h1.trans (hxq.trans (hx5.trans (hx6.trans hx7)))
    have hs8 := hs.ext hx8
    have hq8 := hsq.ext (hx5.trans (hx6.trans hx7))
    clear h1 hxq hx5 hx6 hx7 hsq hcut hs hq h3 h4
    go_wp2_with fail
    refine wp_region_typed Ext.steady rfl 98 rfl (by kernel_rfl) ?_
    -- 0: Op.move t9
    apply Stage.step (Is _) [] (Is.keeps _) (by kernel_rfl)
    · intro w1 h1
      simp only [Given]
      go_wp2_with fail
      exact Post.isv (Ext.refl _) rfl rfl rfl
    -- 1: Op.move t2
    apply Stage.step (Is _) [] (Is.keeps _) (by kernel_rfl)
    · intro w1 h1
      simp only [Given]
      go_wp2_with fail
      exact Post.isv (Ext.refl _) rfl rfl rfl
    -- 2: Op.call { builtin len, args := #[t86], argTypes := #[22] }
    apply Stage.step (Is _) [false, true] (Is.keeps _) (by kernel_rfl)
    · intro w1 h1
      simp only [List.nil_append, List.cons_append, Given]
      rintro _ rfl
      go_wp2_with fail
      exact Post.isv (Ext.refl _) rfl rfl rfl
    -- 3: Op.binOp BinOp.add 3 t87 (const (3:i64)) 3
    apply Stage.step (Is _) [false, false, true] (Is.keeps _) (by kernel_rfl)
    · intro w1 h1
      simp only [List.nil_append, List.cons_append, Given]
      rintro _ rfl
      go_wp2_with fail
      exact Post.isv (Ext.refl _) rfl rfl rfl
    -- 4: Op.slice 22 t85 none (some t88) none
    apply Stage.step (SlT (l ++ [9, 9, 9])) [true, false, false, true] (SlT.keeps _) (by kernel_rfl)
    · intro w1 h1
      simp only [List.nil_append, List.cons_append, Given]
      rintro _ rfl
      rintro _ rfl
      go_wp2_with fail
      exact ⟨rfl, rfl, Ext.refl _, _, _, _, rfl, hq8.ext h1⟩
    -- 5: Op.convert 22 9 t89
    apply Stage.step (Is (.string ⟨(l ++ [9, 9, 9]).toArray⟩)) [false, false, false, false, true] (Is.keeps _) (by kernel_rfl)
    · intro w1 h1
      simp only [List.nil_append, List.cons_append, Given]
      rintro _ ⟨A9, n9, c9, rfl, h9⟩
      have ht := run_text_u8 h9
      go_wp2_with fail
      exact Post.isv (Ext.refl _) rfl rfl rfl
    -- 6: Op.move t2
    apply Stage.step (Is _) [] (Is.keeps _) (by kernel_rfl)
    · intro w1 h1
      simp only [Given]
      go_wp2_with fail
      exact Post.isv (Ext.refl _) rfl rfl rfl
    -- 7: Op.convert 22 9 t91
    apply Stage.step (Is (.string ⟨l.toArray⟩)) [false, false, false, false, false, false, true] (Is.keeps _) (by kernel_rfl)
    · intro w1 h1
      simp only [List.nil_append, List.cons_append, Given]
      rintro _ rfl
      have ht := run_text_u8 (hs8.ext h1)
      go_wp2_with fail
      exact Post.isv (Ext.refl _) rfl rfl rfl
    -- 8: Op.binOp BinOp.add 9 t92 (const (Value.string { data := #[9, 9, 9] })) 9
    apply Stage.step (Is (.string ⟨(l ++ [9, 9, 9]).toArray⟩)) [false, false, false, false, false, false, false, true] (Is.keeps _) (by kernel_rfl)
    · intro w1 h1
      simp only [List.nil_append, List.cons_append, Given]
      rintro _ rfl
      have ht := text_behind l
      have hll := hs8.len
      go_wp2_with fail
      exact Post.isv (Ext.refl _) rfl rfl rfl
    -- 9: Op.binOp BinOp.eql 9 t90 t93 9
    apply Stage.step (Is _) [false, false, false, false, false, true, false, false, true] (Is.keeps _) (by kernel_rfl)
    · intro w1 h1
      simp only [List.nil_append, List.cons_append, Given]
      rintro _ rfl
      rintro _ rfl
      go_wp2_with fail
      exact Post.isv (Ext.refl _) rfl rfl rfl
    -- 10: Op.move t94
    apply Stage.step (Is _) [false, false, false, false, false, false, false, false, false, true] (Is.keeps _) (by kernel_rfl)
    · intro w1 h1
      simp only [List.nil_append, List.cons_append, Given]
      rintro _ rfl
      go_wp2_with fail
      exact Post.isv (Ext.refl _) rfl rfl rfl
    -- 11: Op.call { value (Operand.func 28), args := #[], argTypes := #[] }   [guarded: some (10, true)]
    apply Stage.step (Is (.bool true)) [false, false, false, false, false, false, false, false, false, false, true] (Is.keeps _) (by kernel_rfl)
    · intro w1 h1
      simp only [List.nil_append, List.cons_append, Given]
      rintro _ rfl
      go_wp2_with fail
      refine (law1_known _).mono ?_
      rintro e w2 ⟨rfl, hx5⟩
      go_wp2_with fail
      exact Post.isv hx5 rfl rfl rfl
    -- 12: Op.pick t95 t96 (const (Value.bool false))
    apply Stage.step (Is _) [false, false, false, false, false, false, false, false, false, false, true, true] (Is.keeps _) (by kernel_rfl)
    · intro w1 h1
      simp only [List.nil_append, List.cons_append, Given]
      rintro _ rfl
      rintro _ rfl
      go_wp2_with fail
      exact Post.isv (Ext.refl _) rfl rfl rfl
    -- 13: Op.assign t97
    apply Stage.step (Is _) [false, false, false, false, false, false, false, false, false, false, false, false, true] (Is.keeps _) (by kernel_rfl)
    · intro w1 h1
      simp only [List.nil_append, List.cons_append, Given]
      rintro _ rfl
      go_wp2_with fail
      exact Post.isv (Ext.refl _) rfl rfl rfl
    apply Stage.nil
    intro w1 h1
    simp only [List.nil_append, List.cons_append]
    refine Fin.is_ ?_
    refine Fin.is_ ?_
    refine Fin.is_ ?_
    refine Fin.is_ ?_
    refine Fin.step_ ?_
    rintro _ ⟨A9, n9, c9, rfl, h9⟩
    refine Fin.is_ ?_
    refine Fin.is_ ?_
    refine Fin.is_ ?_
    refine Fin.is_ ?_
    refine Fin.is_ ?_
    refine Fin.is_ ?_
    refine Fin.is_ ?_
    refine Fin.is_ ?_
    refine Fin.is_ ?_
    refine Fin.nil_ ?_
    go_simp
    go_wp2_with fail
    go_ret
    exact ⟨rfl, hx8.trans h1⟩
end Go.Proofs.Ytajifneohomibaa
