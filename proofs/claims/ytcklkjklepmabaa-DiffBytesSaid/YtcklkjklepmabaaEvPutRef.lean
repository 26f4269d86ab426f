/-
  Events: contract of the reference PutEvent.
-/
import Derived.Test.YtcklkjklepmabaaEvPut
import Derived.Outline
import Derived.Test.YtcklkjklepmabaaBut
import Derived.Test.YtcklkjklepmabaaEvPlain
import Derived.Test.YtcklkjklepmabaaVar
namespace Go.Proofs.Ytcklkjklepmabaa
open Go.RowKit
set_option linter.unusedVariables false
set_option linter.unusedSimpArgs false
set_option linter.unnecessarySimpa false
set_option maxRecDepth 100000

set_option maxHeartbeats 4000000 in
theorem ref_PutEvent (k o m : Int) (A : Option Addr) (n c : Nat) (l : List UInt8) (s : ByteArray) (w : World) (hsl : Sl w A n c l) (hs : s.size ≤ maxLen) {r : Bool} (hr : Hid (rightE k o m n s = r)) {L : List UInt8} (hL : Hid ((if r then putE k o m l s else []) = L)) :
    Calls Try.prog 42 #[evV k o m A n c s] w fun e w' => ∃ A' n' c', e = .returned (.tuple #[.slice A' n' c', .int .i64 (if r then 0 else 1)]) ∧ Byt U8 w' w.heap.size A' n' c' L ∧ Ext w w' := by
  go_enter Try.func42, Try.ntmps42
  go_wp2_with fail
  refine (ref_RightEvent k o m A n c s _ hsl.n63.1 hs).mono ?_
  rintro e w1 ⟨rfl, hx1⟩
  rw [hr.out]
  have hc0 : w1.cell? ⟨w.heap.size, 0, none⟩ = some (.int .i64 k) := hx1.cell (cell_new _ _ _ _)
  have hc1 : w1.cell? ⟨w.heap.size, 1, none⟩ = some (.int .i64 o) := hx1.cell (cell_new _ _ _ _)
  have hc2 : w1.cell? ⟨w.heap.size, 2, none⟩ = some (.int .i64 m) := hx1.cell (cell_new _ _ _ _)
  have hc3 : w1.cell? ⟨w.heap.size, 3, none⟩ = some (.slice A n c) := hx1.cell (cell_new _ _ _ _)
  have hc4 : w1.cell? ⟨w.heap.size, 4, none⟩ = some (.string s) := hx1.cell (cell_new _ _ _ _)
  have hlt : w.heap.size < w1.heap.size := World.block_lt_of_cell? _ _ hc0
  have hx2 : Ext w w1 := (Ext.alloc w _).trans hx1
  have hs1 : Sl w1 A n c l := hsl.ext hx2
  clear hx1
  cases r with
  | false =>
    go_wp2
    go_ret2
    obtain rfl : L = [] := by rw [← hL.out]; rfl
    exact ⟨_, _, _, rfl, Byt.nil _ _ _ _, hx2⟩
  | true =>
    have hrc := right_cases hr.out
    obtain ⟨i0, hi0, hz0, hz1, hz2⟩ := info_parts info_u8
    have hln := hsl.len
    rcases hrc with ⟨rfl, hn, ho, rfl, rfl⟩ | ⟨hk, hn, ho, rfl⟩ | ⟨rfl, hn, rfl, hm0, hm1, rfl⟩ | ⟨hk, hn, rfl, rfl, hs⟩ | ⟨rfl, hn, rfl, rfl, rfl⟩
    · have HL : Hid (L = 1 :: (varl o.toNat ++ l)) := by rw [← hL.out]; simp [putE, Hid]
      have hvl := varl_length o.toNat
      clear hr hL
      go_wp2_with fail
      obtain ⟨W, hW⟩ : ∃ W, W = w1.alloc (.cells #[.int .u8 1] U8) := ⟨_, rfl⟩
      have hb0 : Byt U8 W w.heap.size (some ⟨w1.heap.size, 0, none⟩) 1 1 [1] := by rw [hW]; exact byt_made w1 _ _ _ [1] rfl (by simp [maxLen]) (by omega)
      have hxW1 : Ext w1 W := by rw [hW]; exact Ext.alloc _ _
      rw [← hW]
      clear hW
      have hcO := hxW1.cell hc1
      have hcD := hxW1.cell hc3
      have hsW := hs1.ext hxW1
      have hxW := hx2.trans hxW1
      clear hc0 hc1 hc2 hc3 hc4 hs1 hx2 hxW1
      refine wp_region_typed2 (R := But W.heap.size (fun _ => False)) Ext.steady (But.steady _ _) (fun _ _ => But.of_ext) rfl 48 rfl [0, 0, 2, 7, 0, 16, 63, 127] 64 (by kernel_rfl) ?_
      -- 0: Op.move t4
      apply Stage2.step (Is _) true [] true false (Is.keeps _) (fun _ => Is.keeps _) (by kernel_rfl)
      · intro w1 h1
        have h1 : Ext _ w1 := h1
        simp only [List.nil_append, List.cons_append, List.map_cons, List.map_nil, Given]
        go_wp2_with fail
        exact Post.isv (Ext.refl _) rfl rfl rfl
      -- 1: Op.fieldAddr 28 t1 1
      apply Stage2.step (Is _) true [] true false (Is.keeps _) (fun _ => Is.keeps _) (by kernel_rfl)
      · intro w1 h1
        have h1 : Ext _ w1 := h1
        simp only [List.nil_append, List.cons_append, List.map_cons, List.map_nil, Given]
        go_wp2_with fail
        exact Post.isv (Ext.refl _) rfl rfl rfl
      -- 2: Op.load 3 t17
      apply Stage2.step (Is (.int .i64 o)) true [false, true] true false (Is.keeps _) (fun _ => Is.keeps _) (by kernel_rfl)
      · intro w1 h1
        have h1 : Ext _ w1 := h1
        simp only [List.nil_append, List.cons_append, List.map_cons, List.map_nil, Sp.pr, Given]
        rintro _ rfl
        have hq := h1.cell hcO
        go_wp2_with fail
        exact Post.isv (Ext.refl _) rfl rfl rfl
      -- 3: Op.call { value (Operand.func 70), args := #[t16, t18], argTypes := #[22, 3] }
      apply Stage2.step (BytT U8 W.heap.size (1 :: varl o.toNat)) false [true, false, true] true false (BytT.keeps _ _ _) (no_keeps) (by kernel_rfl)
      · intro w1 h1
        have h1 : Ext _ w1 := h1
        simp only [List.nil_append, List.cons_append, List.map_cons, List.map_nil, Sp.pr, Given]
        rintro _ rfl
        rintro _ rfl
        go_wp2_with fail
        refine (ref_Var _ 1 1 [1] o _ (hb0.sl.ext h1) (by omega) (by omega)).mono ?_
        rintro e w2 ⟨A3, n3, c3, rfl, h3, hx3⟩
        go_wp2_with fail
        exact ⟨rfl, rfl, hx3, _, _, _, rfl, h3.low h1.size⟩
      -- 4: Op.fieldAddr 28 t1 3
      apply Stage2.step (Is _) true [] true false (Is.keeps _) (fun _ => Is.keeps _) (by kernel_rfl)
      · intro w1 h1
        have h1 : Ext _ w1 := h1
        simp only [List.nil_append, List.cons_append, List.map_cons, List.map_nil, Given]
        go_wp2_with fail
        exact Post.isv (Ext.refl _) rfl rfl rfl
      -- 5: Op.load 22 t20
      apply Stage2.step (Is (.slice A n c)) true [false, false, false, false, true] true false (Is.keeps _) (fun _ => Is.keeps _) (by kernel_rfl)
      · intro w1 h1
        have h1 : Ext _ w1 := h1
        simp only [List.nil_append, List.cons_append, List.map_cons, List.map_nil, Sp.pr, Given]
        rintro _ rfl
        have hq := h1.cell hcD
        go_wp2_with fail
        exact Post.isv (Ext.refl _) rfl rfl rfl
      -- 6: Op.call { builtin append, args := #[t19, t21], argTypes := #[22, 22] }
      apply Stage2.step (BytT U8 W.heap.size (1 :: (varl o.toNat ++ l))) false [false, false, false, true, false, true] true true (BytT.keeps _ _ _) (no_keeps) (by kernel_rfl)
      · intro w1 h1
        have h1 : Ext _ w1 := h1
        simp only [List.nil_append, List.cons_append, List.map_cons, List.map_nil, Sp.pr, Given]
        rintro _ ⟨A3, n3, c3, rfl, h3⟩
        rintro _ rfl
        have hn3 : n3 ≤ 10 := by rw [← h3.len, List.length_cons]; omega
        go_wp2_with (at_builtin; refine wpList_append_mine _ rfl _ _ _ _ rfl W.heap.size U8 i0 _ 1 1 under_bytes hi0 hz0 hz1 hz2 rfl A3 n3 c3 _ rfl h3.own _ rfl n (l.map bv) ((hsW.ext h1).src under_bytes) (by simp only [maxLen]; omega) (by omega) h1.size ?_; intro A6 c6 w6 hown hg _)
        exact ⟨rfl, rfl, But.grown (But.refl _ _ _) hg (fun k hk => .inr (h3.own.row_ge k hk).1), _, _, _, rfl, Byt.more h3.len hsl.len hown rfl⟩
      -- 7: Op.assign t22
      apply Stage2.step (BytT U8 W.heap.size (1 :: (varl o.toNat ++ l))) false [false, false, false, false, false, false, true] false false (BytT.keeps _ _ _) (no_keeps) (by kernel_rfl)
      · intro w1 h1
        have h1 : (But W.heap.size (fun _ => False)) _ w1 := h1
        simp only [List.nil_append, List.cons_append, List.map_cons, List.map_nil, Sp.pr, Given]
        rintro v hcp
        go_wp2_with fail
        exact ⟨rfl, rfl, Ext.refl _, hcp⟩
      apply Stage2.nil [true, true, true, false, true, true, true, true] (by kernel_rfl)
      intro w1 h1
      have h1 : (But W.heap.size (fun _ => False)) _ w1 := h1
      simp only [List.nil_append, List.cons_append, List.map_cons, List.map_nil, Sp.pr]
      refine Fin2.is_ ?_
      refine Fin2.is_ ?_
      refine Fin2.is_ ?_
      refine Fin2.dead_ ?_
      intro dead3
      refine Fin2.is_ ?_
      refine Fin2.is_ ?_
      refine Fin2.step_ ?_
      rintro _ ⟨A6, n6, c6, rfl, h6⟩
      refine Fin2.step_ ?_
      rintro _ ⟨A6, n6, c6, rfl, h6⟩
      refine Fin2.nil_ ?_
      go_simp
      go_wp2_with fail
      go_ret2
      rw [← HL.out] at h6
      exact ⟨_, _, _, rfl, h6.low hxW.size, hxW.but h1 hxW.size (fun _ h => h.elim)⟩
    · rcases hk with rfl | rfl
      · have HL : Hid (L = 2 :: (varl o.toNat ++ varl m.toNat)) := by rw [← hL.out]; simp [putE, Hid]
        have hvl := varl_length o.toNat
        clear hr hL
        go_wp2_with fail
        obtain ⟨W, hW⟩ : ∃ W, W = w1.alloc (.cells #[.int .u8 2] U8) := ⟨_, rfl⟩
        have hb0 : Byt U8 W w.heap.size (some ⟨w1.heap.size, 0, none⟩) 1 1 [2] := by rw [hW]; exact byt_made w1 _ _ _ [2] rfl (by simp [maxLen]) (by omega)
        have hxW1 : Ext w1 W := by rw [hW]; exact Ext.alloc _ _
        rw [← hW]
        clear hW
        have hcO := hxW1.cell hc1
        have hcD := hxW1.cell hc2
        have hxW := hx2.trans hxW1
        clear hc0 hc1 hc2 hc3 hc4 hs1 hx2 hxW1
        refine wp_region_typed2 (R := But W.heap.size (fun _ => False)) Ext.steady (But.steady _ _) (fun _ _ => But.of_ext) rfl 48 rfl [0, 0, 2, 7, 0, 16, 63, 127] 0 (by kernel_rfl) ?_
        -- 0: Op.move t4
        apply Stage2.step (Is _) true [] true false (Is.keeps _) (fun _ => Is.keeps _) (by kernel_rfl)
        · intro w1 h1
          have h1 : Ext _ w1 := h1
          simp only [List.nil_append, List.cons_append, List.map_cons, List.map_nil, Given]
          go_wp2_with fail
          exact Post.isv (Ext.refl _) rfl rfl rfl
        -- 1: Op.fieldAddr 28 t1 1
        apply Stage2.step (Is _) true [] true false (Is.keeps _) (fun _ => Is.keeps _) (by kernel_rfl)
        · intro w1 h1
          have h1 : Ext _ w1 := h1
          simp only [List.nil_append, List.cons_append, List.map_cons, List.map_nil, Given]
          go_wp2_with fail
          exact Post.isv (Ext.refl _) rfl rfl rfl
        -- 2: Op.load 3 t27
        apply Stage2.step (Is (.int .i64 o)) true [false, true] true false (Is.keeps _) (fun _ => Is.keeps _) (by kernel_rfl)
        · intro w1 h1
          have h1 : Ext _ w1 := h1
          simp only [List.nil_append, List.cons_append, List.map_cons, List.map_nil, Sp.pr, Given]
          rintro _ rfl
          have hq := h1.cell hcO
          go_wp2_with fail
          exact Post.isv (Ext.refl _) rfl rfl rfl
        -- 3: Op.call { value (Operand.func 70), args := #[t26, t28], argTypes := #[22, 3] }
        apply Stage2.step (BytT U8 W.heap.size (2 :: varl o.toNat)) false [true, false, true] true false (BytT.keeps _ _ _) (no_keeps) (by kernel_rfl)
        · intro w1 h1
          have h1 : Ext _ w1 := h1
          simp only [List.nil_append, List.cons_append, List.map_cons, List.map_nil, Sp.pr, Given]
          rintro _ rfl
          rintro _ rfl
          go_wp2_with fail
          refine (ref_Var _ 1 1 [2] o _ (hb0.sl.ext h1) (by omega) (by omega)).mono ?_
          rintro e w2 ⟨A3, n3, c3, rfl, h3, hx3⟩
          go_wp2_with fail
          exact ⟨rfl, rfl, hx3, _, _, _, rfl, h3.low h1.size⟩
        -- 4: Op.fieldAddr 28 t1 2
        apply Stage2.step (Is _) true [] true false (Is.keeps _) (fun _ => Is.keeps _) (by kernel_rfl)
        · intro w1 h1
          have h1 : Ext _ w1 := h1
          simp only [List.nil_append, List.cons_append, List.map_cons, List.map_nil, Given]
          go_wp2_with fail
          exact Post.isv (Ext.refl _) rfl rfl rfl
        -- 5: Op.load 3 t30
        apply Stage2.step (Is (.int .i64 m)) true [false, false, false, false, true] true false (Is.keeps _) (fun _ => Is.keeps _) (by kernel_rfl)
        · intro w1 h1
          have h1 : Ext _ w1 := h1
          simp only [List.nil_append, List.cons_append, List.map_cons, List.map_nil, Sp.pr, Given]
          rintro _ rfl
          have hq := h1.cell hcD
          go_wp2_with fail
          exact Post.isv (Ext.refl _) rfl rfl rfl
        -- 6: Op.call { value (Operand.func 70), args := #[t29, t31], argTypes := #[22, 3] }
        apply Stage2.step (BytT U8 W.heap.size (2 :: (varl o.toNat ++ varl m.toNat))) false [false, false, false, true, false, true] true false (BytT.keeps _ _ _) (no_keeps) (by kernel_rfl)
        · intro w1 h1
          have h1 : Ext _ w1 := h1
          simp only [List.nil_append, List.cons_append, List.map_cons, List.map_nil, Sp.pr, Given]
          rintro _ ⟨A3, n3, c3, rfl, h3⟩
          rintro _ rfl
          have hn3 : n3 ≤ 10 := by rw [← h3.len, List.length_cons]; omega
          go_wp2_with fail
          refine (ref_Var _ _ _ _ m _ h3.sl (by omega) (by omega)).mono ?_
          rintro e w2 ⟨A6, n6, c6, rfl, h6, hx6⟩
          go_wp2_with fail
          exact ⟨rfl, rfl, hx6, _, _, _, rfl, h6.low h1.size⟩
        -- 7: Op.assign t32
        apply Stage2.step (BytT U8 W.heap.size (2 :: (varl o.toNat ++ varl m.toNat))) false [false, false, false, false, false, false, true] true false (BytT.keeps _ _ _) (no_keeps) (by kernel_rfl)
        · intro w1 h1
          have h1 : Ext _ w1 := h1
          simp only [List.nil_append, List.cons_append, List.map_cons, List.map_nil, Sp.pr, Given]
          rintro v hcp
          go_wp2_with fail
          exact ⟨rfl, rfl, Ext.refl _, hcp⟩
        apply Stage2.nil [true, true, true, true, true, true, true, true] (by kernel_rfl)
        intro w1 h1
        have h1 : (Ext) _ w1 := h1
        simp only [List.nil_append, List.cons_append, List.map_cons, List.map_nil, Sp.pr]
        refine Fin2.is_ ?_
        refine Fin2.is_ ?_
        refine Fin2.is_ ?_
        refine Fin2.step_ ?_
        rintro _ ⟨A3, n3, c3, rfl, h3⟩
        refine Fin2.is_ ?_
        refine Fin2.is_ ?_
        refine Fin2.step_ ?_
        rintro _ ⟨A6, n6, c6, rfl, h6⟩
        refine Fin2.step_ ?_
        rintro _ ⟨A6, n6, c6, rfl, h6⟩
        refine Fin2.nil_ ?_
        go_simp
        go_wp2_with fail
        go_ret2
        rw [← HL.out] at h6
        exact ⟨_, _, _, rfl, h6.low hxW.size, hxW.trans h1⟩
      · have HL : Hid (L = 3 :: (varl o.toNat ++ varl m.toNat)) := by rw [← hL.out]; simp [putE, Hid]
        have hvl := varl_length o.toNat
        clear hr hL
        go_wp2_with fail
        obtain ⟨W, hW⟩ : ∃ W, W = w1.alloc (.cells #[.int .u8 3] U8) := ⟨_, rfl⟩
        have hb0 : Byt U8 W w.heap.size (some ⟨w1.heap.size, 0, none⟩) 1 1 [3] := by rw [hW]; exact byt_made w1 _ _ _ [3] rfl (by simp [maxLen]) (by omega)
        have hxW1 : Ext w1 W := by rw [hW]; exact Ext.alloc _ _
        rw [← hW]
        clear hW
        have hcO := hxW1.cell hc1
        have hcD := hxW1.cell hc2
        have hxW := hx2.trans hxW1
        clear hc0 hc1 hc2 hc3 hc4 hs1 hx2 hxW1
        refine wp_region_typed2 (R := But W.heap.size (fun _ => False)) Ext.steady (But.steady _ _) (fun _ _ => But.of_ext) rfl 48 rfl [0, 0, 2, 7, 0, 16, 63, 127] 0 (by kernel_rfl) ?_
        -- 0: Op.move t4
        apply Stage2.step (Is _) true [] true false (Is.keeps _) (fun _ => Is.keeps _) (by kernel_rfl)
        · intro w1 h1
          have h1 : Ext _ w1 := h1
          simp only [List.nil_append, List.cons_append, List.map_cons, List.map_nil, Given]
          go_wp2_with fail
          exact Post.isv (Ext.refl _) rfl rfl rfl
        -- 1: Op.fieldAddr 28 t1 1
        apply Stage2.step (Is _) true [] true false (Is.keeps _) (fun _ => Is.keeps _) (by kernel_rfl)
        · intro w1 h1
          have h1 : Ext _ w1 := h1
          simp only [List.nil_append, List.cons_append, List.map_cons, List.map_nil, Given]
          go_wp2_with fail
          exact Post.isv (Ext.refl _) rfl rfl rfl
        -- 2: Op.load 3 t27
        apply Stage2.step (Is (.int .i64 o)) true [false, true] true false (Is.keeps _) (fun _ => Is.keeps _) (by kernel_rfl)
        · intro w1 h1
          have h1 : Ext _ w1 := h1
          simp only [List.nil_append, List.cons_append, List.map_cons, List.map_nil, Sp.pr, Given]
          rintro _ rfl
          have hq := h1.cell hcO
          go_wp2_with fail
          exact Post.isv (Ext.refl _) rfl rfl rfl
        -- 3: Op.call { value (Operand.func 70), args := #[t26, t28], argTypes := #[22, 3] }
        apply Stage2.step (BytT U8 W.heap.size (3 :: varl o.toNat)) false [true, false, true] true false (BytT.keeps _ _ _) (no_keeps) (by kernel_rfl)
        · intro w1 h1
          have h1 : Ext _ w1 := h1
          simp only [List.nil_append, List.cons_append, List.map_cons, List.map_nil, Sp.pr, Given]
          rintro _ rfl
          rintro _ rfl
          go_wp2_with fail
          refine (ref_Var _ 1 1 [3] o _ (hb0.sl.ext h1) (by omega) (by omega)).mono ?_
          rintro e w2 ⟨A3, n3, c3, rfl, h3, hx3⟩
          go_wp2_with fail
          exact ⟨rfl, rfl, hx3, _, _, _, rfl, h3.low h1.size⟩
        -- 4: Op.fieldAddr 28 t1 2
        apply Stage2.step (Is _) true [] true false (Is.keeps _) (fun _ => Is.keeps _) (by kernel_rfl)
        · intro w1 h1
          have h1 : Ext _ w1 := h1
          simp only [List.nil_append, List.cons_append, List.map_cons, List.map_nil, Given]
          go_wp2_with fail
          exact Post.isv (Ext.refl _) rfl rfl rfl
        -- 5: Op.load 3 t30
        apply Stage2.step (Is (.int .i64 m)) true [false, false, false, false, true] true false (Is.keeps _) (fun _ => Is.keeps _) (by kernel_rfl)
        · intro w1 h1
          have h1 : Ext _ w1 := h1
          simp only [List.nil_append, List.cons_append, List.map_cons, List.map_nil, Sp.pr, Given]
          rintro _ rfl
          have hq := h1.cell hcD
          go_wp2_with fail
          exact Post.isv (Ext.refl _) rfl rfl rfl
        -- 6: Op.call { value (Operand.func 70), args := #[t29, t31], argTypes := #[22, 3] }
        apply Stage2.step (BytT U8 W.heap.size (3 :: (varl o.toNat ++ varl m.toNat))) false [false, false, false, true, false, true] true false (BytT.keeps _ _ _) (no_keeps) (by kernel_rfl)
        · intro w1 h1
          have h1 : Ext _ w1 := h1
          simp only [List.nil_append, List.cons_append, List.map_cons, List.map_nil, Sp.pr, Given]
          rintro _ ⟨A3, n3, c3, rfl, h3⟩
          rintro _ rfl
          have hn3 : n3 ≤ 10 := by rw [← h3.len, List.length_cons]; omega
          go_wp2_with fail
          refine (ref_Var _ _ _ _ m _ h3.sl (by omega) (by omega)).mono ?_
          rintro e w2 ⟨A6, n6, c6, rfl, h6, hx6⟩
          go_wp2_with fail
          exact ⟨rfl, rfl, hx6, _, _, _, rfl, h6.low h1.size⟩
        -- 7: Op.assign t32
        apply Stage2.step (BytT U8 W.heap.size (3 :: (varl o.toNat ++ varl m.toNat))) false [false, false, false, false, false, false, true] true false (BytT.keeps _ _ _) (no_keeps) (by kernel_rfl)
        · intro w1 h1
          have h1 : Ext _ w1 := h1
          simp only [List.nil_append, List.cons_append, List.map_cons, List.map_nil, Sp.pr, Given]
          rintro v hcp
          go_wp2_with fail
          exact ⟨rfl, rfl, Ext.refl _, hcp⟩
        apply Stage2.nil [true, true, true, true, true, true, true, true] (by kernel_rfl)
        intro w1 h1
        have h1 : (Ext) _ w1 := h1
        simp only [List.nil_append, List.cons_append, List.map_cons, List.map_nil, Sp.pr]
        refine Fin2.is_ ?_
        refine Fin2.is_ ?_
        refine Fin2.is_ ?_
        refine Fin2.step_ ?_
        rintro _ ⟨A3, n3, c3, rfl, h3⟩
        refine Fin2.is_ ?_
        refine Fin2.is_ ?_
        refine Fin2.step_ ?_
        rintro _ ⟨A6, n6, c6, rfl, h6⟩
        refine Fin2.step_ ?_
        rintro _ ⟨A6, n6, c6, rfl, h6⟩
        refine Fin2.nil_ ?_
        go_simp
        go_wp2_with fail
        go_ret2
        rw [← HL.out] at h6
        exact ⟨_, _, _, rfl, h6.low hxW.size, hxW.trans h1⟩
    · have HL : Hid (L = 4 :: varl m.toNat) := by rw [← hL.out]; simp [putE, Hid]
      clear hr hL
      go_wp2_with fail
      have hb0 : Byt U8 (w1.alloc (.cells #[.int .u8 4] U8)) w.heap.size (some ⟨w1.heap.size, 0, none⟩) 1 1 [4] := byt_made w1 _ _ _ [4] rfl (by simp [maxLen]) (by omega)
      refine (ref_Var _ 1 1 [4] m _ hb0.sl (by omega) (by omega)).mono ?_
      rintro e w2 ⟨A6, n6, c6, rfl, h6, hx6⟩
      have hx7 : Ext w w2 := (hx2.trans (Ext.alloc _ _)).trans hx6
      go_wp2_with fail
      go_ret2
      exact ⟨_, _, _, rfl, by rw [HL.out]; exact h6.low (hx2.trans (Ext.alloc _ _)).size, hx7⟩
    · have hsz := nameB_size hs
      rcases hk with rfl | rfl | rfl
      · have HL : Hid (L = 5 :: s.data.toList) := by rw [← hL.out]; simp [putE, Hid]
        clear hr hL
        have hb0 : Byt U8 (w1.alloc (.cells #[.int .u8 5] U8)) w.heap.size (some ⟨w1.heap.size, 0, none⟩) 1 1 [5] := byt_made w1 _ _ _ [5] rfl (by simp [maxLen]) (by omega)
        have hx3 := hx2.trans (Ext.alloc w1 (.cells #[.int .u8 5] U8))
        go_wp2_with (at_builtin; refine wpList_append_mine _ rfl _ _ _ _ rfl w.heap.size U8 i0 _ 1 1 under_bytes hi0 hz0 hz1 hz2 rfl _ 1 1 _ rfl hb0.own _ rfl s.size _ (Src.ofString _ under_str s) (by simp only [maxLen]; omega) (by omega) hx3.size ?_; intro A6 c6 w6 hown hg _)
        have h6 : Byt U8 w6 w.heap.size A6 (1 + s.size) c6 ([5] ++ s.data.toList) := Byt.more rfl (size_listE s) hown rfl
        have hx6 : Ext w w6 := below_grown hx3 hb0.own hg hx3.size
        go_wp2_with fail
        go_ret2
        exact ⟨_, _, _, rfl, by rw [HL.out]; exact h6, hx6⟩
      · have HL : Hid (L = 6 :: s.data.toList) := by rw [← hL.out]; simp [putE, Hid]
        clear hr hL
        have hb0 : Byt U8 (w1.alloc (.cells #[.int .u8 6] U8)) w.heap.size (some ⟨w1.heap.size, 0, none⟩) 1 1 [6] := byt_made w1 _ _ _ [6] rfl (by simp [maxLen]) (by omega)
        have hx3 := hx2.trans (Ext.alloc w1 (.cells #[.int .u8 6] U8))
        go_wp2_with (at_builtin; refine wpList_append_mine _ rfl _ _ _ _ rfl w.heap.size U8 i0 _ 1 1 under_bytes hi0 hz0 hz1 hz2 rfl _ 1 1 _ rfl hb0.own _ rfl s.size _ (Src.ofString _ under_str s) (by simp only [maxLen]; omega) (by omega) hx3.size ?_; intro A6 c6 w6 hown hg _)
        have h6 : Byt U8 w6 w.heap.size A6 (1 + s.size) c6 ([6] ++ s.data.toList) := Byt.more rfl (size_listE s) hown rfl
        have hx6 : Ext w w6 := below_grown hx3 hb0.own hg hx3.size
        go_wp2_with fail
        go_ret2
        exact ⟨_, _, _, rfl, by rw [HL.out]; exact h6, hx6⟩
      · have HL : Hid (L = 7 :: s.data.toList) := by rw [← hL.out]; simp [putE, Hid]
        clear hr hL
        have hb0 : Byt U8 (w1.alloc (.cells #[.int .u8 7] U8)) w.heap.size (some ⟨w1.heap.size, 0, none⟩) 1 1 [7] := byt_made w1 _ _ _ [7] rfl (by simp [maxLen]) (by omega)
        have hx3 := hx2.trans (Ext.alloc w1 (.cells #[.int .u8 7] U8))
        go_wp2_with (at_builtin; refine wpList_append_mine _ rfl _ _ _ _ rfl w.heap.size U8 i0 _ 1 1 under_bytes hi0 hz0 hz1 hz2 rfl _ 1 1 _ rfl hb0.own _ rfl s.size _ (Src.ofString _ under_str s) (by simp only [maxLen]; omega) (by omega) hx3.size ?_; intro A6 c6 w6 hown hg _)
        have h6 : Byt U8 w6 w.heap.size A6 (1 + s.size) c6 ([7] ++ s.data.toList) := Byt.more rfl (size_listE s) hown rfl
        have hx6 : Ext w w6 := below_grown hx3 hb0.own hg hx3.size
        go_wp2_with fail
        go_ret2
        exact ⟨_, _, _, rfl, by rw [HL.out]; exact h6, hx6⟩
    · have HL : Hid (L = [8]) := by rw [← hL.out]; simp [putE, Hid]
      clear hr hL
      have hb0 : Byt U8 (w1.alloc (.cells #[.int .u8 8] U8)) w.heap.size (some ⟨w1.heap.size, 0, none⟩) 1 1 [8] := byt_made w1 _ _ _ [8] rfl (by simp [maxLen]) (by omega)
      have hx3 := hx2.trans (Ext.alloc w1 (.cells #[.int .u8 8] U8))
      go_wp2_with fail
      go_ret2
      exact ⟨_, _, _, rfl, by rw [HL.out]; exact hb0, hx3⟩
end Go.Proofs.Ytcklkjklepmabaa
