/-
  Chapter 9: the statement MsgOne, walked.
-/
/-
  Arguments of a call opened: bytes, structs whose fields are one cell each. From the kit's reading of Go's data (DataW) to this claim's own words.
-/
/-
  Slices of rows of cells that came in, opened.
-/
import Derived.Test.YtoeknbogaclfdaaZMsgBack
import Derived.Test.YtoeknbogaclfdaaZCore
import Derived.ProofKit
import Derived.OpenShut
import Derived.ShutString
import Derived.ChangeOld
import Derived.Below
import Derived.Deep.Slices
import Derived.Deep.Fields
import Derived.ChangeSame
namespace Go.Proofs.Ytoeknbogaclfdaa
open Go.RowKit
set_option linter.unusedVariables false
set_option linter.unusedSimpArgs false
set_option linter.unnecessarySimpa false
set_option maxRecDepth 100000

theorem beq_same {m w : Ms} (hm : rightM m = true) (hw : rightM w = true) : (putM m == putM w) = sameMs m w := by
  have := putM_inj hm hw
  rw [Bool.eq_iff_iff, beq_iff_eq, this]
  unfold sameMs
  simp
set_option maxHeartbeats 8000000 in
theorem law_MsgOne (k0 k1 : Int) (A2 : Option Addr) (n2 c2 : Nat) (e2 : List Int) (A3 : Option Addr) (n3 c3 : Nat) (e3 : List Int) (A4 : Option Addr) (n4 c4 : Nat) (p4 : List UInt8) (A5 : Option Addr) (n5 c5 : Nat) (p5 : List UInt8) (A6 : Option Addr) (n6 c6 : Nat) (bb : List UInt8) (w : World) (hi2 : Lst 1 intR w A2 n2 c2 e2) (hi3 : Lst 1 intR w A3 n3 c3 e3) (hp4 : Sl w A4 n4 c4 p4) (hp5 : Sl w A5 n5 c5 p5) (hb : Sl w A6 n6 c6 bb) :
    Calls Try.prog 4 #[.int .i64 k0, .int .i64 k1, .slice A2 n2 c2, .slice A3 n3 c3, .slice A4 n4 c4, .slice A5 n5 c5, .slice A6 n6 c6] w fun e w' => e = .returned (.bool true) ∧ Ext w w' := by
  have g2 := hi2.n63
  have g3 := hi3.n63
  have g4 := hp4.n63
  have g5 := hp5.n63
  have g6 := hb.n63
  by_cases tn2 : 40 < n2
  · go_enter Try.func4, Try.ntmps4
    go_wp2_with fail
    refine (law9_known _).mono ?_
    rintro e wz ⟨rfl, hxz⟩
    go_wp2_with fail
    go_ret
    exact ⟨rfl, hxz⟩
  have dn2 : decide ((40 : Int) < (n2 : Int)) = false := by simp; omega
  by_cases tn3 : 40 < n3
  · go_enter Try.func4, Try.ntmps4
    go_wp2_with fail
    refine (law9_known _).mono ?_
    rintro e wz ⟨rfl, hxz⟩
    go_wp2_with fail
    go_ret
    exact ⟨rfl, hxz⟩
  have dn3 : decide ((40 : Int) < (n3 : Int)) = false := by simp; omega
  by_cases tn4 : 200 < n4
  · go_enter Try.func4, Try.ntmps4
    go_wp2_with fail
    refine (law9_known _).mono ?_
    rintro e wz ⟨rfl, hxz⟩
    go_wp2_with fail
    go_ret
    exact ⟨rfl, hxz⟩
  have dn4 : decide ((200 : Int) < (n4 : Int)) = false := by simp; omega
  by_cases tn5 : 200 < n5
  · go_enter Try.func4, Try.ntmps4
    go_wp2_with fail
    refine (law9_known _).mono ?_
    rintro e wz ⟨rfl, hxz⟩
    go_wp2_with fail
    go_ret
    exact ⟨rfl, hxz⟩
  have dn5 : decide ((200 : Int) < (n5 : Int)) = false := by simp; omega
  by_cases tn6 : 200 < n6
  · go_enter Try.func4, Try.ntmps4
    go_wp2_with fail
    refine (law9_known _).mono ?_
    rintro e wz ⟨rfl, hxz⟩
    go_wp2_with fail
    go_ret
    exact ⟨rfl, hxz⟩
  have dn6 : decide ((200 : Int) < (n6 : Int)) = false := by simp; omega
  obtain ⟨m1, hm1⟩ : ∃ h, makeM k0 e2 p4 = h := ⟨_, rfl⟩
  obtain ⟨m2, hm2⟩ : ∃ h, makeM k1 e3 p5 = h := ⟨_, rfl⟩
  have hr1 : rightM m1 = true := by rw [← hm1]; exact make_rightM k0 e2 p4 (by rw [hi2.len]; omega)
  have hr2 : rightM m2 = true := by rw [← hm2]; exact make_rightM k1 e3 p5 (by rw [hi3.len]; omega)
  have hqs := beq_same hr1 hr2
  obtain ⟨L, hL⟩ : ∃ L, putM m1 = L := ⟨_, rfl⟩
  obtain ⟨L', hL'⟩ : ∃ L, putM m2 = L := ⟨_, rfl⟩
  have HPL : Hid (putMr m1 true = L) := hL
  have HPL' : Hid (putMr m2 true = L') := hL'
  rw [hL, hL'] at hqs
  obtain ⟨sm, hsm⟩ : ∃ q, sameMs m1 m2 = q := ⟨_, rfl⟩
  have HS := Lib.hid hsm
  rw [hsm] at hqs
  have HQ := Lib.hid hqs
  obtain ⟨f1, f2⟩ := rightM_fit hr1
  obtain ⟨f3, f4⟩ := rightM_fit hr2
  have HE1 := Lib.hid f1
  have HS1 := Lib.hid f2
  have HE2 := Lib.hid f3
  have HS2 := Lib.hid f4
  have HR1 := Lib.hid hr1
  have HR2 := Lib.hid hr2
  have HM1 := Lib.hid hm1
  have HM2 := Lib.hid hm2
  have hbl : (put bb (crcOf bb) 4).length = n6 + 4 := by unfold put; rw [List.length_append, le_length, hb.len]
  have HBL := Lib.hid hbl
  obtain ⟨F, hF⟩ : ∃ F, put bb (crcOf bb) 4 = F := ⟨_, rfl⟩
  have HFF := Lib.hid hF
  have HO : Hid ((getM false F = none ∧ whyO (crcOpen F) (none : Option Ms).isSome = 2) ∨ ∃ z, getM false F = some z ∧ rightM z = true ∧ putM z = F) := by
    cases ho : getM false F with
    | none =>
      refine Or.inl ⟨rfl, ?_⟩
      rw [← hF]
      rw [show crcOpen (put bb (crcOf bb) 4) = some bb from crcOpen_put bb]
      rfl
    | some z =>
      obtain ⟨a, b⟩ := getM_iff.1 ho
      exact Or.inr ⟨z, rfl, a, b⟩
  obtain ⟨q1, q2, q3, q4, q5, q6, qa, qb, qc, qd⟩ := m1
  obtain ⟨r1, r2, r3, r4, r5, r6, ra, rb, rc, rd⟩ := m2
  simp only at HE1 HS1 HE2 HS2
  clear hm1 hm2 hr1 hr2 hqs hL hL' hsm f1 f2 f3 f4 hbl hF
  go_enter Try.func4, Try.ntmps4
  go_wp2_with fail
  refine (law9_Make hi2 (by omega) hp4 (by omega) HM1).mono ?_
  rintro e u1 ⟨U1, Un1, Uc1, U2, Un2, Uc2, U3, Un3, Uc3, U4, Un4, Uc4, rfl, ol1, hx1⟩
  have o63 := ol1.n63
  go_wp2_with fail
  refine (law9_Make (hi3.ext int_rep hx1) (by omega) (hp5.ext hx1) (by omega) HM2).mono ?_
  rintro e u2 ⟨V1, Vn1, Vc1, V2, Vn2, Vc2, V3, Vn3, Vc3, V4, Vn4, Vc4, rfl, ol2, hx2⟩
  have o64 := ol2.n63
  obtain ⟨u3, hu3⟩ : ∃ q, q = u2.alloc (.cells #[.int .i64 q1, .int .i64 q2, .int .i64 q3, .int .i64 q4, .int .i64 q5, .int .i64 q6, .slice U1 Un1 Uc1, .slice U2 Un2 Uc2, .slice U3 Un3 Uc3, .slice U4 Un4 Uc4] TMs) := ⟨_, rfl⟩
  obtain ⟨u4, hu4⟩ : ∃ q, q = u3.alloc (.cells #[.int .i64 r1, .int .i64 r2, .int .i64 r3, .int .i64 r4, .int .i64 r5, .int .i64 r6, .slice V1 Vn1 Vc1, .slice V2 Vn2 Vc2, .slice V3 Vn3 Vc3, .slice V4 Vn4 Vc4] TMs) := ⟨_, rfl⟩
  have hx3 : Ext u2 u3 := by rw [hu3]; exact Ext.alloc _ _
  have hx4 : Ext u3 u4 := by rw [hu4]; exact Ext.alloc _ _
  have hsz : u3.heap.size = u2.heap.size + 1 := by rw [hu3]; simp
  have b0 : u4.cell? ⟨u2.heap.size, 0, none⟩ = some (.int .i64 q1) := by refine hx4.cell ?_; rw [hu3]; exact cell_new _ _ _ 0
  have b1 : u4.cell? ⟨u2.heap.size, 1, none⟩ = some (.int .i64 q2) := by refine hx4.cell ?_; rw [hu3]; exact cell_new _ _ _ 1
  have b2 : u4.cell? ⟨u2.heap.size, 2, none⟩ = some (.int .i64 q3) := by refine hx4.cell ?_; rw [hu3]; exact cell_new _ _ _ 2
  have b3 : u4.cell? ⟨u2.heap.size, 3, none⟩ = some (.int .i64 q4) := by refine hx4.cell ?_; rw [hu3]; exact cell_new _ _ _ 3
  have b4 : u4.cell? ⟨u2.heap.size, 4, none⟩ = some (.int .i64 q5) := by refine hx4.cell ?_; rw [hu3]; exact cell_new _ _ _ 4
  have b5 : u4.cell? ⟨u2.heap.size, 5, none⟩ = some (.int .i64 q6) := by refine hx4.cell ?_; rw [hu3]; exact cell_new _ _ _ 5
  have b6 : u4.cell? ⟨u2.heap.size, 6, none⟩ = some (.slice U1 Un1 Uc1) := by refine hx4.cell ?_; rw [hu3]; exact cell_new _ _ _ 6
  have b7 : u4.cell? ⟨u2.heap.size, 7, none⟩ = some (.slice U2 Un2 Uc2) := by refine hx4.cell ?_; rw [hu3]; exact cell_new _ _ _ 7
  have b8 : u4.cell? ⟨u2.heap.size, 8, none⟩ = some (.slice U3 Un3 Uc3) := by refine hx4.cell ?_; rw [hu3]; exact cell_new _ _ _ 8
  have b9 : u4.cell? ⟨u2.heap.size, 9, none⟩ = some (.slice U4 Un4 Uc4) := by refine hx4.cell ?_; rw [hu3]; exact cell_new _ _ _ 9
  have d0 : u4.cell? ⟨u2.heap.size + 1, 0, none⟩ = some (.int .i64 r1) := by rw [hu4, ← hsz]; exact cell_new _ _ _ 0
  have d1 : u4.cell? ⟨u2.heap.size + 1, 1, none⟩ = some (.int .i64 r2) := by rw [hu4, ← hsz]; exact cell_new _ _ _ 1
  have d2 : u4.cell? ⟨u2.heap.size + 1, 2, none⟩ = some (.int .i64 r3) := by rw [hu4, ← hsz]; exact cell_new _ _ _ 2
  have d3 : u4.cell? ⟨u2.heap.size + 1, 3, none⟩ = some (.int .i64 r4) := by rw [hu4, ← hsz]; exact cell_new _ _ _ 3
  have d4 : u4.cell? ⟨u2.heap.size + 1, 4, none⟩ = some (.int .i64 r5) := by rw [hu4, ← hsz]; exact cell_new _ _ _ 4
  have d5 : u4.cell? ⟨u2.heap.size + 1, 5, none⟩ = some (.int .i64 r6) := by rw [hu4, ← hsz]; exact cell_new _ _ _ 5
  have d6 : u4.cell? ⟨u2.heap.size + 1, 6, none⟩ = some (.slice V1 Vn1 Vc1) := by rw [hu4, ← hsz]; exact cell_new _ _ _ 6
  have d7 : u4.cell? ⟨u2.heap.size + 1, 7, none⟩ = some (.slice V2 Vn2 Vc2) := by rw [hu4, ← hsz]; exact cell_new _ _ _ 7
  have d8 : u4.cell? ⟨u2.heap.size + 1, 8, none⟩ = some (.slice V3 Vn3 Vc3) := by rw [hu4, ← hsz]; exact cell_new _ _ _ 8
  have d9 : u4.cell? ⟨u2.heap.size + 1, 9, none⟩ = some (.slice V4 Vn4 Vc4) := by rw [hu4, ← hsz]; exact cell_new _ _ _ 9
  have gx := (hx1.trans hx2).trans (hx3.trans hx4)
  have l1 := ol1.ext ((hx2.trans hx3).trans hx4)
  have l2 := ol2.ext (hx3.trans hx4)
  clear hx1 ol1 ol2 hx2 hx3 hx4 hi2 hi3 hp4 hp5
  go_wp2_with fail
  rw [← hu3, ← hu4]
  clear hu3 hu4 hsz
  refine (msg_Put l1 HE1 HS1 HR1 HPL).mono ?_
  rintro e u5 ⟨A8, n8, c8, rfl, hb5, hx5⟩
  have her : (if true = true then (0 : Int) else 1) = 0 := rfl
  rw [her]
  clear her
  have n65 := hb5.sl.n63
  replace b0 := hx5.cell b0
  replace d0 := hx5.cell d0
  replace b1 := hx5.cell b1
  replace d1 := hx5.cell d1
  replace b2 := hx5.cell b2
  replace d2 := hx5.cell d2
  replace b3 := hx5.cell b3
  replace d3 := hx5.cell d3
  replace b4 := hx5.cell b4
  replace d4 := hx5.cell d4
  replace b5 := hx5.cell b5
  replace d5 := hx5.cell d5
  replace b6 := hx5.cell b6
  replace d6 := hx5.cell d6
  replace b7 := hx5.cell b7
  replace d7 := hx5.cell d7
  replace b8 := hx5.cell b8
  replace d8 := hx5.cell d8
  replace b9 := hx5.cell b9
  replace d9 := hx5.cell d9
  replace gx := gx.trans hx5
  replace l1 := l1.ext hx5
  replace l2 := l2.ext hx5
  go_wp2_with fail
  refine (msg_Put l2 HE2 HS2 HR2 HPL').mono ?_
  rintro e u6 ⟨A9, n9, c9, rfl, hb6, hx6⟩
  have her : (if true = true then (0 : Int) else 1) = 0 := rfl
  rw [her]
  clear her
  have n66 := hb6.sl.n63
  replace b0 := hx6.cell b0
  replace d0 := hx6.cell d0
  replace b1 := hx6.cell b1
  replace d1 := hx6.cell d1
  replace b2 := hx6.cell b2
  replace d2 := hx6.cell d2
  replace b3 := hx6.cell b3
  replace d3 := hx6.cell d3
  replace b4 := hx6.cell b4
  replace d4 := hx6.cell d4
  replace b5 := hx6.cell b5
  replace d5 := hx6.cell d5
  replace b6 := hx6.cell b6
  replace d6 := hx6.cell d6
  replace b7 := hx6.cell b7
  replace d7 := hx6.cell d7
  replace b8 := hx6.cell b8
  replace d8 := hx6.cell d8
  replace b9 := hx6.cell b9
  replace d9 := hx6.cell d9
  replace gx := gx.trans hx6
  replace l1 := l1.ext hx6
  replace l2 := l2.ext hx6
  have s5 := hb5.sl.ext hx6
  have s6 := hb6.sl
  clear hx5 hx6 hb5 hb6 HE1 HS1 HE2 HS2 HR1 HR2 HPL HPL' HM1 HM2
  go_wp2_with fail
  cases sm with
  | true =>
    refine wp_region_typed Ext.steady rfl 122 rfl (by kernel_rfl) ?_
    -- 0: Op.move t18
    apply Stage.step (Is _) [] (Is.keeps _) (by kernel_rfl)
    · intro w1 h1
      simp only [Given]
      go_wp2_with fail
      exact Post.isv (Ext.refl _) rfl rfl rfl
    -- 1: Op.binOp BinOp.neq 31 t68 (const (0:i64)) 31
    apply Stage.step (Is (.bool false)) [true] (Is.keeps _) (by kernel_rfl)
    · intro w1 h1
      simp only [List.nil_append, Given]
      rintro _ rfl
      go_wp2_with fail
      exact Post.isv (Ext.refl _) rfl rfl rfl
    -- 2: Op.move t69
    apply Stage.step (Is _) [false, true] (Is.keeps _) (by kernel_rfl)
    · intro w1 h1
      simp only [List.nil_append, List.cons_append, Given]
      rintro _ rfl
      go_wp2_with fail
      exact Post.isv (Ext.refl _) rfl rfl rfl
    -- 3: Op.move t20   [guarded: some (2, false)]
    apply Stage.step (Is _) [false, false, true] (Is.keeps _) (by kernel_rfl)
    · intro w1 h1
      simp only [List.nil_append, List.cons_append, Given]
      rintro _ rfl
      go_wp2_with fail
      exact Post.isv (Ext.refl _) rfl rfl rfl
    -- 4: Op.binOp BinOp.neq 31 t71 (const (0:i64)) 31   [guarded: some (2, false)]
    apply Stage.step (Is (.bool false)) [false, false, true, true] (Is.keeps _) (by kernel_rfl)
    · intro w1 h1
      simp only [List.nil_append, List.cons_append, Given]
      rintro _ rfl
      rintro _ rfl
      go_wp2_with fail
      exact Post.isv (Ext.refl _) rfl rfl rfl
    -- 5: Op.pick t70 (const (Value.bool true)) t72
    apply Stage.step (Is (.bool false)) [false, false, true, false, true] (Is.keeps _) (by kernel_rfl)
    · intro w1 h1
      simp only [List.nil_append, List.cons_append, Given]
      rintro _ rfl
      rintro _ rfl
      go_wp2_with fail
      exact Post.isv (Ext.refl _) rfl rfl rfl
    -- 6: Op.move t73
    apply Stage.step (Is _) [false, false, false, false, false, true] (Is.keeps _) (by kernel_rfl)
    · intro w1 h1
      simp only [List.nil_append, List.cons_append, Given]
      rintro _ rfl
      go_wp2_with fail
      exact Post.isv (Ext.refl _) rfl rfl rfl
    -- 7: Op.move t17   [guarded: some (6, false)]
    apply Stage.step (Is _) [false, false, false, false, false, false, true] (Is.keeps _) (by kernel_rfl)
    · intro w1 h1
      simp only [List.nil_append, List.cons_append, Given]
      rintro _ rfl
      go_wp2_with fail
      exact Post.isv (Ext.refl _) rfl rfl rfl
    -- 8: Op.convert 23 9 t75   [guarded: some (6, false)]
    apply Stage.step (Is (.string ⟨L.toArray⟩)) [false, false, false, false, false, false, true, true] (Is.keeps _) (by kernel_rfl)
    · intro w1 h1
      simp only [List.nil_append, List.cons_append, Given]
      rintro _ rfl
      rintro _ rfl
      have tx := run_text_u8 (s5.ext h1)
      go_wp2_with fail
      exact Post.isv (Ext.refl _) rfl rfl rfl
    -- 9: Op.move t19   [guarded: some (6, false)]
    apply Stage.step (Is _) [false, false, false, false, false, false, true] (Is.keeps _) (by kernel_rfl)
    · intro w1 h1
      simp only [List.nil_append, List.cons_append, Given]
      rintro _ rfl
      go_wp2_with fail
      exact Post.isv (Ext.refl _) rfl rfl rfl
    -- 10: Op.convert 23 9 t77   [guarded: some (6, false)]
    apply Stage.step (Is (.string ⟨L'.toArray⟩)) [false, false, false, false, false, false, true, false, false, true] (Is.keeps _) (by kernel_rfl)
    · intro w1 h1
      simp only [List.nil_append, List.cons_append, Given]
      rintro _ rfl
      rintro _ rfl
      have tx := run_text_u8 (s6.ext h1)
      go_wp2_with fail
      exact Post.isv (Ext.refl _) rfl rfl rfl
    -- 11: Op.binOp BinOp.eql 9 t76 t78 9   [guarded: some (6, false)]
    apply Stage.step (Is (.bool true)) [false, false, false, false, false, false, true, false, true, false, true] (Is.keeps _) (by kernel_rfl)
    · intro w1 h1
      simp only [List.nil_append, List.cons_append, Given]
      rintro _ rfl
      rintro _ rfl
      rintro _ rfl
      have hqd := HQ.out
      go_wp2_with fail
      exact Post.isv (Ext.refl _) rfl rfl rfl
    -- 12: Op.load 29 t15   [guarded: some (6, false)]
    apply Stage.step (Is (msV ⟨q1, q2, q3, q4, q5, q6, qa, qb, qc, qd⟩ U1 Un1 Uc1 U2 Un2 Uc2 U3 Un3 Uc3 U4 Un4 Uc4)) [false, false, false, false, false, false, true] (Is.keeps _) (by kernel_rfl)
    · intro w1 h1
      simp only [List.nil_append, List.cons_append, Given]
      rintro _ rfl
      have uu0 := h1.cell b0
      have uu1 := h1.cell b1
      have uu2 := h1.cell b2
      have uu3 := h1.cell b3
      have uu4 := h1.cell b4
      have uu5 := h1.cell b5
      have uu6 := h1.cell b6
      have uu7 := h1.cell b7
      have uu8 := h1.cell b8
      have uu9 := h1.cell b9
      go_wp2_with fail
      exact Post.isv (Ext.refl _) rfl rfl rfl
    -- 13: Op.load 29 t16   [guarded: some (6, false)]
    apply Stage.step (Is (msV ⟨r1, r2, r3, r4, r5, r6, ra, rb, rc, rd⟩ V1 Vn1 Vc1 V2 Vn2 Vc2 V3 Vn3 Vc3 V4 Vn4 Vc4)) [false, false, false, false, false, false, true] (Is.keeps _) (by kernel_rfl)
    · intro w1 h1
      simp only [List.nil_append, List.cons_append, Given]
      rintro _ rfl
      have uu0 := h1.cell d0
      have uu1 := h1.cell d1
      have uu2 := h1.cell d2
      have uu3 := h1.cell d3
      have uu4 := h1.cell d4
      have uu5 := h1.cell d5
      have uu6 := h1.cell d6
      have uu7 := h1.cell d7
      have uu8 := h1.cell d8
      have uu9 := h1.cell d9
      go_wp2_with fail
      exact Post.isv (Ext.refl _) rfl rfl rfl
    -- 14: Op.call { value (Operand.func 15), args := #[t80, t81], argTypes := #[29, 29] }   [guarded: some (6,
    apply Stage.step (Is (.bool true)) [false, false, false, false, false, false, true, false, false, false, false, false, true, true] (Is.keeps _) (by kernel_rfl)
    · intro w1 h1
      simp only [List.nil_append, List.cons_append, Given]
      rintro _ rfl
      rintro _ rfl
      rintro _ rfl
      go_wp2_with fail
      refine (ref_SameMsg (l1.ext h1) (l2.ext h1) HS).mono ?_
      rintro e w2 ⟨rfl, hx2⟩
      go_wp2_with fail
      exact Post.isv hx2 rfl rfl rfl
    -- 15: Op.binOp BinOp.neq 4 t79 t82 4   [guarded: some (6, false)]
    apply Stage.step (Is (.bool false)) [false, false, false, false, false, false, true, false, false, false, false, true, false, false, true] (Is.keeps _) (by kernel_rfl)
    · intro w1 h1
      simp only [List.nil_append, List.cons_append, Given]
      rintro _ rfl
      rintro _ rfl
      rintro _ rfl
      go_wp2_with fail
      exact Post.isv (Ext.refl _) rfl rfl rfl
    -- 16: Op.pick t74 (const (Value.bool true)) t83
    apply Stage.step (Is (.bool false)) [false, false, false, false, false, false, true, false, false, false, false, false, false, false, false, true] (Is.keeps _) (by kernel_rfl)
    · intro w1 h1
      simp only [List.nil_append, List.cons_append, Given]
      rintro _ rfl
      rintro _ rfl
      go_wp2_with fail
      exact Post.isv (Ext.refl _) rfl rfl rfl
    apply Stage.nil
    intro w1 h1
    simp only [List.nil_append, List.cons_append]
    refine Fin.is_ ?_
    refine Fin.is_ ?_
    refine Fin.is_ ?_
    refine Fin.is_ ?_
    refine Fin.is_ ?_
    refine Fin.is_ ?_
    refine Fin.is_ ?_
    refine Fin.is_ ?_
    refine Fin.is_ ?_
    refine Fin.is_ ?_
    refine Fin.is_ ?_
    refine Fin.is_ ?_
    refine Fin.is_ ?_
    refine Fin.is_ ?_
    refine Fin.is_ ?_
    refine Fin.is_ ?_
    refine Fin.is_ ?_
    refine Fin.nil_ ?_
    go_simp
    obtain ⟨wm, rfl⟩ : ∃ q, q = w1 := ⟨_, rfl⟩
    clear HQ HS b0 b1 b2 b3 b4 b5 b6 b7 b8 b9 d0 d1 d2 d3 d4 d5 d6 d7 d8 d9
    clear l1 l2 s5 s6
    replace gx := gx.trans h1
    clear h1
    go_wp2_with fail
    refine (ref_Seal A6 n6 c6 bb _ (hb.ext gx) (by omega)).mono ?_
    rintro e w7 ⟨A7, n7, c7, rfl, hb7, hx7⟩
    have hn7 : n7 = n6 + 4 := by rw [← hb7.len]; exact HBL.out
    subst hn7
    replace hb7 := hb7.sl
    rw [HFF.out] at hb7
    replace gx := gx.trans hx7
    clear hx7
    rcases HO.out with ⟨hn, hy⟩ | ⟨z, hn, hr, hz⟩
    · have HG := Lib.hid hn
      have HY := Lib.hid hy
      clear hn hy
      go_wp2_with fail
      have hgc := msg_Get hb7 (by omega) HG HY
      simp only [Option.getD_none] at hgc
      refine hgc.mono ?_
      rintro e w8 ⟨C1, Cn1, Cc1, C2, Cn2, Cc2, C3, Cn3, Cc3, C4, Cn4, Cc4, rfl, h8, hx8⟩
      clear hgc
      have q8 := h8.n63
      have z0 : (w8.alloc (.cells #[.int .i64 0, .int .i64 0, .int .i64 0, .int .i64 0, .int .i64 0, .int .i64 0, .slice C1 Cn1 Cc1, .slice C2 Cn2 Cc2, .slice C3 Cn3 Cc3, .slice C4 Cn4 Cc4] TMs)).cell? ⟨w8.heap.size, 0, none⟩ = some (.int .i64 0) := cell_new _ _ _ 0
      have z1 : (w8.alloc (.cells #[.int .i64 0, .int .i64 0, .int .i64 0, .int .i64 0, .int .i64 0, .int .i64 0, .slice C1 Cn1 Cc1, .slice C2 Cn2 Cc2, .slice C3 Cn3 Cc3, .slice C4 Cn4 Cc4] TMs)).cell? ⟨w8.heap.size, 1, none⟩ = some (.int .i64 0) := cell_new _ _ _ 1
      replace gx := gx.trans (hx8.allocs (.cells #[.int .i64 0, .int .i64 0, .int .i64 0, .int .i64 0, .int .i64 0, .int .i64 0, .slice C1 Cn1 Cc1, .slice C2 Cn2 Cc2, .slice C3 Cn3 Cc3, .slice C4 Cn4 Cc4] TMs))
      clear hx8 h8 hb7
      go_wp2_with fail
      refine (law9_known _).mono ?_
      rintro e wz ⟨rfl, hxz⟩
      go_wp2_with fail
      go_ret
      exact ⟨rfl, gx.trans hxz⟩
    · obtain ⟨hf1, hf2⟩ := rightM_fit hr
      have HF := Lib.hid hf1
      have HSH := Lib.hid hf2
      have HG := Lib.hid hn
      have HR := Lib.hid hr
      have HPL : Hid (putMr z true = F) := hz
      have HY : Hid (whyO (crcOpen F) (some z).isSome = 0) := getM_why hn
      obtain ⟨y1, y2, y3, y4, y5, y6, za, zb, zc, zd⟩ := z
      simp only at HF HSH
      clear hn hr hz hf1 hf2
      go_wp2_with fail
      have hgc := msg_Get hb7 (by omega) HG HY
      simp only [Option.getD_some] at hgc
      refine hgc.mono ?_
      rintro e w8 ⟨C1, Cn1, Cc1, C2, Cn2, Cc2, C3, Cn3, Cc3, C4, Cn4, Cc4, rfl, h8, hx8⟩
      clear hgc
      have q8 := h8.n63
      have z0 := cell_new w8 #[.int .i64 y1, .int .i64 y2, .int .i64 y3, .int .i64 y4, .int .i64 y5, .int .i64 y6, .slice C1 Cn1 Cc1, .slice C2 Cn2 Cc2, .slice C3 Cn3 Cc3, .slice C4 Cn4 Cc4] TMs 0
      have z1 := cell_new w8 #[.int .i64 y1, .int .i64 y2, .int .i64 y3, .int .i64 y4, .int .i64 y5, .int .i64 y6, .slice C1 Cn1 Cc1, .slice C2 Cn2 Cc2, .slice C3 Cn3 Cc3, .slice C4 Cn4 Cc4] TMs 1
      have z2 := cell_new w8 #[.int .i64 y1, .int .i64 y2, .int .i64 y3, .int .i64 y4, .int .i64 y5, .int .i64 y6, .slice C1 Cn1 Cc1, .slice C2 Cn2 Cc2, .slice C3 Cn3 Cc3, .slice C4 Cn4 Cc4] TMs 2
      have z3 := cell_new w8 #[.int .i64 y1, .int .i64 y2, .int .i64 y3, .int .i64 y4, .int .i64 y5, .int .i64 y6, .slice C1 Cn1 Cc1, .slice C2 Cn2 Cc2, .slice C3 Cn3 Cc3, .slice C4 Cn4 Cc4] TMs 3
      have z4 := cell_new w8 #[.int .i64 y1, .int .i64 y2, .int .i64 y3, .int .i64 y4, .int .i64 y5, .int .i64 y6, .slice C1 Cn1 Cc1, .slice C2 Cn2 Cc2, .slice C3 Cn3 Cc3, .slice C4 Cn4 Cc4] TMs 4
      have z5 := cell_new w8 #[.int .i64 y1, .int .i64 y2, .int .i64 y3, .int .i64 y4, .int .i64 y5, .int .i64 y6, .slice C1 Cn1 Cc1, .slice C2 Cn2 Cc2, .slice C3 Cn3 Cc3, .slice C4 Cn4 Cc4] TMs 5
      have z6 := cell_new w8 #[.int .i64 y1, .int .i64 y2, .int .i64 y3, .int .i64 y4, .int .i64 y5, .int .i64 y6, .slice C1 Cn1 Cc1, .slice C2 Cn2 Cc2, .slice C3 Cn3 Cc3, .slice C4 Cn4 Cc4] TMs 6
      have z7 := cell_new w8 #[.int .i64 y1, .int .i64 y2, .int .i64 y3, .int .i64 y4, .int .i64 y5, .int .i64 y6, .slice C1 Cn1 Cc1, .slice C2 Cn2 Cc2, .slice C3 Cn3 Cc3, .slice C4 Cn4 Cc4] TMs 7
      have z8 := cell_new w8 #[.int .i64 y1, .int .i64 y2, .int .i64 y3, .int .i64 y4, .int .i64 y5, .int .i64 y6, .slice C1 Cn1 Cc1, .slice C2 Cn2 Cc2, .slice C3 Cn3 Cc3, .slice C4 Cn4 Cc4] TMs 8
      have z9 := cell_new w8 #[.int .i64 y1, .int .i64 y2, .int .i64 y3, .int .i64 y4, .int .i64 y5, .int .i64 y6, .slice C1 Cn1 Cc1, .slice C2 Cn2 Cc2, .slice C3 Cn3 Cc3, .slice C4 Cn4 Cc4] TMs 9
      have hx9 := Ext.alloc w8 (.cells #[.int .i64 y1, .int .i64 y2, .int .i64 y3, .int .i64 y4, .int .i64 y5, .int .i64 y6, .slice C1 Cn1 Cc1, .slice C2 Cn2 Cc2, .slice C3 Cn3 Cc3, .slice C4 Cn4 Cc4] TMs)
      replace gx := (gx.trans hx8).trans hx9
      replace hb7 := (hb7.ext hx8).ext hx9
      replace h8 := h8.ext hx9
      clear hx8 hx9
      go_wp2_with fail
      refine (msg_Put h8 HF HSH HR HPL).mono ?_
      rintro e w9 ⟨A9, n9, c9, rfl, hb9, hx9⟩
      have her : (if true = true then (0 : Int) else 1) = 0 := rfl
      rw [her]
      clear her
      have t1 := run_text_u8 hb9.sl
      have t2 := run_text_u8 (hb7.ext hx9)
      have q9 := hb9.sl.n63
      replace gx := gx.trans hx9
      clear hx9 h8 hb7 hb9 z0 z1 z2 z3 z4 z5 z6 z7 z8 z9
      go_wp2_with fail
      refine (law9_known _).mono ?_
      rintro e wz ⟨rfl, hxz⟩
      go_wp2_with fail
      go_ret
      exact ⟨rfl, gx.trans hxz⟩
  | false =>
    refine wp_region_typed Ext.steady rfl 122 rfl (by kernel_rfl) ?_
    -- 0: Op.move t18
    apply Stage.step (Is _) [] (Is.keeps _) (by kernel_rfl)
    · intro w1 h1
      simp only [Given]
      go_wp2_with fail
      exact Post.isv (Ext.refl _) rfl rfl rfl
    -- 1: Op.binOp BinOp.neq 31 t68 (const (0:i64)) 31
    apply Stage.step (Is (.bool false)) [true] (Is.keeps _) (by kernel_rfl)
    · intro w1 h1
      simp only [List.nil_append, Given]
      rintro _ rfl
      go_wp2_with fail
      exact Post.isv (Ext.refl _) rfl rfl rfl
    -- 2: Op.move t69
    apply Stage.step (Is _) [false, true] (Is.keeps _) (by kernel_rfl)
    · intro w1 h1
      simp only [List.nil_append, List.cons_append, Given]
      rintro _ rfl
      go_wp2_with fail
      exact Post.isv (Ext.refl _) rfl rfl rfl
    -- 3: Op.move t20   [guarded: some (2, false)]
    apply Stage.step (Is _) [false, false, true] (Is.keeps _) (by kernel_rfl)
    · intro w1 h1
      simp only [List.nil_append, List.cons_append, Given]
      rintro _ rfl
      go_wp2_with fail
      exact Post.isv (Ext.refl _) rfl rfl rfl
    -- 4: Op.binOp BinOp.neq 31 t71 (const (0:i64)) 31   [guarded: some (2, false)]
    apply Stage.step (Is (.bool false)) [false, false, true, true] (Is.keeps _) (by kernel_rfl)
    · intro w1 h1
      simp only [List.nil_append, List.cons_append, Given]
      rintro _ rfl
      rintro _ rfl
      go_wp2_with fail
      exact Post.isv (Ext.refl _) rfl rfl rfl
    -- 5: Op.pick t70 (const (Value.bool true)) t72
    apply Stage.step (Is (.bool false)) [false, false, true, false, true] (Is.keeps _) (by kernel_rfl)
    · intro w1 h1
      simp only [List.nil_append, List.cons_append, Given]
      rintro _ rfl
      rintro _ rfl
      go_wp2_with fail
      exact Post.isv (Ext.refl _) rfl rfl rfl
    -- 6: Op.move t73
    apply Stage.step (Is _) [false, false, false, false, false, true] (Is.keeps _) (by kernel_rfl)
    · intro w1 h1
      simp only [List.nil_append, List.cons_append, Given]
      rintro _ rfl
      go_wp2_with fail
      exact Post.isv (Ext.refl _) rfl rfl rfl
    -- 7: Op.move t17   [guarded: some (6, false)]
    apply Stage.step (Is _) [false, false, false, false, false, false, true] (Is.keeps _) (by kernel_rfl)
    · intro w1 h1
      simp only [List.nil_append, List.cons_append, Given]
      rintro _ rfl
      go_wp2_with fail
      exact Post.isv (Ext.refl _) rfl rfl rfl
    -- 8: Op.convert 23 9 t75   [guarded: some (6, false)]
    apply Stage.step (Is (.string ⟨L.toArray⟩)) [false, false, false, false, false, false, true, true] (Is.keeps _) (by kernel_rfl)
    · intro w1 h1
      simp only [List.nil_append, List.cons_append, Given]
      rintro _ rfl
      rintro _ rfl
      have tx := run_text_u8 (s5.ext h1)
      go_wp2_with fail
      exact Post.isv (Ext.refl _) rfl rfl rfl
    -- 9: Op.move t19   [guarded: some (6, false)]
    apply Stage.step (Is _) [false, false, false, false, false, false, true] (Is.keeps _) (by kernel_rfl)
    · intro w1 h1
      simp only [List.nil_append, List.cons_append, Given]
      rintro _ rfl
      go_wp2_with fail
      exact Post.isv (Ext.refl _) rfl rfl rfl
    -- 10: Op.convert 23 9 t77   [guarded: some (6, false)]
    apply Stage.step (Is (.string ⟨L'.toArray⟩)) [false, false, false, false, false, false, true, false, false, true] (Is.keeps _) (by kernel_rfl)
    · intro w1 h1
      simp only [List.nil_append, List.cons_append, Given]
      rintro _ rfl
      rintro _ rfl
      have tx := run_text_u8 (s6.ext h1)
      go_wp2_with fail
      exact Post.isv (Ext.refl _) rfl rfl rfl
    -- 11: Op.binOp BinOp.eql 9 t76 t78 9   [guarded: some (6, false)]
    apply Stage.step (Is (.bool false)) [false, false, false, false, false, false, true, false, true, false, true] (Is.keeps _) (by kernel_rfl)
    · intro w1 h1
      simp only [List.nil_append, List.cons_append, Given]
      rintro _ rfl
      rintro _ rfl
      rintro _ rfl
      have hqd := HQ.out
      go_wp2_with fail
      exact Post.isv (Ext.refl _) rfl rfl rfl
    -- 12: Op.load 29 t15   [guarded: some (6, false)]
    apply Stage.step (Is (msV ⟨q1, q2, q3, q4, q5, q6, qa, qb, qc, qd⟩ U1 Un1 Uc1 U2 Un2 Uc2 U3 Un3 Uc3 U4 Un4 Uc4)) [false, false, false, false, false, false, true] (Is.keeps _) (by kernel_rfl)
    · intro w1 h1
      simp only [List.nil_append, List.cons_append, Given]
      rintro _ rfl
      have uu0 := h1.cell b0
      have uu1 := h1.cell b1
      have uu2 := h1.cell b2
      have uu3 := h1.cell b3
      have uu4 := h1.cell b4
      have uu5 := h1.cell b5
      have uu6 := h1.cell b6
      have uu7 := h1.cell b7
      have uu8 := h1.cell b8
      have uu9 := h1.cell b9
      go_wp2_with fail
      exact Post.isv (Ext.refl _) rfl rfl rfl
    -- 13: Op.load 29 t16   [guarded: some (6, false)]
    apply Stage.step (Is (msV ⟨r1, r2, r3, r4, r5, r6, ra, rb, rc, rd⟩ V1 Vn1 Vc1 V2 Vn2 Vc2 V3 Vn3 Vc3 V4 Vn4 Vc4)) [false, false, false, false, false, false, true] (Is.keeps _) (by kernel_rfl)
    · intro w1 h1
      simp only [List.nil_append, List.cons_append, Given]
      rintro _ rfl
      have uu0 := h1.cell d0
      have uu1 := h1.cell d1
      have uu2 := h1.cell d2
      have uu3 := h1.cell d3
      have uu4 := h1.cell d4
      have uu5 := h1.cell d5
      have uu6 := h1.cell d6
      have uu7 := h1.cell d7
      have uu8 := h1.cell d8
      have uu9 := h1.cell d9
      go_wp2_with fail
      exact Post.isv (Ext.refl _) rfl rfl rfl
    -- 14: Op.call { value (Operand.func 15), args := #[t80, t81], argTypes := #[29, 29] }   [guarded: some (6,
    apply Stage.step (Is (.bool false)) [false, false, false, false, false, false, true, false, false, false, false, false, true, true] (Is.keeps _) (by kernel_rfl)
    · intro w1 h1
      simp only [List.nil_append, List.cons_append, Given]
      rintro _ rfl
      rintro _ rfl
      rintro _ rfl
      go_wp2_with fail
      refine (ref_SameMsg (l1.ext h1) (l2.ext h1) HS).mono ?_
      rintro e w2 ⟨rfl, hx2⟩
      go_wp2_with fail
      exact Post.isv hx2 rfl rfl rfl
    -- 15: Op.binOp BinOp.neq 4 t79 t82 4   [guarded: some (6, false)]
    apply Stage.step (Is (.bool false)) [false, false, false, false, false, false, true, false, false, false, false, true, false, false, true] (Is.keeps _) (by kernel_rfl)
    · intro w1 h1
      simp only [List.nil_append, List.cons_append, Given]
      rintro _ rfl
      rintro _ rfl
      rintro _ rfl
      go_wp2_with fail
      exact Post.isv (Ext.refl _) rfl rfl rfl
    -- 16: Op.pick t74 (const (Value.bool true)) t83
    apply Stage.step (Is (.bool false)) [false, false, false, false, false, false, true, false, false, false, false, false, false, false, false, true] (Is.keeps _) (by kernel_rfl)
    · intro w1 h1
      simp only [List.nil_append, List.cons_append, Given]
      rintro _ rfl
      rintro _ rfl
      go_wp2_with fail
      exact Post.isv (Ext.refl _) rfl rfl rfl
    apply Stage.nil
    intro w1 h1
    simp only [List.nil_append, List.cons_append]
    refine Fin.is_ ?_
    refine Fin.is_ ?_
    refine Fin.is_ ?_
    refine Fin.is_ ?_
    refine Fin.is_ ?_
    refine Fin.is_ ?_
    refine Fin.is_ ?_
    refine Fin.is_ ?_
    refine Fin.is_ ?_
    refine Fin.is_ ?_
    refine Fin.is_ ?_
    refine Fin.is_ ?_
    refine Fin.is_ ?_
    refine Fin.is_ ?_
    refine Fin.is_ ?_
    refine Fin.is_ ?_
    refine Fin.is_ ?_
    refine Fin.nil_ ?_
    go_simp
    obtain ⟨wm, rfl⟩ : ∃ q, q = w1 := ⟨_, rfl⟩
    clear HQ HS b0 b1 b2 b3 b4 b5 b6 b7 b8 b9 d0 d1 d2 d3 d4 d5 d6 d7 d8 d9
    clear l1 l2 s5 s6
    replace gx := gx.trans h1
    clear h1
    go_wp2_with fail
    refine (ref_Seal A6 n6 c6 bb _ (hb.ext gx) (by omega)).mono ?_
    rintro e w7 ⟨A7, n7, c7, rfl, hb7, hx7⟩
    have hn7 : n7 = n6 + 4 := by rw [← hb7.len]; exact HBL.out
    subst hn7
    replace hb7 := hb7.sl
    rw [HFF.out] at hb7
    replace gx := gx.trans hx7
    clear hx7
    rcases HO.out with ⟨hn, hy⟩ | ⟨z, hn, hr, hz⟩
    · have HG := Lib.hid hn
      have HY := Lib.hid hy
      clear hn hy
      go_wp2_with fail
      have hgc := msg_Get hb7 (by omega) HG HY
      simp only [Option.getD_none] at hgc
      refine hgc.mono ?_
      rintro e w8 ⟨C1, Cn1, Cc1, C2, Cn2, Cc2, C3, Cn3, Cc3, C4, Cn4, Cc4, rfl, h8, hx8⟩
      clear hgc
      have q8 := h8.n63
      have z0 : (w8.alloc (.cells #[.int .i64 0, .int .i64 0, .int .i64 0, .int .i64 0, .int .i64 0, .int .i64 0, .slice C1 Cn1 Cc1, .slice C2 Cn2 Cc2, .slice C3 Cn3 Cc3, .slice C4 Cn4 Cc4] TMs)).cell? ⟨w8.heap.size, 0, none⟩ = some (.int .i64 0) := cell_new _ _ _ 0
      have z1 : (w8.alloc (.cells #[.int .i64 0, .int .i64 0, .int .i64 0, .int .i64 0, .int .i64 0, .int .i64 0, .slice C1 Cn1 Cc1, .slice C2 Cn2 Cc2, .slice C3 Cn3 Cc3, .slice C4 Cn4 Cc4] TMs)).cell? ⟨w8.heap.size, 1, none⟩ = some (.int .i64 0) := cell_new _ _ _ 1
      replace gx := gx.trans (hx8.allocs (.cells #[.int .i64 0, .int .i64 0, .int .i64 0, .int .i64 0, .int .i64 0, .int .i64 0, .slice C1 Cn1 Cc1, .slice C2 Cn2 Cc2, .slice C3 Cn3 Cc3, .slice C4 Cn4 Cc4] TMs))
      clear hx8 h8 hb7
      go_wp2_with fail
      refine (law9_known _).mono ?_
      rintro e wz ⟨rfl, hxz⟩
      go_wp2_with fail
      go_ret
      exact ⟨rfl, gx.trans hxz⟩
    · obtain ⟨hf1, hf2⟩ := rightM_fit hr
      have HF := Lib.hid hf1
      have HSH := Lib.hid hf2
      have HG := Lib.hid hn
      have HR := Lib.hid hr
      have HPL : Hid (putMr z true = F) := hz
      have HY : Hid (whyO (crcOpen F) (some z).isSome = 0) := getM_why hn
      obtain ⟨y1, y2, y3, y4, y5, y6, za, zb, zc, zd⟩ := z
      simp only at HF HSH
      clear hn hr hz hf1 hf2
      go_wp2_with fail
      have hgc := msg_Get hb7 (by omega) HG HY
      simp only [Option.getD_some] at hgc
      refine hgc.mono ?_
      rintro e w8 ⟨C1, Cn1, Cc1, C2, Cn2, Cc2, C3, Cn3, Cc3, C4, Cn4, Cc4, rfl, h8, hx8⟩
      clear hgc
      have q8 := h8.n63
      have z0 := cell_new w8 #[.int .i64 y1, .int .i64 y2, .int .i64 y3, .int .i64 y4, .int .i64 y5, .int .i64 y6, .slice C1 Cn1 Cc1, .slice C2 Cn2 Cc2, .slice C3 Cn3 Cc3, .slice C4 Cn4 Cc4] TMs 0
      have z1 := cell_new w8 #[.int .i64 y1, .int .i64 y2, .int .i64 y3, .int .i64 y4, .int .i64 y5, .int .i64 y6, .slice C1 Cn1 Cc1, .slice C2 Cn2 Cc2, .slice C3 Cn3 Cc3, .slice C4 Cn4 Cc4] TMs 1
      have z2 := cell_new w8 #[.int .i64 y1, .int .i64 y2, .int .i64 y3, .int .i64 y4, .int .i64 y5, .int .i64 y6, .slice C1 Cn1 Cc1, .slice C2 Cn2 Cc2, .slice C3 Cn3 Cc3, .slice C4 Cn4 Cc4] TMs 2
      have z3 := cell_new w8 #[.int .i64 y1, .int .i64 y2, .int .i64 y3, .int .i64 y4, .int .i64 y5, .int .i64 y6, .slice C1 Cn1 Cc1, .slice C2 Cn2 Cc2, .slice C3 Cn3 Cc3, .slice C4 Cn4 Cc4] TMs 3
      have z4 := cell_new w8 #[.int .i64 y1, .int .i64 y2, .int .i64 y3, .int .i64 y4, .int .i64 y5, .int .i64 y6, .slice C1 Cn1 Cc1, .slice C2 Cn2 Cc2, .slice C3 Cn3 Cc3, .slice C4 Cn4 Cc4] TMs 4
      have z5 := cell_new w8 #[.int .i64 y1, .int .i64 y2, .int .i64 y3, .int .i64 y4, .int .i64 y5, .int .i64 y6, .slice C1 Cn1 Cc1, .slice C2 Cn2 Cc2, .slice C3 Cn3 Cc3, .slice C4 Cn4 Cc4] TMs 5
      have z6 := cell_new w8 #[.int .i64 y1, .int .i64 y2, .int .i64 y3, .int .i64 y4, .int .i64 y5, .int .i64 y6, .slice C1 Cn1 Cc1, .slice C2 Cn2 Cc2, .slice C3 Cn3 Cc3, .slice C4 Cn4 Cc4] TMs 6
      have z7 := cell_new w8 #[.int .i64 y1, .int .i64 y2, .int .i64 y3, .int .i64 y4, .int .i64 y5, .int .i64 y6, .slice C1 Cn1 Cc1, .slice C2 Cn2 Cc2, .slice C3 Cn3 Cc3, .slice C4 Cn4 Cc4] TMs 7
      have z8 := cell_new w8 #[.int .i64 y1, .int .i64 y2, .int .i64 y3, .int .i64 y4, .int .i64 y5, .int .i64 y6, .slice C1 Cn1 Cc1, .slice C2 Cn2 Cc2, .slice C3 Cn3 Cc3, .slice C4 Cn4 Cc4] TMs 8
      have z9 := cell_new w8 #[.int .i64 y1, .int .i64 y2, .int .i64 y3, .int .i64 y4, .int .i64 y5, .int .i64 y6, .slice C1 Cn1 Cc1, .slice C2 Cn2 Cc2, .slice C3 Cn3 Cc3, .slice C4 Cn4 Cc4] TMs 9
      have hx9 := Ext.alloc w8 (.cells #[.int .i64 y1, .int .i64 y2, .int .i64 y3, .int .i64 y4, .int .i64 y5, .int .i64 y6, .slice C1 Cn1 Cc1, .slice C2 Cn2 Cc2, .slice C3 Cn3 Cc3, .slice C4 Cn4 Cc4] TMs)
      replace gx := (gx.trans hx8).trans hx9
      replace hb7 := (hb7.ext hx8).ext hx9
      replace h8 := h8.ext hx9
      clear hx8 hx9
      go_wp2_with fail
      refine (msg_Put h8 HF HSH HR HPL).mono ?_
      rintro e w9 ⟨A9, n9, c9, rfl, hb9, hx9⟩
      have her : (if true = true then (0 : Int) else 1) = 0 := rfl
      rw [her]
      clear her
      have t1 := run_text_u8 hb9.sl
      have t2 := run_text_u8 (hb7.ext hx9)
      have q9 := hb9.sl.n63
      replace gx := gx.trans hx9
      clear hx9 h8 hb7 hb9 z0 z1 z2 z3 z4 z5 z6 z7 z8 z9
      go_wp2_with fail
      refine (law9_known _).mono ?_
      rintro e wz ⟨rfl, hxz⟩
      go_wp2_with fail
      go_ret
      exact ⟨rfl, gx.trans hxz⟩
end Go.Proofs.Ytoeknbogaclfdaa

namespace Go.Proofs.Ytoeknbogaclfdaa
open Go.ChangeShapes Go.WideShapes Go.ChangeAt Go.RowKit Go.Deep
set_option linter.unusedVariables false
set_option maxRecDepth 100000

/-- the cells of a slice that came in, as bytes -/
theorem sl_open {w : World} {x : Addr} {len cap : Nat} {zs : List Int} (hl : len ≤ cap) (hm : cap ≤ maxLen) (hz : len ≤ zs.length) (hcell : ∀ i, i < zs.length → w.cell? (x.add i) = some (.int .u8 (zs.getD i 0))) (hwz : ∀ n ∈ zs, (Lit.int .u8 n).wf = true) :
    Sl w (some x) len cap ((zs.take len).map fun z => UInt8.ofNat z.toNat) := by
  refine ⟨by simp; omega, hl, hm, by simp; omega, fun _ => ⟨x, rfl, fun j u hu => ?_⟩⟩
  simp only [List.getElem?_map, List.getElem?_take] at hu
  split at hu
  · rename_i hj
    have hj2 : j < zs.length := by omega
    rw [hcell j hj2]
    rw [List.getElem?_eq_getElem hj2] at hu
    simp only [Option.map_some, Option.some.injEq] at hu
    have hb := bounds_u8 (hwz zs[j] (List.getElem_mem hj2))
    rw [← hu, List.getD_eq_getElem?_getD, List.getElem?_eq_getElem hj2]
    simp only [Option.getD_some, UInt8.toNat_ofNat', Option.some.injEq, Value.int.injEq, true_and]
    omega
  · simp at hu

section
variable {H : Type} {enc : TypeId × Value → H} {w : World} {base : Nat} {spare : Nat → Bool} {held : Bool}
theorem open_bytes {fuel : Nat} {u : Value} {x : DataW H × List MemPlace} (h : DataW.trod enc Try.prog w base spare held fuel 23 [u] = some x) : ∃ A n c l, u = .slice A n c ∧ Sl w A n c l := by
  rcases open_ints under_bytes under_u8 (by kernel_rfl) h with ⟨hcs, _⟩ | ⟨a, len, cap, zs, hcs, _, hl, hm, hz, _, hcell, hwz⟩
  · simp at hcs
    subst hcs
    exact ⟨_, _, _, [], rfl, Sl.nil _⟩
  · simp at hcs
    subst hcs
    exact ⟨_, _, _, _, rfl, sl_open hl hm (by rw [hz]; split <;> omega) hcell hwz⟩
theorem open_i64 {fuel : Nat} {u : Value} {x : DataW H × List MemPlace} {t : TypeId} (ht : Try.prog.underlying t = some (.int .i64)) (h : DataW.trod enc Try.prog w base spare held fuel t [u] = some x) : ∃ k : Int, u = .int .i64 k ∧ -9223372036854775808 ≤ k ∧ k ≤ 9223372036854775807 := by
  obtain ⟨k, hcs, _, hwf⟩ := DataW.trod_int ht h
  simp at hcs
  exact ⟨k, hcs, bounds_i64 hwf⟩
theorem open_str {fuel : Nat} {u : Value} {x : DataW H × List MemPlace} (h : DataW.trod enc Try.prog w base spare held fuel 9 [u] = some x) : ∃ s : ByteArray, u = .string s ∧ s.size ≤ maxLen := by
  obtain ⟨s, hcs, _, hs⟩ := DataW.trod_string under_str h
  simp at hcs
  exact ⟨s, hcs, hs⟩
/-- a struct's cells: each field's own reading -/
theorem open_cells {t : TypeId} {fs : Array Field} {fuel : Nat} {cs : List Value} {x : DataW H × List MemPlace} (hs : Try.prog.underlying t = some (.struct fs)) (hone : oneCellFields Try.prog fs = true)
    (h : DataW.trod enc Try.prog w base spare held fuel t cs = some x) (hC : Try.prog.cellsOf t = fs.size) :
    cs.length = fs.size ∧ ∀ (i : Nat) (f : Field), fs[i]? = some f → ∃ (u : Value) (y : DataW H × List MemPlace) (m : Nat), cs[i]? = some u ∧ DataW.trod enc Try.prog w base spare held m f.type [u] = some y := by
  obtain ⟨xs, n, _, _, hlen, hxl, hf⟩ := DataW.trod_struct hs h
  rw [hC] at hlen
  refine ⟨hlen, fun i f hi => ?_⟩
  obtain ⟨ho, hk⟩ := hone_of hone i f hi
  have hil : i < fs.size := (Array.getElem?_eq_some_iff.1 hi).1
  have h1 := hf i f hi
  rw [ho, hk, List.drop_eq_getElem_cons (by omega), List.take_succ_cons, List.take_zero, List.getElem?_eq_getElem (by omega)] at h1
  exact ⟨_, _, n, List.getElem?_eq_getElem (by omega), h1⟩
def structOk (P : Program) (t : TypeId) (ts : Array TypeId) : Bool := match P.underlying t with
  | some (.struct fs) => (fs.map (·.type) == ts) && (oneCellFields P fs && P.cellsOf t == fs.size)
  | _ => false
theorem structOk_of {P : Program} {t : TypeId} {ts : Array TypeId} (h : structOk P t ts = true) : ∃ fs : Array Field, P.underlying t = some (.struct fs) ∧ fs.map (·.type) = ts ∧ oneCellFields P fs = true ∧ P.cellsOf t = fs.size := by
  unfold structOk at h
  split at h
  · rename_i fs hu
    simp only [Bool.and_eq_true, beq_iff_eq] at h
    exact ⟨fs, hu, h.1, h.2.1, h.2.2⟩
  · cases h
theorem under_i64 : Try.prog.underlying 3 = some (.int .i64) := by kernel_rfl
end
end Go.Proofs.Ytoeknbogaclfdaa

namespace Go.Proofs.Ytoeknbogaclfdaa
open Go.ChangeShapes Go.WideShapes Go.ChangeAt Go.RowKit Go.Deep
set_option linter.unusedVariables false
set_option maxRecDepth 100000
section
variable {H : Type} {enc : TypeId × Value → H} {w : World} {base : Nat} {spare : Nat → Bool} {held : Bool}
theorem open_lst_cells {α : Type} {size : Nat} {R : α → List Value → World → Prop} {Q : α → Prop} {t e : TypeId} (ht : Try.prog.underlying t = some (.slice e)) (hsz : Try.prog.cellsOf e = size) (hR : Rep size R)
    (hel : ∀ (fuel : Nat) (cs : List Value) (x : DataW H × List MemPlace), DataW.trod enc Try.prog w base spare held fuel e cs = some x → ∃ a, R a cs w ∧ Q a)
    {fuel : Nat} {u : Value} {x : DataW H × List MemPlace} (h : DataW.trod enc Try.prog w base spare held fuel t [u] = some x) : ∃ A n c xs, u = .slice A n c ∧ Lst size R w A n c xs ∧ ∀ a ∈ xs, Q a := by
  rcases open_slice ht h with ⟨hcs, _⟩ | ⟨a, len, cap, m, n, D, Pl, hcs, _, hl, hm, hmm, _, hx⟩
  · simp at hcs
    subst hcs
    exact ⟨_, _, _, [], rfl, Lst.nil _, by simp⟩
  · simp at hcs
    subst hcs
    have hlm : len ≤ m := by rw [hmm]; split <;> omega
    have step : ∀ k, k ≤ len → ∃ (xs : List α) (css : List (List Value)), xs.length = k ∧ All2 R w xs css ∧ (∀ x ∈ xs, Q x) ∧ ∀ (j : Nat) (v : Value), css.flatten[j]? = some v → w.cell? (a.add j) = some v := by
      intro k
      induction k with
      | zero => exact fun _ => ⟨[], [], rfl, .nil, by simp, fun j v hv => by simp at hv⟩
      | succ k ih =>
        intro hk
        obtain ⟨xs, css, e1, e2, e3, e4⟩ := ih (by omega)
        obtain ⟨cs, c1, c2⟩ := hx k (by omega)
        obtain ⟨y, hy, hq⟩ := hel _ _ _ c2
        obtain ⟨_, hcl, hcc⟩ := World.cells?_some c1
        rw [hsz] at hcl hcc
        refine ⟨xs ++ [y], css ++ [cs], by simp [e1], e2.append (.cons hy .nil), ?_, ?_⟩
        · intro z hz
          rcases List.mem_append.1 hz with hz | hz
          · exact e3 z hz
          · simp at hz
            exact hz ▸ hq
        · intro j v hv
          have hfl := e2.flat hR
          rw [e1] at hfl
          rw [List.flatten_append, List.flatten_cons, List.flatten_nil, List.append_nil, List.getElem?_append] at hv
          split at hv
          · exact e4 j v hv
          · rename_i hj
            rw [hfl] at hj hv
            have hjl : j - k * size < cs.length := (List.getElem?_eq_some_iff.1 hv).1
            have := hcc (j - k * size) (by omega)
            rw [add_add, show k * size + (j - k * size) = j by omega] at this
            rw [this]
            exact hv
    obtain ⟨xs, css, e1, e2, e3, e4⟩ := step len (Nat.le_refl _)
    exact ⟨some a, len, cap, xs, rfl, ⟨e1, hl, hm, css, e2, by rw [e2.flat hR, e1], fun _ => ⟨a, rfl, e4⟩⟩, e3⟩
theorem open_lst {α : Type} {size : Nat} {R : α → List Value → World → Prop} {Q : α → Prop} {t e : TypeId} (ht : Try.prog.underlying t = some (.slice e)) (hsz : Try.prog.cellsOf e = size) (hR : Rep size R)
    (hel : ∀ (fuel : Nat) (cs : List Value) (x : DataW H × List MemPlace), DataW.trod enc Try.prog w base spare held fuel e cs = some x → ∃ a, R a cs w ∧ Q a)
    {r : Reach} {b0 : Nat} {v : Value} {d : DataW H} {p : List MemPlace} (hv : Value.okWide Try.prog w r b0 t v) (h : DataW.Trod enc Try.prog w base spare held t v d p) :
    ∃ A n c xs, v = .slice A n c ∧ Lst size R w A n c xs ∧ ∀ a ∈ xs, Q a := by
  obtain ⟨a, len, cap, rfl⟩ := okWide_slice ht hv
  obtain ⟨fuel, hf⟩ := h
  exact open_lst_cells ht hsz hR hel hf
end
end Go.Proofs.Ytoeknbogaclfdaa
