/-
  Chapter 9: the statement MsgTells, walked.
-/
import Derived.Test.YtoeknbogaclfdaaZFromMsGetToMake9b
import Derived.Test.YtoeknbogaclfdaaZMsGetR
namespace Go.Proofs.Ytoeknbogaclfdaa
open Go.RowKit
set_option linter.unusedVariables false
set_option linter.unusedSimpArgs false
set_option linter.unnecessarySimpa false
set_option maxRecDepth 100000
set_option maxHeartbeats 8000000 in
theorem law_MsgTells (m : Ms) (R1 : Option Addr) (Rn1 Rc1 : Nat) (R2 : Option Addr) (Rn2 Rc2 : Nat) (R3 : Option Addr) (Rn3 Rc3 : Nat) (R4 : Option Addr) (Rn4 Rc4 : Nat) (AP : Option Addr) (n1 c1 : Nat) (b : List UInt8) (sl : Bool) (w : World) (h : MsR w m R1 Rn1 Rc1 R2 Rn2 Rc2 R3 Rn3 Rc3 R4 Rn4 Rc4) (hs : ∀ x ∈ m.marks, x.nm.size ≤ maxLen) (hf : EnFit m.ents) (hb : Sl w AP n1 c1 b) :
    Calls Try.prog 9 #[msV m R1 Rn1 Rc1 R2 Rn2 Rc2 R3 Rn3 Rc3 R4 Rn4 Rc4, .slice AP n1 c1, .bool sl] w fun e w' => e = .returned (.bool true) ∧ Ext w w' := by
  have h63 := h.n63
  have hb63 := hb.n63
  have HSM := Lib.hid hs
  have HF := Lib.hid hf
  obtain ⟨res, hres⟩ : ∃ q, fewM m = q := ⟨_, rfl⟩
  have HRS := Lib.hid hres
  have HMS := Lib.hid h
  obtain ⟨r1, r2, r3, r4, r5, r6, ra, rb, rc, rd⟩ := m
  simp only at hs hf HSM HF
  have gx0 : Ext w (w.alloc (.cells #[.int .i64 r1, .int .i64 r2, .int .i64 r3, .int .i64 r4, .int .i64 r5, .int .i64 r6, .slice R1 Rn1 Rc1, .slice R2 Rn2 Rc2, .slice R3 Rn3 Rc3, .slice R4 Rn4 Rc4] TMs)) := Ext.alloc _ _
  clear hs hf HMS
  cases res with
  | false =>
    clear hres
    go_enter Try.func9, Try.ntmps9
    go_wp2_with fail
    refine (law9_few (h.ext gx0) HSM HRS).mono ?_
    rintro e u1 ⟨rfl, hx1⟩
    go_wp2_with fail
    refine (law9_known u1).mono ?_
    rintro e wz ⟨rfl, hxz⟩
    go_wp2_with fail
    go_ret
    exact ⟨rfl, (gx0.trans hx1).trans hxz⟩
  | true =>
  by_cases hn300 : 300 < n1
  · clear hres
    go_enter Try.func9, Try.ntmps9
    go_wp2_with fail
    refine (law9_few (h.ext gx0) HSM HRS).mono ?_
    rintro e u1 ⟨rfl, hx1⟩
    go_wp2_with fail
    refine (law9_known u1).mono ?_
    rintro e wz ⟨rfl, hxz⟩
    go_wp2_with fail
    go_ret
    exact ⟨rfl, (gx0.trans hx1).trans hxz⟩
  have d300 : decide ((300 : Int) < (n1 : Int)) = false := by simp; omega
  have hfw := fewM_iff.1 hres
  have HSH : Hid (Shorts rc) := fun x hx => by have := hfw.1.2 x hx; omega
  have HFEW := HRS
  clear HRS hfw hres
  obtain ⟨B, hB⟩ : ∃ B, (if sl = true then put b (crcOf b) 4 else b) = B := ⟨_, rfl⟩
  obtain ⟨r, hr⟩ : ∃ q, rightM ⟨r1, r2, r3, r4, r5, r6, ra, rb, rc, rd⟩ = q := ⟨_, rfl⟩
  have HR := Lib.hid hr
  obtain ⟨L, hL⟩ : ∃ q, putMr ⟨r1, r2, r3, r4, r5, r6, ra, rb, rc, rd⟩ r = q := ⟨_, rfl⟩
  have HL := Lib.hid hL
  obtain ⟨er, her⟩ : ∃ q : Int, (if r = true then (0 : Int) else 1) = q := ⟨_, rfl⟩
  obtain ⟨o, ho⟩ : ∃ q, getM false B = q := ⟨_, rfl⟩
  have HO := Lib.hid ho
  have HO2 : Hid (getM true B = o) := by unfold Hid; rw [getM_ref, ho]
  obtain ⟨y, hy⟩ : ∃ q, whyO (crcOpen B) o.isSome = q := ⟨_, rfl⟩
  have HY := Lib.hid hy
  obtain ⟨P, hP⟩ : ∃ q, o.getD ms0 = q := ⟨_, rfl⟩
  have HP := Lib.hid hP
  obtain ⟨p1, p2, p3, p4, p5, p6, pa, pb, pc, pd⟩ := P
  have HSS : Hid (sameMs ⟨p1, p2, p3, p4, p5, p6, pa, pb, pc, pd⟩ ⟨p1, p2, p3, p4, p5, p6, pa, pb, pc, pd⟩ = true) := by unfold Hid sameMs; simp
  have HSA : Hid (sameMs ⟨r1, r2, r3, r4, r5, r6, ra, rb, rc, rd⟩ ⟨r1, r2, r3, r4, r5, r6, ra, rb, rc, rd⟩ = true) := by unfold Hid sameMs; simp
  obtain ⟨sp, hsp⟩ : ∃ q, sameMs ⟨r1, r2, r3, r4, r5, r6, ra, rb, rc, rd⟩ ⟨p1, p2, p3, p4, p5, p6, pa, pb, pc, pd⟩ = q := ⟨_, rfl⟩
  have HSP := Lib.hid hsp
  clear hr hL ho hy hP hsp
  go_enter Try.func9, Try.ntmps9
  go_wp2_with fail
  refine (law9_few (h.ext gx0) HSM HFEW).mono ?_
  rintro e u1 ⟨rfl, hx1⟩
  have b0 := hx1.cell (cell_new w #[.int .i64 r1, .int .i64 r2, .int .i64 r3, .int .i64 r4, .int .i64 r5, .int .i64 r6, .slice R1 Rn1 Rc1, .slice R2 Rn2 Rc2, .slice R3 Rn3 Rc3, .slice R4 Rn4 Rc4] TMs 0)
  have b1 := hx1.cell (cell_new w #[.int .i64 r1, .int .i64 r2, .int .i64 r3, .int .i64 r4, .int .i64 r5, .int .i64 r6, .slice R1 Rn1 Rc1, .slice R2 Rn2 Rc2, .slice R3 Rn3 Rc3, .slice R4 Rn4 Rc4] TMs 1)
  have b2 := hx1.cell (cell_new w #[.int .i64 r1, .int .i64 r2, .int .i64 r3, .int .i64 r4, .int .i64 r5, .int .i64 r6, .slice R1 Rn1 Rc1, .slice R2 Rn2 Rc2, .slice R3 Rn3 Rc3, .slice R4 Rn4 Rc4] TMs 2)
  have b3 := hx1.cell (cell_new w #[.int .i64 r1, .int .i64 r2, .int .i64 r3, .int .i64 r4, .int .i64 r5, .int .i64 r6, .slice R1 Rn1 Rc1, .slice R2 Rn2 Rc2, .slice R3 Rn3 Rc3, .slice R4 Rn4 Rc4] TMs 3)
  have b4 := hx1.cell (cell_new w #[.int .i64 r1, .int .i64 r2, .int .i64 r3, .int .i64 r4, .int .i64 r5, .int .i64 r6, .slice R1 Rn1 Rc1, .slice R2 Rn2 Rc2, .slice R3 Rn3 Rc3, .slice R4 Rn4 Rc4] TMs 4)
  have b5 := hx1.cell (cell_new w #[.int .i64 r1, .int .i64 r2, .int .i64 r3, .int .i64 r4, .int .i64 r5, .int .i64 r6, .slice R1 Rn1 Rc1, .slice R2 Rn2 Rc2, .slice R3 Rn3 Rc3, .slice R4 Rn4 Rc4] TMs 5)
  have b6 := hx1.cell (cell_new w #[.int .i64 r1, .int .i64 r2, .int .i64 r3, .int .i64 r4, .int .i64 r5, .int .i64 r6, .slice R1 Rn1 Rc1, .slice R2 Rn2 Rc2, .slice R3 Rn3 Rc3, .slice R4 Rn4 Rc4] TMs 6)
  have b7 := hx1.cell (cell_new w #[.int .i64 r1, .int .i64 r2, .int .i64 r3, .int .i64 r4, .int .i64 r5, .int .i64 r6, .slice R1 Rn1 Rc1, .slice R2 Rn2 Rc2, .slice R3 Rn3 Rc3, .slice R4 Rn4 Rc4] TMs 7)
  have b8 := hx1.cell (cell_new w #[.int .i64 r1, .int .i64 r2, .int .i64 r3, .int .i64 r4, .int .i64 r5, .int .i64 r6, .slice R1 Rn1 Rc1, .slice R2 Rn2 Rc2, .slice R3 Rn3 Rc3, .slice R4 Rn4 Rc4] TMs 8)
  have b9 := hx1.cell (cell_new w #[.int .i64 r1, .int .i64 r2, .int .i64 r3, .int .i64 r4, .int .i64 r5, .int .i64 r6, .slice R1 Rn1 Rc1, .slice R2 Rn2 Rc2, .slice R3 Rn3 Rc3, .slice R4 Rn4 Rc4] TMs 9)
  have gx1 := gx0.trans hx1
  clear gx0 hx1 HSM HFEW
  cases sl with
  | false =>
    obtain rfl : b = B := hB
    have hsB := hb.ext gx1
    have hnB : n1 ≤ 304 := by omega
    have lm := h.ext gx1
    go_wp2_with fail
    refine (msg_Put (m := ⟨r1, r2, r3, r4, r5, r6, ra, rb, rc, rd⟩) lm HF HSH HR HL).mono ?_
    rintro e w2 ⟨X2, m2, k2, rfl, hb2, hx2⟩
    rw [her]
    replace b0 := hx2.cell b0
    replace b1 := hx2.cell b1
    replace b2 := hx2.cell b2
    replace b3 := hx2.cell b3
    replace b4 := hx2.cell b4
    replace b5 := hx2.cell b5
    replace b6 := hx2.cell b6
    replace b7 := hx2.cell b7
    replace b8 := hx2.cell b8
    replace b9 := hx2.cell b9
    replace gx1 := gx1.trans hx2
    replace hsB := hsB.ext hx2
    replace lm := lm.ext hx2
    clear hx2
    go_wp2_with fail
    refine (ref_PutMsg (m := ⟨r1, r2, r3, r4, r5, r6, ra, rb, rc, rd⟩) lm HF HSH HR HL).mono ?_
    rintro e w3 ⟨X3, m3, k3, rfl, hb3, hx3⟩
    rw [her]
    replace b0 := hx3.cell b0
    replace b1 := hx3.cell b1
    replace b2 := hx3.cell b2
    replace b3 := hx3.cell b3
    replace b4 := hx3.cell b4
    replace b5 := hx3.cell b5
    replace b6 := hx3.cell b6
    replace b7 := hx3.cell b7
    replace b8 := hx3.cell b8
    replace b9 := hx3.cell b9
    replace gx1 := gx1.trans hx3
    replace hsB := hsB.ext hx3
    replace lm := lm.ext hx3
    have tb2 := hb2.sl.ext hx3
    have tb3 := hb3.sl
    clear hx3 hb2 hb3
    go_wp2_with fail
    have hgc := msg_Get hsB (by omega) HO HY
    rw [HP.out] at hgc
    refine hgc.mono ?_
    rintro e w4 ⟨P1, Pn1, Pc1, P2, Pn2, Pc2, P3, Pn3, Pc3, P4, Pn4, Pc4, rfl, l4, hx4⟩
    clear hgc
    have hx5 := hx4.allocs (.cells #[.int .i64 p1, .int .i64 p2, .int .i64 p3, .int .i64 p4, .int .i64 p5, .int .i64 p6, .slice P1 Pn1 Pc1, .slice P2 Pn2 Pc2, .slice P3 Pn3 Pc3, .slice P4 Pn4 Pc4] TMs)
    replace b0 := hx5.cell b0
    have d0 := cell_new w4 #[.int .i64 p1, .int .i64 p2, .int .i64 p3, .int .i64 p4, .int .i64 p5, .int .i64 p6, .slice P1 Pn1 Pc1, .slice P2 Pn2 Pc2, .slice P3 Pn3 Pc3, .slice P4 Pn4 Pc4] TMs 0
    replace b1 := hx5.cell b1
    have d1 := cell_new w4 #[.int .i64 p1, .int .i64 p2, .int .i64 p3, .int .i64 p4, .int .i64 p5, .int .i64 p6, .slice P1 Pn1 Pc1, .slice P2 Pn2 Pc2, .slice P3 Pn3 Pc3, .slice P4 Pn4 Pc4] TMs 1
    replace b2 := hx5.cell b2
    have d2 := cell_new w4 #[.int .i64 p1, .int .i64 p2, .int .i64 p3, .int .i64 p4, .int .i64 p5, .int .i64 p6, .slice P1 Pn1 Pc1, .slice P2 Pn2 Pc2, .slice P3 Pn3 Pc3, .slice P4 Pn4 Pc4] TMs 2
    replace b3 := hx5.cell b3
    have d3 := cell_new w4 #[.int .i64 p1, .int .i64 p2, .int .i64 p3, .int .i64 p4, .int .i64 p5, .int .i64 p6, .slice P1 Pn1 Pc1, .slice P2 Pn2 Pc2, .slice P3 Pn3 Pc3, .slice P4 Pn4 Pc4] TMs 3
    replace b4 := hx5.cell b4
    have d4 := cell_new w4 #[.int .i64 p1, .int .i64 p2, .int .i64 p3, .int .i64 p4, .int .i64 p5, .int .i64 p6, .slice P1 Pn1 Pc1, .slice P2 Pn2 Pc2, .slice P3 Pn3 Pc3, .slice P4 Pn4 Pc4] TMs 4
    replace b5 := hx5.cell b5
    have d5 := cell_new w4 #[.int .i64 p1, .int .i64 p2, .int .i64 p3, .int .i64 p4, .int .i64 p5, .int .i64 p6, .slice P1 Pn1 Pc1, .slice P2 Pn2 Pc2, .slice P3 Pn3 Pc3, .slice P4 Pn4 Pc4] TMs 5
    replace b6 := hx5.cell b6
    have d6 := cell_new w4 #[.int .i64 p1, .int .i64 p2, .int .i64 p3, .int .i64 p4, .int .i64 p5, .int .i64 p6, .slice P1 Pn1 Pc1, .slice P2 Pn2 Pc2, .slice P3 Pn3 Pc3, .slice P4 Pn4 Pc4] TMs 6
    replace b7 := hx5.cell b7
    have d7 := cell_new w4 #[.int .i64 p1, .int .i64 p2, .int .i64 p3, .int .i64 p4, .int .i64 p5, .int .i64 p6, .slice P1 Pn1 Pc1, .slice P2 Pn2 Pc2, .slice P3 Pn3 Pc3, .slice P4 Pn4 Pc4] TMs 7
    replace b8 := hx5.cell b8
    have d8 := cell_new w4 #[.int .i64 p1, .int .i64 p2, .int .i64 p3, .int .i64 p4, .int .i64 p5, .int .i64 p6, .slice P1 Pn1 Pc1, .slice P2 Pn2 Pc2, .slice P3 Pn3 Pc3, .slice P4 Pn4 Pc4] TMs 8
    replace b9 := hx5.cell b9
    have d9 := cell_new w4 #[.int .i64 p1, .int .i64 p2, .int .i64 p3, .int .i64 p4, .int .i64 p5, .int .i64 p6, .slice P1 Pn1 Pc1, .slice P2 Pn2 Pc2, .slice P3 Pn3 Pc3, .slice P4 Pn4 Pc4] TMs 9
    replace gx1 := gx1.trans hx5
    replace hsB := hsB.ext hx5
    replace lm := lm.ext hx5
    replace tb2 := tb2.ext hx5
    replace tb3 := tb3.ext hx5
    have l4' := l4.ext (Ext.alloc w4 (.cells #[.int .i64 p1, .int .i64 p2, .int .i64 p3, .int .i64 p4, .int .i64 p5, .int .i64 p6, .slice P1 Pn1 Pc1, .slice P2 Pn2 Pc2, .slice P3 Pn3 Pc3, .slice P4 Pn4 Pc4] TMs))
    clear hx4 hx5 l4
    go_wp2_with fail
    have hgc := ref_GetMsg hsB (by omega) HO2 HY
    rw [HP.out] at hgc
    refine hgc.mono ?_
    rintro e w6 ⟨Q1, Qn1, Qc1, Q2, Qn2, Qc2, Q3, Qn3, Qc3, Q4, Qn4, Qc4, rfl, l6, hx6⟩
    clear hgc
    have hx7 := hx6.allocs (.cells #[.int .i64 p1, .int .i64 p2, .int .i64 p3, .int .i64 p4, .int .i64 p5, .int .i64 p6, .slice Q1 Qn1 Qc1, .slice Q2 Qn2 Qc2, .slice Q3 Qn3 Qc3, .slice Q4 Qn4 Qc4] TMs)
    replace b0 := hx7.cell b0
    replace d0 := hx7.cell d0
    have f0 := cell_new w6 #[.int .i64 p1, .int .i64 p2, .int .i64 p3, .int .i64 p4, .int .i64 p5, .int .i64 p6, .slice Q1 Qn1 Qc1, .slice Q2 Qn2 Qc2, .slice Q3 Qn3 Qc3, .slice Q4 Qn4 Qc4] TMs 0
    replace b1 := hx7.cell b1
    replace d1 := hx7.cell d1
    have f1 := cell_new w6 #[.int .i64 p1, .int .i64 p2, .int .i64 p3, .int .i64 p4, .int .i64 p5, .int .i64 p6, .slice Q1 Qn1 Qc1, .slice Q2 Qn2 Qc2, .slice Q3 Qn3 Qc3, .slice Q4 Qn4 Qc4] TMs 1
    replace b2 := hx7.cell b2
    replace d2 := hx7.cell d2
    have f2 := cell_new w6 #[.int .i64 p1, .int .i64 p2, .int .i64 p3, .int .i64 p4, .int .i64 p5, .int .i64 p6, .slice Q1 Qn1 Qc1, .slice Q2 Qn2 Qc2, .slice Q3 Qn3 Qc3, .slice Q4 Qn4 Qc4] TMs 2
    replace b3 := hx7.cell b3
    replace d3 := hx7.cell d3
    have f3 := cell_new w6 #[.int .i64 p1, .int .i64 p2, .int .i64 p3, .int .i64 p4, .int .i64 p5, .int .i64 p6, .slice Q1 Qn1 Qc1, .slice Q2 Qn2 Qc2, .slice Q3 Qn3 Qc3, .slice Q4 Qn4 Qc4] TMs 3
    replace b4 := hx7.cell b4
    replace d4 := hx7.cell d4
    have f4 := cell_new w6 #[.int .i64 p1, .int .i64 p2, .int .i64 p3, .int .i64 p4, .int .i64 p5, .int .i64 p6, .slice Q1 Qn1 Qc1, .slice Q2 Qn2 Qc2, .slice Q3 Qn3 Qc3, .slice Q4 Qn4 Qc4] TMs 4
    replace b5 := hx7.cell b5
    replace d5 := hx7.cell d5
    have f5 := cell_new w6 #[.int .i64 p1, .int .i64 p2, .int .i64 p3, .int .i64 p4, .int .i64 p5, .int .i64 p6, .slice Q1 Qn1 Qc1, .slice Q2 Qn2 Qc2, .slice Q3 Qn3 Qc3, .slice Q4 Qn4 Qc4] TMs 5
    replace b6 := hx7.cell b6
    replace d6 := hx7.cell d6
    have f6 := cell_new w6 #[.int .i64 p1, .int .i64 p2, .int .i64 p3, .int .i64 p4, .int .i64 p5, .int .i64 p6, .slice Q1 Qn1 Qc1, .slice Q2 Qn2 Qc2, .slice Q3 Qn3 Qc3, .slice Q4 Qn4 Qc4] TMs 6
    replace b7 := hx7.cell b7
    replace d7 := hx7.cell d7
    have f7 := cell_new w6 #[.int .i64 p1, .int .i64 p2, .int .i64 p3, .int .i64 p4, .int .i64 p5, .int .i64 p6, .slice Q1 Qn1 Qc1, .slice Q2 Qn2 Qc2, .slice Q3 Qn3 Qc3, .slice Q4 Qn4 Qc4] TMs 7
    replace b8 := hx7.cell b8
    replace d8 := hx7.cell d8
    have f8 := cell_new w6 #[.int .i64 p1, .int .i64 p2, .int .i64 p3, .int .i64 p4, .int .i64 p5, .int .i64 p6, .slice Q1 Qn1 Qc1, .slice Q2 Qn2 Qc2, .slice Q3 Qn3 Qc3, .slice Q4 Qn4 Qc4] TMs 8
    replace b9 := hx7.cell b9
    replace d9 := hx7.cell d9
    have f9 := cell_new w6 #[.int .i64 p1, .int .i64 p2, .int .i64 p3, .int .i64 p4, .int .i64 p5, .int .i64 p6, .slice Q1 Qn1 Qc1, .slice Q2 Qn2 Qc2, .slice Q3 Qn3 Qc3, .slice Q4 Qn4 Qc4] TMs 9
    replace gx1 := gx1.trans hx7
    replace lm := lm.ext hx7
    replace tb2 := tb2.ext hx7
    replace tb3 := tb3.ext hx7
    replace l4' := l4'.ext hx7
    have l6' := l6.ext (Ext.alloc w6 (.cells #[.int .i64 p1, .int .i64 p2, .int .i64 p3, .int .i64 p4, .int .i64 p5, .int .i64 p6, .slice Q1 Qn1 Qc1, .slice Q2 Qn2 Qc2, .slice Q3 Qn3 Qc3, .slice Q4 Qn4 Qc4] TMs))
    clear hx6 hx7 l6 hsB
    go_upto_region 9 with fail
    obtain ⟨wf, hwf⟩ : ∃ q, q = w6.alloc (.cells #[.int .i64 p1, .int .i64 p2, .int .i64 p3, .int .i64 p4, .int .i64 p5, .int .i64 p6, .slice Q1 Qn1 Qc1, .slice Q2 Qn2 Qc2, .slice Q3 Qn3 Qc3, .slice Q4 Qn4 Qc4] TMs) := ⟨_, rfl⟩
    rw [← hwf] at b0 b1 b2 b3 b4 b5 b6 b7 b8 b9 d0 d1 d2 d3 d4 d5 d6 d7 d8 d9 f0 f1 f2 f3 f4 f5 f6 f7 f8 f9 gx1 lm tb2 tb3 l4' l6'
    rw [← hwf]
    clear hwf
    refine wp_region_typed Ext.steady rfl 91 rfl (by kernel_rfl) ?_
    apply Stage.step (Is _) [] (Is.keeps _) (by kernel_rfl)
    · intro w1 h1
      simp only [Given]
      go_wp2_with fail
      exact Post.isv (Ext.refl _) rfl rfl rfl
    apply Stage.step (Is (.string ⟨L.toArray⟩)) [true] (Is.keeps _) (by kernel_rfl)
    · intro w1 h1
      simp only [List.nil_append, Given]
      rintro _ rfl
      have tx := run_text_u8 (tb2.ext h1)
      go_wp2_with fail
      exact Post.isv (Ext.refl _) rfl rfl rfl
    apply Stage.step (Is _) [] (Is.keeps _) (by kernel_rfl)
    · intro w1 h1
      simp only [Given]
      go_wp2_with fail
      exact Post.isv (Ext.refl _) rfl rfl rfl
    apply Stage.step (Is (.string ⟨L.toArray⟩)) [false, false, true] (Is.keeps _) (by kernel_rfl)
    · intro w1 h1
      simp only [List.nil_append, List.cons_append, Given]
      rintro _ rfl
      have tx := run_text_u8 (tb3.ext h1)
      go_wp2_with fail
      exact Post.isv (Ext.refl _) rfl rfl rfl
    apply Stage.step (Is (.bool true)) [false, true, false, true] (Is.keeps _) (by kernel_rfl)
    · intro w1 h1
      simp only [List.nil_append, List.cons_append, Given]
      rintro _ rfl
      rintro _ rfl
      go_wp2_with fail
      exact Post.isv (Ext.refl _) rfl rfl rfl
    apply Stage.step (Is _) [false, false, false, false, true] (Is.keeps _) (by kernel_rfl)
    · intro w1 h1
      simp only [List.nil_append, List.cons_append, Given]
      rintro _ rfl
      go_wp2_with fail
      exact Post.isv (Ext.refl _) rfl rfl rfl
    apply Stage.step (Is _) [false, false, false, false, false, true] (Is.keeps _) (by kernel_rfl)
    · intro w1 h1
      simp only [List.nil_append, List.cons_append, Given]
      rintro _ rfl
      go_wp2_with fail
      exact Post.isv (Ext.refl _) rfl rfl rfl
    apply Stage.step (Is _) [false, false, false, false, false, true] (Is.keeps _) (by kernel_rfl)
    · intro w1 h1
      simp only [List.nil_append, List.cons_append, Given]
      rintro _ rfl
      go_wp2_with fail
      exact Post.isv (Ext.refl _) rfl rfl rfl
    apply Stage.step (Is (.bool true)) [false, false, false, false, false, true, true, true] (Is.keeps _) (by kernel_rfl)
    · intro w1 h1
      simp only [List.nil_append, List.cons_append, Given]
      rintro _ rfl
      rintro _ rfl
      rintro _ rfl
      go_wp2_with fail
      exact Post.isv (Ext.refl _) rfl rfl rfl
    apply Stage.step (Is (.bool true)) [false, false, false, false, false, true, false, false, true] (Is.keeps _) (by kernel_rfl)
    · intro w1 h1
      simp only [List.nil_append, List.cons_append, Given]
      rintro _ rfl
      rintro _ rfl
      go_wp2_with fail
      exact Post.isv (Ext.refl _) rfl rfl rfl
    apply Stage.step (Is _) [false, false, false, false, false, false, false, false, false, true] (Is.keeps _) (by kernel_rfl)
    · intro w1 h1
      simp only [List.nil_append, List.cons_append, Given]
      rintro _ rfl
      go_wp2_with fail
      exact Post.isv (Ext.refl _) rfl rfl rfl
    apply Stage.step (Is _) [false, false, false, false, false, false, false, false, false, false, true] (Is.keeps _) (by kernel_rfl)
    · intro w1 h1
      simp only [List.nil_append, List.cons_append, Given]
      rintro _ rfl
      go_wp2_with fail
      exact Post.isv (Ext.refl _) rfl rfl rfl
    apply Stage.step (Is _) [false, false, false, false, false, false, false, false, false, false, true] (Is.keeps _) (by kernel_rfl)
    · intro w1 h1
      simp only [List.nil_append, List.cons_append, Given]
      rintro _ rfl
      go_wp2_with fail
      exact Post.isv (Ext.refl _) rfl rfl rfl
    apply Stage.step (Is (.bool true)) [false, false, false, false, false, false, false, false, false, false, true, true, true] (Is.keeps _) (by kernel_rfl)
    · intro w1 h1
      simp only [List.nil_append, List.cons_append, Given]
      rintro _ rfl
      rintro _ rfl
      rintro _ rfl
      go_wp2_with fail
      exact Post.isv (Ext.refl _) rfl rfl rfl
    apply Stage.step (Is (.bool true)) [false, false, false, false, false, false, false, false, false, false, true, false, false, true] (Is.keeps _) (by kernel_rfl)
    · intro w1 h1
      simp only [List.nil_append, List.cons_append, Given]
      rintro _ rfl
      rintro _ rfl
      go_wp2_with fail
      exact Post.isv (Ext.refl _) rfl rfl rfl
    apply Stage.step (Is _) [false, false, false, false, false, false, false, false, false, false, false, false, false, false, true] (Is.keeps _) (by kernel_rfl)
    · intro w1 h1
      simp only [List.nil_append, List.cons_append, Given]
      rintro _ rfl
      go_wp2_with fail
      exact Post.isv (Ext.refl _) rfl rfl rfl
    apply Stage.step (Is (msV ⟨p1, p2, p3, p4, p5, p6, pa, pb, pc, pd⟩ P1 Pn1 Pc1 P2 Pn2 Pc2 P3 Pn3 Pc3 P4 Pn4 Pc4)) [false, false, false, false, false, false, false, false, false, false, false, false, false, false, false, true] (Is.keeps _) (by kernel_rfl)
    · intro w1 h1
      simp only [List.nil_append, List.cons_append, Given]
      rintro _ rfl
      have u0 := h1.cell d0
      have u1 := h1.cell d1
      have u2 := h1.cell d2
      have u3 := h1.cell d3
      have u4 := h1.cell d4
      have u5 := h1.cell d5
      have u6 := h1.cell d6
      have u7 := h1.cell d7
      have u8 := h1.cell d8
      have u9 := h1.cell d9
      go_wp2_with fail
      exact Post.isv (Ext.refl _) rfl rfl rfl
    apply Stage.step (Is (msV ⟨p1, p2, p3, p4, p5, p6, pa, pb, pc, pd⟩ Q1 Qn1 Qc1 Q2 Qn2 Qc2 Q3 Qn3 Qc3 Q4 Qn4 Qc4)) [false, false, false, false, false, false, false, false, false, false, false, false, false, false, false, true] (Is.keeps _) (by kernel_rfl)
    · intro w1 h1
      simp only [List.nil_append, List.cons_append, Given]
      rintro _ rfl
      have u0 := h1.cell f0
      have u1 := h1.cell f1
      have u2 := h1.cell f2
      have u3 := h1.cell f3
      have u4 := h1.cell f4
      have u5 := h1.cell f5
      have u6 := h1.cell f6
      have u7 := h1.cell f7
      have u8 := h1.cell f8
      have u9 := h1.cell f9
      go_wp2_with fail
      exact Post.isv (Ext.refl _) rfl rfl rfl
    apply Stage.step (Is (.bool true)) [false, false, false, false, false, false, false, false, false, false, false, false, false, false, false, true, true, true] (Is.keeps _) (by kernel_rfl)
    · intro w1 h1
      simp only [List.nil_append, List.cons_append, Given]
      rintro _ rfl
      rintro _ rfl
      rintro _ rfl
      go_wp2_with fail
      refine (ref_SameMsg (l4'.ext h1) (l6'.ext h1) HSS).mono ?_
      rintro e w2 ⟨rfl, hx2⟩
      go_wp2_with fail
      exact Post.isv hx2 rfl rfl rfl
    apply Stage.step (Is (.bool true)) [false, false, false, false, false, false, false, false, false, false, false, false, false, false, false, true, false, false, true] (Is.keeps _) (by kernel_rfl)
    · intro w1 h1
      simp only [List.nil_append, List.cons_append, Given]
      rintro _ rfl
      rintro _ rfl
      go_wp2_with fail
      exact Post.isv (Ext.refl _) rfl rfl rfl
    apply Stage.step (Is _) [false, false, false, false, false, false, false, false, false, false, false, false, false, false, false, false, false, false, false, true] (Is.keeps _) (by kernel_rfl)
    · intro w1 h1
      simp only [List.nil_append, List.cons_append, Given]
      rintro _ rfl
      go_wp2_with fail
      exact Post.isv (Ext.refl _) rfl rfl rfl
    apply Stage.step (Is (msV ⟨r1, r2, r3, r4, r5, r6, ra, rb, rc, rd⟩ R1 Rn1 Rc1 R2 Rn2 Rc2 R3 Rn3 Rc3 R4 Rn4 Rc4)) [false, false, false, false, false, false, false, false, false, false, false, false, false, false, false, false, false, false, false, false, true] (Is.keeps _) (by kernel_rfl)
    · intro w1 h1
      simp only [List.nil_append, List.cons_append, Given]
      rintro _ rfl
      have u0 := h1.cell b0
      have u1 := h1.cell b1
      have u2 := h1.cell b2
      have u3 := h1.cell b3
      have u4 := h1.cell b4
      have u5 := h1.cell b5
      have u6 := h1.cell b6
      have u7 := h1.cell b7
      have u8 := h1.cell b8
      have u9 := h1.cell b9
      go_wp2_with fail
      exact Post.isv (Ext.refl _) rfl rfl rfl
    apply Stage.step (Is (.bool r)) [false, false, false, false, false, false, false, false, false, false, false, false, false, false, false, false, false, false, false, false, true, true] (Is.keeps _) (by kernel_rfl)
    · intro w1 h1
      simp only [List.nil_append, List.cons_append, Given]
      rintro _ rfl
      rintro _ rfl
      go_wp2_with fail
      refine (msg_Right (m := ⟨r1, r2, r3, r4, r5, r6, ra, rb, rc, rd⟩) (lm.ext h1) HF HSH HR).mono ?_
      rintro e w2 ⟨rfl, hx2⟩
      go_wp2_with fail
      exact Post.isv hx2 rfl rfl rfl
    apply Stage.step (Is (msV ⟨r1, r2, r3, r4, r5, r6, ra, rb, rc, rd⟩ R1 Rn1 Rc1 R2 Rn2 Rc2 R3 Rn3 Rc3 R4 Rn4 Rc4)) [false, false, false, false, false, false, false, false, false, false, false, false, false, false, false, false, false, false, false, false, true] (Is.keeps _) (by kernel_rfl)
    · intro w1 h1
      simp only [List.nil_append, List.cons_append, Given]
      rintro _ rfl
      have u0 := h1.cell b0
      have u1 := h1.cell b1
      have u2 := h1.cell b2
      have u3 := h1.cell b3
      have u4 := h1.cell b4
      have u5 := h1.cell b5
      have u6 := h1.cell b6
      have u7 := h1.cell b7
      have u8 := h1.cell b8
      have u9 := h1.cell b9
      go_wp2_with fail
      exact Post.isv (Ext.refl _) rfl rfl rfl
    apply Stage.step (Is (.bool r)) [false, false, false, false, false, false, false, false, false, false, false, false, false, false, false, false, false, false, false, false, true, false, false, true] (Is.keeps _) (by kernel_rfl)
    · intro w1 h1
      simp only [List.nil_append, List.cons_append, Given]
      rintro _ rfl
      rintro _ rfl
      go_wp2_with fail
      refine (ref_RightMsg (m := ⟨r1, r2, r3, r4, r5, r6, ra, rb, rc, rd⟩) (lm.ext h1) HF HSH HR).mono ?_
      rintro e w2 ⟨rfl, hx2⟩
      go_wp2_with fail
      exact Post.isv hx2 rfl rfl rfl
    apply Stage.step (Is (.bool true)) [false, false, false, false, false, false, false, false, false, false, false, false, false, false, false, false, false, false, false, false, true, false, true, false, true] (Is.keeps _) (by kernel_rfl)
    · intro w1 h1
      simp only [List.nil_append, List.cons_append, Given]
      rintro _ rfl
      rintro _ rfl
      rintro _ rfl
      go_wp2_with fail
      exact Post.isv (Ext.refl _) rfl rfl rfl
    apply Stage.step (Is (.bool true)) [false, false, false, false, false, false, false, false, false, false, false, false, false, false, false, false, false, false, false, false, true, false, false, false, false, true] (Is.keeps _) (by kernel_rfl)
    · intro w1 h1
      simp only [List.nil_append, List.cons_append, Given]
      rintro _ rfl
      rintro _ rfl
      go_wp2_with fail
      exact Post.isv (Ext.refl _) rfl rfl rfl
    apply Stage.step (Is _) [false, false, false, false, false, false, false, false, false, false, false, false, false, false, false, false, false, false, false, false, false, false, false, false, false, false, true] (Is.keeps _) (by kernel_rfl)
    · intro w1 h1
      simp only [List.nil_append, List.cons_append, Given]
      rintro _ rfl
      go_wp2_with fail
      exact Post.isv (Ext.refl _) rfl rfl rfl
    apply Stage.step (Is (msV ⟨r1, r2, r3, r4, r5, r6, ra, rb, rc, rd⟩ R1 Rn1 Rc1 R2 Rn2 Rc2 R3 Rn3 Rc3 R4 Rn4 Rc4)) [false, false, false, false, false, false, false, false, false, false, false, false, false, false, false, false, false, false, false, false, false, false, false, false, false, false, false, true] (Is.keeps _) (by kernel_rfl)
    · intro w1 h1
      simp only [List.nil_append, List.cons_append, Given]
      rintro _ rfl
      have u0 := h1.cell b0
      have u1 := h1.cell b1
      have u2 := h1.cell b2
      have u3 := h1.cell b3
      have u4 := h1.cell b4
      have u5 := h1.cell b5
      have u6 := h1.cell b6
      have u7 := h1.cell b7
      have u8 := h1.cell b8
      have u9 := h1.cell b9
      go_wp2_with fail
      exact Post.isv (Ext.refl _) rfl rfl rfl
    apply Stage.step (Is (msV ⟨p1, p2, p3, p4, p5, p6, pa, pb, pc, pd⟩ P1 Pn1 Pc1 P2 Pn2 Pc2 P3 Pn3 Pc3 P4 Pn4 Pc4)) [false, false, false, false, false, false, false, false, false, false, false, false, false, false, false, false, false, false, false, false, false, false, false, false, false, false, false, true] (Is.keeps _) (by kernel_rfl)
    · intro w1 h1
      simp only [List.nil_append, List.cons_append, Given]
      rintro _ rfl
      have u0 := h1.cell d0
      have u1 := h1.cell d1
      have u2 := h1.cell d2
      have u3 := h1.cell d3
      have u4 := h1.cell d4
      have u5 := h1.cell d5
      have u6 := h1.cell d6
      have u7 := h1.cell d7
      have u8 := h1.cell d8
      have u9 := h1.cell d9
      go_wp2_with fail
      exact Post.isv (Ext.refl _) rfl rfl rfl
    apply Stage.step (Is (.bool sp)) [false, false, false, false, false, false, false, false, false, false, false, false, false, false, false, false, false, false, false, false, false, false, false, false, false, false, false, true, true, true] (Is.keeps _) (by kernel_rfl)
    · intro w1 h1
      simp only [List.nil_append, List.cons_append, Given]
      rintro _ rfl
      rintro _ rfl
      rintro _ rfl
      go_wp2_with fail
      refine (msg_Same (lm.ext h1) (l4'.ext h1) HSP).mono ?_
      rintro e w2 ⟨rfl, hx2⟩
      go_wp2_with fail
      exact Post.isv hx2 rfl rfl rfl
    apply Stage.step (Is (msV ⟨r1, r2, r3, r4, r5, r6, ra, rb, rc, rd⟩ R1 Rn1 Rc1 R2 Rn2 Rc2 R3 Rn3 Rc3 R4 Rn4 Rc4)) [false, false, false, false, false, false, false, false, false, false, false, false, false, false, false, false, false, false, false, false, false, false, false, false, false, false, false, true] (Is.keeps _) (by kernel_rfl)
    · intro w1 h1
      simp only [List.nil_append, List.cons_append, Given]
      rintro _ rfl
      have u0 := h1.cell b0
      have u1 := h1.cell b1
      have u2 := h1.cell b2
      have u3 := h1.cell b3
      have u4 := h1.cell b4
      have u5 := h1.cell b5
      have u6 := h1.cell b6
      have u7 := h1.cell b7
      have u8 := h1.cell b8
      have u9 := h1.cell b9
      go_wp2_with fail
      exact Post.isv (Ext.refl _) rfl rfl rfl
    apply Stage.step (Is (msV ⟨p1, p2, p3, p4, p5, p6, pa, pb, pc, pd⟩ P1 Pn1 Pc1 P2 Pn2 Pc2 P3 Pn3 Pc3 P4 Pn4 Pc4)) [false, false, false, false, false, false, false, false, false, false, false, false, false, false, false, false, false, false, false, false, false, false, false, false, false, false, false, true] (Is.keeps _) (by kernel_rfl)
    · intro w1 h1
      simp only [List.nil_append, List.cons_append, Given]
      rintro _ rfl
      have u0 := h1.cell d0
      have u1 := h1.cell d1
      have u2 := h1.cell d2
      have u3 := h1.cell d3
      have u4 := h1.cell d4
      have u5 := h1.cell d5
      have u6 := h1.cell d6
      have u7 := h1.cell d7
      have u8 := h1.cell d8
      have u9 := h1.cell d9
      go_wp2_with fail
      exact Post.isv (Ext.refl _) rfl rfl rfl
    apply Stage.step (Is (.bool sp)) [false, false, false, false, false, false, false, false, false, false, false, false, false, false, false, false, false, false, false, false, false, false, false, false, false, false, false, true, false, false, false, true, true] (Is.keeps _) (by kernel_rfl)
    · intro w1 h1
      simp only [List.nil_append, List.cons_append, Given]
      rintro _ rfl
      rintro _ rfl
      rintro _ rfl
      go_wp2_with fail
      refine (ref_SameMsg (lm.ext h1) (l4'.ext h1) HSP).mono ?_
      rintro e w2 ⟨rfl, hx2⟩
      go_wp2_with fail
      exact Post.isv hx2 rfl rfl rfl
    apply Stage.step (Is (.bool true)) [false, false, false, false, false, false, false, false, false, false, false, false, false, false, false, false, false, false, false, false, false, false, false, false, false, false, false, true, false, false, true, false, false, true] (Is.keeps _) (by kernel_rfl)
    · intro w1 h1
      simp only [List.nil_append, List.cons_append, Given]
      rintro _ rfl
      rintro _ rfl
      rintro _ rfl
      go_wp2_with fail
      exact Post.isv (Ext.refl _) rfl rfl rfl
    apply Stage.step (Is (.bool true)) [false, false, false, false, false, false, false, false, false, false, false, false, false, false, false, false, false, false, false, false, false, false, false, false, false, false, false, true, false, false, false, false, false, false, true] (Is.keeps _) (by kernel_rfl)
    · intro w1 h1
      simp only [List.nil_append, List.cons_append, Given]
      rintro _ rfl
      rintro _ rfl
      go_wp2_with fail
      exact Post.isv (Ext.refl _) rfl rfl rfl
    apply Stage.step (Is _) [false, false, false, false, false, false, false, false, false, false, false, false, false, false, false, false, false, false, false, false, false, false, false, false, false, false, false, false, false, false, false, false, false, false, false, true] (Is.keeps _) (by kernel_rfl)
    · intro w1 h1
      simp only [List.nil_append, List.cons_append, Given]
      rintro _ rfl
      go_wp2_with fail
      exact Post.isv (Ext.refl _) rfl rfl rfl
    apply Stage.step (Is (msV ⟨r1, r2, r3, r4, r5, r6, ra, rb, rc, rd⟩ R1 Rn1 Rc1 R2 Rn2 Rc2 R3 Rn3 Rc3 R4 Rn4 Rc4)) [false, false, false, false, false, false, false, false, false, false, false, false, false, false, false, false, false, false, false, false, false, false, false, false, false, false, false, false, false, false, false, false, false, false, false, false, true] (Is.keeps _) (by kernel_rfl)
    · intro w1 h1
      simp only [List.nil_append, List.cons_append, Given]
      rintro _ rfl
      have u0 := h1.cell b0
      have u1 := h1.cell b1
      have u2 := h1.cell b2
      have u3 := h1.cell b3
      have u4 := h1.cell b4
      have u5 := h1.cell b5
      have u6 := h1.cell b6
      have u7 := h1.cell b7
      have u8 := h1.cell b8
      have u9 := h1.cell b9
      go_wp2_with fail
      exact Post.isv (Ext.refl _) rfl rfl rfl
    apply Stage.step (Is (msV ⟨r1, r2, r3, r4, r5, r6, ra, rb, rc, rd⟩ R1 Rn1 Rc1 R2 Rn2 Rc2 R3 Rn3 Rc3 R4 Rn4 Rc4)) [false, false, false, false, false, false, false, false, false, false, false, false, false, false, false, false, false, false, false, false, false, false, false, false, false, false, false, false, false, false, false, false, false, false, false, false, true] (Is.keeps _) (by kernel_rfl)
    · intro w1 h1
      simp only [List.nil_append, List.cons_append, Given]
      rintro _ rfl
      have u0 := h1.cell b0
      have u1 := h1.cell b1
      have u2 := h1.cell b2
      have u3 := h1.cell b3
      have u4 := h1.cell b4
      have u5 := h1.cell b5
      have u6 := h1.cell b6
      have u7 := h1.cell b7
      have u8 := h1.cell b8
      have u9 := h1.cell b9
      go_wp2_with fail
      exact Post.isv (Ext.refl _) rfl rfl rfl
    apply Stage.step (Is (.bool true)) [false, false, false, false, false, false, false, false, false, false, false, false, false, false, false, false, false, false, false, false, false, false, false, false, false, false, false, false, false, false, false, false, false, false, false, false, true, true, true] (Is.keeps _) (by kernel_rfl)
    · intro w1 h1
      simp only [List.nil_append, List.cons_append, Given]
      rintro _ rfl
      rintro _ rfl
      rintro _ rfl
      go_wp2_with fail
      refine (msg_Same (lm.ext h1) (lm.ext h1) HSA).mono ?_
      rintro e w2 ⟨rfl, hx2⟩
      go_wp2_with fail
      exact Post.isv hx2 rfl rfl rfl
    apply Stage.step (Is (.bool true)) [false, false, false, false, false, false, false, false, false, false, false, false, false, false, false, false, false, false, false, false, false, false, false, false, false, false, false, false, false, false, false, false, false, false, false, false, true, false, false, true] (Is.keeps _) (by kernel_rfl)
    · intro w1 h1
      simp only [List.nil_append, List.cons_append, Given]
      rintro _ rfl
      rintro _ rfl
      go_wp2_with fail
      exact Post.isv (Ext.refl _) rfl rfl rfl
    apply Stage.step (Is _) [false, false, false, false, false, false, false, false, false, false, false, false, false, false, false, false, false, false, false, false, false, false, false, false, false, false, false, false, false, false, false, false, false, false, false, false, false, false, false, false, true] (Is.keeps _) (by kernel_rfl)
    · intro w1 h1
      simp only [List.nil_append, List.cons_append, Given]
      rintro _ rfl
      go_wp2_with fail
      exact Post.isv (Ext.refl _) rfl rfl rfl
    apply Stage.step (Is (.bool true)) [false, false, false, false, false, false, false, false, false, false, false, false, false, false, false, false, false, false, false, false, false, false, false, false, false, false, false, false, false, false, false, false, false, false, false, false, false, false, false, false, false, true] (Is.keeps _) (by kernel_rfl)
    · intro w1 h1
      simp only [List.nil_append, List.cons_append, Given]
      rintro _ rfl
      go_wp2_with fail
      refine (law9_known _).mono ?_
      rintro e w2 ⟨rfl, hx2⟩
      go_wp2_with fail
      exact Post.isv hx2 rfl rfl rfl
    apply Stage.step (Is (.bool true)) [false, false, false, false, false, false, false, false, false, false, false, false, false, false, false, false, false, false, false, false, false, false, false, false, false, false, false, false, false, false, false, false, false, false, false, false, false, false, false, false, false, true, true] (Is.keeps _) (by kernel_rfl)
    · intro w1 h1
      simp only [List.nil_append, List.cons_append, Given]
      rintro _ rfl
      rintro _ rfl
      go_wp2_with fail
      exact Post.isv (Ext.refl _) rfl rfl rfl
    apply Stage.step (Is _) [false, false, false, false, false, false, false, false, false, false, false, false, false, false, false, false, false, false, false, false, false, false, false, false, false, false, false, false, false, false, false, false, false, false, false, false, false, false, false, false, false, false, false, true] (Is.keeps _) (by kernel_rfl)
    · intro w1 h1
      simp only [List.nil_append, List.cons_append, Given]
      rintro _ rfl
      go_wp2_with fail
      exact Post.isv (Ext.refl _) rfl rfl rfl
    apply Stage.nil
    intro w1 h1
    simp only [List.nil_append, List.cons_append]
    refine Fin.is_ ?_
    refine Fin.is_ ?_
    refine Fin.is_ ?_
    refine Fin.is_ ?_
    refine Fin.is_ ?_
    refine Fin.is_ ?_
    refine Fin.is_ ?_
    refine Fin.is_ ?_
    refine Fin.is_ ?_
    refine Fin.is_ ?_
    refine Fin.is_ ?_
    refine Fin.is_ ?_
    refine Fin.is_ ?_
    refine Fin.is_ ?_
    refine Fin.is_ ?_
    refine Fin.is_ ?_
    refine Fin.is_ ?_
    refine Fin.is_ ?_
    refine Fin.is_ ?_
    refine Fin.is_ ?_
    refine Fin.is_ ?_
    refine Fin.is_ ?_
    refine Fin.is_ ?_
    refine Fin.is_ ?_
    refine Fin.is_ ?_
    refine Fin.is_ ?_
    refine Fin.is_ ?_
    refine Fin.is_ ?_
    refine Fin.is_ ?_
    refine Fin.is_ ?_
    refine Fin.is_ ?_
    refine Fin.is_ ?_
    refine Fin.is_ ?_
    refine Fin.is_ ?_
    refine Fin.is_ ?_
    refine Fin.is_ ?_
    refine Fin.is_ ?_
    refine Fin.is_ ?_
    refine Fin.is_ ?_
    refine Fin.is_ ?_
    refine Fin.is_ ?_
    refine Fin.is_ ?_
    refine Fin.is_ ?_
    refine Fin.is_ ?_
    refine Fin.is_ ?_
    refine Fin.nil_ ?_
    go_simp
    go_wp2_with fail
    go_ret
    exact ⟨rfl, gx1.trans h1⟩
  | true =>
    have hBl : (put b (crcOf b) 4).length = b.length + 4 := by unfold put; rw [List.length_append, le_length]
    obtain rfl : put b (crcOf b) 4 = B := hB
    go_wp2_with fail
    refine (ref_Seal AP n1 c1 b _ (hb.ext gx1) (by omega)).mono ?_
    rintro e u2 ⟨AS, nS, cS, rfl, hS, hxS⟩
    replace b0 := hxS.cell b0
    replace b1 := hxS.cell b1
    replace b2 := hxS.cell b2
    replace b3 := hxS.cell b3
    replace b4 := hxS.cell b4
    replace b5 := hxS.cell b5
    replace b6 := hxS.cell b6
    replace b7 := hxS.cell b7
    replace b8 := hxS.cell b8
    replace b9 := hxS.cell b9
    replace gx1 := gx1.trans hxS
    have hsB := hS.sl
    have hnB : nS ≤ 304 := by rw [← hS.len, hBl, hb.len]; omega
    obtain ⟨B, hB⟩ : ∃ B, put b (crcOf b) 4 = B := ⟨_, rfl⟩
    rw [hB] at HO HO2 HY hsB
    clear hxS hS hBl hB
    have lm := h.ext gx1
    go_wp2_with fail
    refine (msg_Put (m := ⟨r1, r2, r3, r4, r5, r6, ra, rb, rc, rd⟩) lm HF HSH HR HL).mono ?_
    rintro e w2 ⟨X2, m2, k2, rfl, hb2, hx2⟩
    rw [her]
    replace b0 := hx2.cell b0
    replace b1 := hx2.cell b1
    replace b2 := hx2.cell b2
    replace b3 := hx2.cell b3
    replace b4 := hx2.cell b4
    replace b5 := hx2.cell b5
    replace b6 := hx2.cell b6
    replace b7 := hx2.cell b7
    replace b8 := hx2.cell b8
    replace b9 := hx2.cell b9
    replace gx1 := gx1.trans hx2
    replace hsB := hsB.ext hx2
    replace lm := lm.ext hx2
    clear hx2
    go_wp2_with fail
    refine (ref_PutMsg (m := ⟨r1, r2, r3, r4, r5, r6, ra, rb, rc, rd⟩) lm HF HSH HR HL).mono ?_
    rintro e w3 ⟨X3, m3, k3, rfl, hb3, hx3⟩
    rw [her]
    replace b0 := hx3.cell b0
    replace b1 := hx3.cell b1
    replace b2 := hx3.cell b2
    replace b3 := hx3.cell b3
    replace b4 := hx3.cell b4
    replace b5 := hx3.cell b5
    replace b6 := hx3.cell b6
    replace b7 := hx3.cell b7
    replace b8 := hx3.cell b8
    replace b9 := hx3.cell b9
    replace gx1 := gx1.trans hx3
    replace hsB := hsB.ext hx3
    replace lm := lm.ext hx3
    have tb2 := hb2.sl.ext hx3
    have tb3 := hb3.sl
    clear hx3 hb2 hb3
    go_wp2_with fail
    have hgc := msg_Get hsB (by omega) HO HY
    rw [HP.out] at hgc
    refine hgc.mono ?_
    rintro e w4 ⟨P1, Pn1, Pc1, P2, Pn2, Pc2, P3, Pn3, Pc3, P4, Pn4, Pc4, rfl, l4, hx4⟩
    clear hgc
    have hx5 := hx4.allocs (.cells #[.int .i64 p1, .int .i64 p2, .int .i64 p3, .int .i64 p4, .int .i64 p5, .int .i64 p6, .slice P1 Pn1 Pc1, .slice P2 Pn2 Pc2, .slice P3 Pn3 Pc3, .slice P4 Pn4 Pc4] TMs)
    replace b0 := hx5.cell b0
    have d0 := cell_new w4 #[.int .i64 p1, .int .i64 p2, .int .i64 p3, .int .i64 p4, .int .i64 p5, .int .i64 p6, .slice P1 Pn1 Pc1, .slice P2 Pn2 Pc2, .slice P3 Pn3 Pc3, .slice P4 Pn4 Pc4] TMs 0
    replace b1 := hx5.cell b1
    have d1 := cell_new w4 #[.int .i64 p1, .int .i64 p2, .int .i64 p3, .int .i64 p4, .int .i64 p5, .int .i64 p6, .slice P1 Pn1 Pc1, .slice P2 Pn2 Pc2, .slice P3 Pn3 Pc3, .slice P4 Pn4 Pc4] TMs 1
    replace b2 := hx5.cell b2
    have d2 := cell_new w4 #[.int .i64 p1, .int .i64 p2, .int .i64 p3, .int .i64 p4, .int .i64 p5, .int .i64 p6, .slice P1 Pn1 Pc1, .slice P2 Pn2 Pc2, .slice P3 Pn3 Pc3, .slice P4 Pn4 Pc4] TMs 2
    replace b3 := hx5.cell b3
    have d3 := cell_new w4 #[.int .i64 p1, .int .i64 p2, .int .i64 p3, .int .i64 p4, .int .i64 p5, .int .i64 p6, .slice P1 Pn1 Pc1, .slice P2 Pn2 Pc2, .slice P3 Pn3 Pc3, .slice P4 Pn4 Pc4] TMs 3
    replace b4 := hx5.cell b4
    have d4 := cell_new w4 #[.int .i64 p1, .int .i64 p2, .int .i64 p3, .int .i64 p4, .int .i64 p5, .int .i64 p6, .slice P1 Pn1 Pc1, .slice P2 Pn2 Pc2, .slice P3 Pn3 Pc3, .slice P4 Pn4 Pc4] TMs 4
    replace b5 := hx5.cell b5
    have d5 := cell_new w4 #[.int .i64 p1, .int .i64 p2, .int .i64 p3, .int .i64 p4, .int .i64 p5, .int .i64 p6, .slice P1 Pn1 Pc1, .slice P2 Pn2 Pc2, .slice P3 Pn3 Pc3, .slice P4 Pn4 Pc4] TMs 5
    replace b6 := hx5.cell b6
    have d6 := cell_new w4 #[.int .i64 p1, .int .i64 p2, .int .i64 p3, .int .i64 p4, .int .i64 p5, .int .i64 p6, .slice P1 Pn1 Pc1, .slice P2 Pn2 Pc2, .slice P3 Pn3 Pc3, .slice P4 Pn4 Pc4] TMs 6
    replace b7 := hx5.cell b7
    have d7 := cell_new w4 #[.int .i64 p1, .int .i64 p2, .int .i64 p3, .int .i64 p4, .int .i64 p5, .int .i64 p6, .slice P1 Pn1 Pc1, .slice P2 Pn2 Pc2, .slice P3 Pn3 Pc3, .slice P4 Pn4 Pc4] TMs 7
    replace b8 := hx5.cell b8
    have d8 := cell_new w4 #[.int .i64 p1, .int .i64 p2, .int .i64 p3, .int .i64 p4, .int .i64 p5, .int .i64 p6, .slice P1 Pn1 Pc1, .slice P2 Pn2 Pc2, .slice P3 Pn3 Pc3, .slice P4 Pn4 Pc4] TMs 8
    replace b9 := hx5.cell b9
    have d9 := cell_new w4 #[.int .i64 p1, .int .i64 p2, .int .i64 p3, .int .i64 p4, .int .i64 p5, .int .i64 p6, .slice P1 Pn1 Pc1, .slice P2 Pn2 Pc2, .slice P3 Pn3 Pc3, .slice P4 Pn4 Pc4] TMs 9
    replace gx1 := gx1.trans hx5
    replace hsB := hsB.ext hx5
    replace lm := lm.ext hx5
    replace tb2 := tb2.ext hx5
    replace tb3 := tb3.ext hx5
    have l4' := l4.ext (Ext.alloc w4 (.cells #[.int .i64 p1, .int .i64 p2, .int .i64 p3, .int .i64 p4, .int .i64 p5, .int .i64 p6, .slice P1 Pn1 Pc1, .slice P2 Pn2 Pc2, .slice P3 Pn3 Pc3, .slice P4 Pn4 Pc4] TMs))
    clear hx4 hx5 l4
    go_wp2_with fail
    have hgc := ref_GetMsg hsB (by omega) HO2 HY
    rw [HP.out] at hgc
    refine hgc.mono ?_
    rintro e w6 ⟨Q1, Qn1, Qc1, Q2, Qn2, Qc2, Q3, Qn3, Qc3, Q4, Qn4, Qc4, rfl, l6, hx6⟩
    clear hgc
    have hx7 := hx6.allocs (.cells #[.int .i64 p1, .int .i64 p2, .int .i64 p3, .int .i64 p4, .int .i64 p5, .int .i64 p6, .slice Q1 Qn1 Qc1, .slice Q2 Qn2 Qc2, .slice Q3 Qn3 Qc3, .slice Q4 Qn4 Qc4] TMs)
    replace b0 := hx7.cell b0
    replace d0 := hx7.cell d0
    have f0 := cell_new w6 #[.int .i64 p1, .int .i64 p2, .int .i64 p3, .int .i64 p4, .int .i64 p5, .int .i64 p6, .slice Q1 Qn1 Qc1, .slice Q2 Qn2 Qc2, .slice Q3 Qn3 Qc3, .slice Q4 Qn4 Qc4] TMs 0
    replace b1 := hx7.cell b1
    replace d1 := hx7.cell d1
    have f1 := cell_new w6 #[.int .i64 p1, .int .i64 p2, .int .i64 p3, .int .i64 p4, .int .i64 p5, .int .i64 p6, .slice Q1 Qn1 Qc1, .slice Q2 Qn2 Qc2, .slice Q3 Qn3 Qc3, .slice Q4 Qn4 Qc4] TMs 1
    replace b2 := hx7.cell b2
    replace d2 := hx7.cell d2
    have f2 := cell_new w6 #[.int .i64 p1, .int .i64 p2, .int .i64 p3, .int .i64 p4, .int .i64 p5, .int .i64 p6, .slice Q1 Qn1 Qc1, .slice Q2 Qn2 Qc2, .slice Q3 Qn3 Qc3, .slice Q4 Qn4 Qc4] TMs 2
    replace b3 := hx7.cell b3
    replace d3 := hx7.cell d3
    have f3 := cell_new w6 #[.int .i64 p1, .int .i64 p2, .int .i64 p3, .int .i64 p4, .int .i64 p5, .int .i64 p6, .slice Q1 Qn1 Qc1, .slice Q2 Qn2 Qc2, .slice Q3 Qn3 Qc3, .slice Q4 Qn4 Qc4] TMs 3
    replace b4 := hx7.cell b4
    replace d4 := hx7.cell d4
    have f4 := cell_new w6 #[.int .i64 p1, .int .i64 p2, .int .i64 p3, .int .i64 p4, .int .i64 p5, .int .i64 p6, .slice Q1 Qn1 Qc1, .slice Q2 Qn2 Qc2, .slice Q3 Qn3 Qc3, .slice Q4 Qn4 Qc4] TMs 4
    replace b5 := hx7.cell b5
    replace d5 := hx7.cell d5
    have f5 := cell_new w6 #[.int .i64 p1, .int .i64 p2, .int .i64 p3, .int .i64 p4, .int .i64 p5, .int .i64 p6, .slice Q1 Qn1 Qc1, .slice Q2 Qn2 Qc2, .slice Q3 Qn3 Qc3, .slice Q4 Qn4 Qc4] TMs 5
    replace b6 := hx7.cell b6
    replace d6 := hx7.cell d6
    have f6 := cell_new w6 #[.int .i64 p1, .int .i64 p2, .int .i64 p3, .int .i64 p4, .int .i64 p5, .int .i64 p6, .slice Q1 Qn1 Qc1, .slice Q2 Qn2 Qc2, .slice Q3 Qn3 Qc3, .slice Q4 Qn4 Qc4] TMs 6
    replace b7 := hx7.cell b7
    replace d7 := hx7.cell d7
    have f7 := cell_new w6 #[.int .i64 p1, .int .i64 p2, .int .i64 p3, .int .i64 p4, .int .i64 p5, .int .i64 p6, .slice Q1 Qn1 Qc1, .slice Q2 Qn2 Qc2, .slice Q3 Qn3 Qc3, .slice Q4 Qn4 Qc4] TMs 7
    replace b8 := hx7.cell b8
    replace d8 := hx7.cell d8
    have f8 := cell_new w6 #[.int .i64 p1, .int .i64 p2, .int .i64 p3, .int .i64 p4, .int .i64 p5, .int .i64 p6, .slice Q1 Qn1 Qc1, .slice Q2 Qn2 Qc2, .slice Q3 Qn3 Qc3, .slice Q4 Qn4 Qc4] TMs 8
    replace b9 := hx7.cell b9
    replace d9 := hx7.cell d9
    have f9 := cell_new w6 #[.int .i64 p1, .int .i64 p2, .int .i64 p3, .int .i64 p4, .int .i64 p5, .int .i64 p6, .slice Q1 Qn1 Qc1, .slice Q2 Qn2 Qc2, .slice Q3 Qn3 Qc3, .slice Q4 Qn4 Qc4] TMs 9
    replace gx1 := gx1.trans hx7
    replace lm := lm.ext hx7
    replace tb2 := tb2.ext hx7
    replace tb3 := tb3.ext hx7
    replace l4' := l4'.ext hx7
    have l6' := l6.ext (Ext.alloc w6 (.cells #[.int .i64 p1, .int .i64 p2, .int .i64 p3, .int .i64 p4, .int .i64 p5, .int .i64 p6, .slice Q1 Qn1 Qc1, .slice Q2 Qn2 Qc2, .slice Q3 Qn3 Qc3, .slice Q4 Qn4 Qc4] TMs))
    clear hx6 hx7 l6 hsB
    go_upto_region 9 with fail
    obtain ⟨wf, hwf⟩ : ∃ q, q = w6.alloc (.cells #[.int .i64 p1, .int .i64 p2, .int .i64 p3, .int .i64 p4, .int .i64 p5, .int .i64 p6, .slice Q1 Qn1 Qc1, .slice Q2 Qn2 Qc2, .slice Q3 Qn3 Qc3, .slice Q4 Qn4 Qc4] TMs) := ⟨_, rfl⟩
    rw [← hwf] at b0 b1 b2 b3 b4 b5 b6 b7 b8 b9 d0 d1 d2 d3 d4 d5 d6 d7 d8 d9 f0 f1 f2 f3 f4 f5 f6 f7 f8 f9 gx1 lm tb2 tb3 l4' l6'
    rw [← hwf]
    clear hwf
    refine wp_region_typed Ext.steady rfl 91 rfl (by kernel_rfl) ?_
    apply Stage.step (Is _) [] (Is.keeps _) (by kernel_rfl)
    · intro w1 h1
      simp only [Given]
      go_wp2_with fail
      exact Post.isv (Ext.refl _) rfl rfl rfl
    apply Stage.step (Is (.string ⟨L.toArray⟩)) [true] (Is.keeps _) (by kernel_rfl)
    · intro w1 h1
      simp only [List.nil_append, Given]
      rintro _ rfl
      have tx := run_text_u8 (tb2.ext h1)
      go_wp2_with fail
      exact Post.isv (Ext.refl _) rfl rfl rfl
    apply Stage.step (Is _) [] (Is.keeps _) (by kernel_rfl)
    · intro w1 h1
      simp only [Given]
      go_wp2_with fail
      exact Post.isv (Ext.refl _) rfl rfl rfl
    apply Stage.step (Is (.string ⟨L.toArray⟩)) [false, false, true] (Is.keeps _) (by kernel_rfl)
    · intro w1 h1
      simp only [List.nil_append, List.cons_append, Given]
      rintro _ rfl
      have tx := run_text_u8 (tb3.ext h1)
      go_wp2_with fail
      exact Post.isv (Ext.refl _) rfl rfl rfl
    apply Stage.step (Is (.bool true)) [false, true, false, true] (Is.keeps _) (by kernel_rfl)
    · intro w1 h1
      simp only [List.nil_append, List.cons_append, Given]
      rintro _ rfl
      rintro _ rfl
      go_wp2_with fail
      exact Post.isv (Ext.refl _) rfl rfl rfl
    apply Stage.step (Is _) [false, false, false, false, true] (Is.keeps _) (by kernel_rfl)
    · intro w1 h1
      simp only [List.nil_append, List.cons_append, Given]
      rintro _ rfl
      go_wp2_with fail
      exact Post.isv (Ext.refl _) rfl rfl rfl
    apply Stage.step (Is _) [false, false, false, false, false, true] (Is.keeps _) (by kernel_rfl)
    · intro w1 h1
      simp only [List.nil_append, List.cons_append, Given]
      rintro _ rfl
      go_wp2_with fail
      exact Post.isv (Ext.refl _) rfl rfl rfl
    apply Stage.step (Is _) [false, false, false, false, false, true] (Is.keeps _) (by kernel_rfl)
    · intro w1 h1
      simp only [List.nil_append, List.cons_append, Given]
      rintro _ rfl
      go_wp2_with fail
      exact Post.isv (Ext.refl _) rfl rfl rfl
    apply Stage.step (Is (.bool true)) [false, false, false, false, false, true, true, true] (Is.keeps _) (by kernel_rfl)
    · intro w1 h1
      simp only [List.nil_append, List.cons_append, Given]
      rintro _ rfl
      rintro _ rfl
      rintro _ rfl
      go_wp2_with fail
      exact Post.isv (Ext.refl _) rfl rfl rfl
    apply Stage.step (Is (.bool true)) [false, false, false, false, false, true, false, false, true] (Is.keeps _) (by kernel_rfl)
    · intro w1 h1
      simp only [List.nil_append, List.cons_append, Given]
      rintro _ rfl
      rintro _ rfl
      go_wp2_with fail
      exact Post.isv (Ext.refl _) rfl rfl rfl
    apply Stage.step (Is _) [false, false, false, false, false, false, false, false, false, true] (Is.keeps _) (by kernel_rfl)
    · intro w1 h1
      simp only [List.nil_append, List.cons_append, Given]
      rintro _ rfl
      go_wp2_with fail
      exact Post.isv (Ext.refl _) rfl rfl rfl
    apply Stage.step (Is _) [false, false, false, false, false, false, false, false, false, false, true] (Is.keeps _) (by kernel_rfl)
    · intro w1 h1
      simp only [List.nil_append, List.cons_append, Given]
      rintro _ rfl
      go_wp2_with fail
      exact Post.isv (Ext.refl _) rfl rfl rfl
    apply Stage.step (Is _) [false, false, false, false, false, false, false, false, false, false, true] (Is.keeps _) (by kernel_rfl)
    · intro w1 h1
      simp only [List.nil_append, List.cons_append, Given]
      rintro _ rfl
      go_wp2_with fail
      exact Post.isv (Ext.refl _) rfl rfl rfl
    apply Stage.step (Is (.bool true)) [false, false, false, false, false, false, false, false, false, false, true, true, true] (Is.keeps _) (by kernel_rfl)
    · intro w1 h1
      simp only [List.nil_append, List.cons_append, Given]
      rintro _ rfl
      rintro _ rfl
      rintro _ rfl
      go_wp2_with fail
      exact Post.isv (Ext.refl _) rfl rfl rfl
    apply Stage.step (Is (.bool true)) [false, false, false, false, false, false, false, false, false, false, true, false, false, true] (Is.keeps _) (by kernel_rfl)
    · intro w1 h1
      simp only [List.nil_append, List.cons_append, Given]
      rintro _ rfl
      rintro _ rfl
      go_wp2_with fail
      exact Post.isv (Ext.refl _) rfl rfl rfl
    apply Stage.step (Is _) [false, false, false, false, false, false, false, false, false, false, false, false, false, false, true] (Is.keeps _) (by kernel_rfl)
    · intro w1 h1
      simp only [List.nil_append, List.cons_append, Given]
      rintro _ rfl
      go_wp2_with fail
      exact Post.isv (Ext.refl _) rfl rfl rfl
    apply Stage.step (Is (msV ⟨p1, p2, p3, p4, p5, p6, pa, pb, pc, pd⟩ P1 Pn1 Pc1 P2 Pn2 Pc2 P3 Pn3 Pc3 P4 Pn4 Pc4)) [false, false, false, false, false, false, false, false, false, false, false, false, false, false, false, true] (Is.keeps _) (by kernel_rfl)
    · intro w1 h1
      simp only [List.nil_append, List.cons_append, Given]
      rintro _ rfl
      have u0 := h1.cell d0
      have u1 := h1.cell d1
      have u2 := h1.cell d2
      have u3 := h1.cell d3
      have u4 := h1.cell d4
      have u5 := h1.cell d5
      have u6 := h1.cell d6
      have u7 := h1.cell d7
      have u8 := h1.cell d8
      have u9 := h1.cell d9
      go_wp2_with fail
      exact Post.isv (Ext.refl _) rfl rfl rfl
    apply Stage.step (Is (msV ⟨p1, p2, p3, p4, p5, p6, pa, pb, pc, pd⟩ Q1 Qn1 Qc1 Q2 Qn2 Qc2 Q3 Qn3 Qc3 Q4 Qn4 Qc4)) [false, false, false, false, false, false, false, false, false, false, false, false, false, false, false, true] (Is.keeps _) (by kernel_rfl)
    · intro w1 h1
      simp only [List.nil_append, List.cons_append, Given]
      rintro _ rfl
      have u0 := h1.cell f0
      have u1 := h1.cell f1
      have u2 := h1.cell f2
      have u3 := h1.cell f3
      have u4 := h1.cell f4
      have u5 := h1.cell f5
      have u6 := h1.cell f6
      have u7 := h1.cell f7
      have u8 := h1.cell f8
      have u9 := h1.cell f9
      go_wp2_with fail
      exact Post.isv (Ext.refl _) rfl rfl rfl
    apply Stage.step (Is (.bool true)) [false, false, false, false, false, false, false, false, false, false, false, false, false, false, false, true, true, true] (Is.keeps _) (by kernel_rfl)
    · intro w1 h1
      simp only [List.nil_append, List.cons_append, Given]
      rintro _ rfl
      rintro _ rfl
      rintro _ rfl
      go_wp2_with fail
      refine (ref_SameMsg (l4'.ext h1) (l6'.ext h1) HSS).mono ?_
      rintro e w2 ⟨rfl, hx2⟩
      go_wp2_with fail
      exact Post.isv hx2 rfl rfl rfl
    apply Stage.step (Is (.bool true)) [false, false, false, false, false, false, false, false, false, false, false, false, false, false, false, true, false, false, true] (Is.keeps _) (by kernel_rfl)
    · intro w1 h1
      simp only [List.nil_append, List.cons_append, Given]
      rintro _ rfl
      rintro _ rfl
      go_wp2_with fail
      exact Post.isv (Ext.refl _) rfl rfl rfl
    apply Stage.step (Is _) [false, false, false, false, false, false, false, false, false, false, false, false, false, false, false, false, false, false, false, true] (Is.keeps _) (by kernel_rfl)
    · intro w1 h1
      simp only [List.nil_append, List.cons_append, Given]
      rintro _ rfl
      go_wp2_with fail
      exact Post.isv (Ext.refl _) rfl rfl rfl
    apply Stage.step (Is (msV ⟨r1, r2, r3, r4, r5, r6, ra, rb, rc, rd⟩ R1 Rn1 Rc1 R2 Rn2 Rc2 R3 Rn3 Rc3 R4 Rn4 Rc4)) [false, false, false, false, false, false, false, false, false, false, false, false, false, false, false, false, false, false, false, false, true] (Is.keeps _) (by kernel_rfl)
    · intro w1 h1
      simp only [List.nil_append, List.cons_append, Given]
      rintro _ rfl
      have u0 := h1.cell b0
      have u1 := h1.cell b1
      have u2 := h1.cell b2
      have u3 := h1.cell b3
      have u4 := h1.cell b4
      have u5 := h1.cell b5
      have u6 := h1.cell b6
      have u7 := h1.cell b7
      have u8 := h1.cell b8
      have u9 := h1.cell b9
      go_wp2_with fail
      exact Post.isv (Ext.refl _) rfl rfl rfl
    apply Stage.step (Is (.bool r)) [false, false, false, false, false, false, false, false, false, false, false, false, false, false, false, false, false, false, false, false, true, true] (Is.keeps _) (by kernel_rfl)
    · intro w1 h1
      simp only [List.nil_append, List.cons_append, Given]
      rintro _ rfl
      rintro _ rfl
      go_wp2_with fail
      refine (msg_Right (m := ⟨r1, r2, r3, r4, r5, r6, ra, rb, rc, rd⟩) (lm.ext h1) HF HSH HR).mono ?_
      rintro e w2 ⟨rfl, hx2⟩
      go_wp2_with fail
      exact Post.isv hx2 rfl rfl rfl
    apply Stage.step (Is (msV ⟨r1, r2, r3, r4, r5, r6, ra, rb, rc, rd⟩ R1 Rn1 Rc1 R2 Rn2 Rc2 R3 Rn3 Rc3 R4 Rn4 Rc4)) [false, false, false, false, false, false, false, false, false, false, false, false, false, false, false, false, false, false, false, false, true] (Is.keeps _) (by kernel_rfl)
    · intro w1 h1
      simp only [List.nil_append, List.cons_append, Given]
      rintro _ rfl
      have u0 := h1.cell b0
      have u1 := h1.cell b1
      have u2 := h1.cell b2
      have u3 := h1.cell b3
      have u4 := h1.cell b4
      have u5 := h1.cell b5
      have u6 := h1.cell b6
      have u7 := h1.cell b7
      have u8 := h1.cell b8
      have u9 := h1.cell b9
      go_wp2_with fail
      exact Post.isv (Ext.refl _) rfl rfl rfl
    apply Stage.step (Is (.bool r)) [false, false, false, false, false, false, false, false, false, false, false, false, false, false, false, false, false, false, false, false, true, false, false, true] (Is.keeps _) (by kernel_rfl)
    · intro w1 h1
      simp only [List.nil_append, List.cons_append, Given]
      rintro _ rfl
      rintro _ rfl
      go_wp2_with fail
      refine (ref_RightMsg (m := ⟨r1, r2, r3, r4, r5, r6, ra, rb, rc, rd⟩) (lm.ext h1) HF HSH HR).mono ?_
      rintro e w2 ⟨rfl, hx2⟩
      go_wp2_with fail
      exact Post.isv hx2 rfl rfl rfl
    apply Stage.step (Is (.bool true)) [false, false, false, false, false, false, false, false, false, false, false, false, false, false, false, false, false, false, false, false, true, false, true, false, true] (Is.keeps _) (by kernel_rfl)
    · intro w1 h1
      simp only [List.nil_append, List.cons_append, Given]
      rintro _ rfl
      rintro _ rfl
      rintro _ rfl
      go_wp2_with fail
      exact Post.isv (Ext.refl _) rfl rfl rfl
    apply Stage.step (Is (.bool true)) [false, false, false, false, false, false, false, false, false, false, false, false, false, false, false, false, false, false, false, false, true, false, false, false, false, true] (Is.keeps _) (by kernel_rfl)
    · intro w1 h1
      simp only [List.nil_append, List.cons_append, Given]
      rintro _ rfl
      rintro _ rfl
      go_wp2_with fail
      exact Post.isv (Ext.refl _) rfl rfl rfl
    apply Stage.step (Is _) [false, false, false, false, false, false, false, false, false, false, false, false, false, false, false, false, false, false, false, false, false, false, false, false, false, false, true] (Is.keeps _) (by kernel_rfl)
    · intro w1 h1
      simp only [List.nil_append, List.cons_append, Given]
      rintro _ rfl
      go_wp2_with fail
      exact Post.isv (Ext.refl _) rfl rfl rfl
    apply Stage.step (Is (msV ⟨r1, r2, r3, r4, r5, r6, ra, rb, rc, rd⟩ R1 Rn1 Rc1 R2 Rn2 Rc2 R3 Rn3 Rc3 R4 Rn4 Rc4)) [false, false, false, false, false, false, false, false, false, false, false, false, false, false, false, false, false, false, false, false, false, false, false, false, false, false, false, true] (Is.keeps _) (by kernel_rfl)
    · intro w1 h1
      simp only [List.nil_append, List.cons_append, Given]
      rintro _ rfl
      have u0 := h1.cell b0
      have u1 := h1.cell b1
      have u2 := h1.cell b2
      have u3 := h1.cell b3
      have u4 := h1.cell b4
      have u5 := h1.cell b5
      have u6 := h1.cell b6
      have u7 := h1.cell b7
      have u8 := h1.cell b8
      have u9 := h1.cell b9
      go_wp2_with fail
      exact Post.isv (Ext.refl _) rfl rfl rfl
    apply Stage.step (Is (msV ⟨p1, p2, p3, p4, p5, p6, pa, pb, pc, pd⟩ P1 Pn1 Pc1 P2 Pn2 Pc2 P3 Pn3 Pc3 P4 Pn4 Pc4)) [false, false, false, false, false, false, false, false, false, false, false, false, false, false, false, false, false, false, false, false, false, false, false, false, false, false, false, true] (Is.keeps _) (by kernel_rfl)
    · intro w1 h1
      simp only [List.nil_append, List.cons_append, Given]
      rintro _ rfl
      have u0 := h1.cell d0
      have u1 := h1.cell d1
      have u2 := h1.cell d2
      have u3 := h1.cell d3
      have u4 := h1.cell d4
      have u5 := h1.cell d5
      have u6 := h1.cell d6
      have u7 := h1.cell d7
      have u8 := h1.cell d8
      have u9 := h1.cell d9
      go_wp2_with fail
      exact Post.isv (Ext.refl _) rfl rfl rfl
    apply Stage.step (Is (.bool sp)) [false, false, false, false, false, false, false, false, false, false, false, false, false, false, false, false, false, false, false, false, false, false, false, false, false, false, false, true, true, true] (Is.keeps _) (by kernel_rfl)
    · intro w1 h1
      simp only [List.nil_append, List.cons_append, Given]
      rintro _ rfl
      rintro _ rfl
      rintro _ rfl
      go_wp2_with fail
      refine (msg_Same (lm.ext h1) (l4'.ext h1) HSP).mono ?_
      rintro e w2 ⟨rfl, hx2⟩
      go_wp2_with fail
      exact Post.isv hx2 rfl rfl rfl
    apply Stage.step (Is (msV ⟨r1, r2, r3, r4, r5, r6, ra, rb, rc, rd⟩ R1 Rn1 Rc1 R2 Rn2 Rc2 R3 Rn3 Rc3 R4 Rn4 Rc4)) [false, false, false, false, false, false, false, false, false, false, false, false, false, false, false, false, false, false, false, false, false, false, false, false, false, false, false, true] (Is.keeps _) (by kernel_rfl)
    · intro w1 h1
      simp only [List.nil_append, List.cons_append, Given]
      rintro _ rfl
      have u0 := h1.cell b0
      have u1 := h1.cell b1
      have u2 := h1.cell b2
      have u3 := h1.cell b3
      have u4 := h1.cell b4
      have u5 := h1.cell b5
      have u6 := h1.cell b6
      have u7 := h1.cell b7
      have u8 := h1.cell b8
      have u9 := h1.cell b9
      go_wp2_with fail
      exact Post.isv (Ext.refl _) rfl rfl rfl
    apply Stage.step (Is (msV ⟨p1, p2, p3, p4, p5, p6, pa, pb, pc, pd⟩ P1 Pn1 Pc1 P2 Pn2 Pc2 P3 Pn3 Pc3 P4 Pn4 Pc4)) [false, false, false, false, false, false, false, false, false, false, false, false, false, false, false, false, false, false, false, false, false, false, false, false, false, false, false, true] (Is.keeps _) (by kernel_rfl)
    · intro w1 h1
      simp only [List.nil_append, List.cons_append, Given]
      rintro _ rfl
      have u0 := h1.cell d0
      have u1 := h1.cell d1
      have u2 := h1.cell d2
      have u3 := h1.cell d3
      have u4 := h1.cell d4
      have u5 := h1.cell d5
      have u6 := h1.cell d6
      have u7 := h1.cell d7
      have u8 := h1.cell d8
      have u9 := h1.cell d9
      go_wp2_with fail
      exact Post.isv (Ext.refl _) rfl rfl rfl
    apply Stage.step (Is (.bool sp)) [false, false, false, false, false, false, false, false, false, false, false, false, false, false, false, false, false, false, false, false, false, false, false, false, false, false, false, true, false, false, false, true, true] (Is.keeps _) (by kernel_rfl)
    · intro w1 h1
      simp only [List.nil_append, List.cons_append, Given]
      rintro _ rfl
      rintro _ rfl
      rintro _ rfl
      go_wp2_with fail
      refine (ref_SameMsg (lm.ext h1) (l4'.ext h1) HSP).mono ?_
      rintro e w2 ⟨rfl, hx2⟩
      go_wp2_with fail
      exact Post.isv hx2 rfl rfl rfl
    apply Stage.step (Is (.bool true)) [false, false, false, false, false, false, false, false, false, false, false, false, false, false, false, false, false, false, false, false, false, false, false, false, false, false, false, true, false, false, true, false, false, true] (Is.keeps _) (by kernel_rfl)
    · intro w1 h1
      simp only [List.nil_append, List.cons_append, Given]
      rintro _ rfl
      rintro _ rfl
      rintro _ rfl
      go_wp2_with fail
      exact Post.isv (Ext.refl _) rfl rfl rfl
    apply Stage.step (Is (.bool true)) [false, false, false, false, false, false, false, false, false, false, false, false, false, false, false, false, false, false, false, false, false, false, false, false, false, false, false, true, false, false, false, false, false, false, true] (Is.keeps _) (by kernel_rfl)
    · intro w1 h1
      simp only [List.nil_append, List.cons_append, Given]
      rintro _ rfl
      rintro _ rfl
      go_wp2_with fail
      exact Post.isv (Ext.refl _) rfl rfl rfl
    apply Stage.step (Is _) [false, false, false, false, false, false, false, false, false, false, false, false, false, false, false, false, false, false, false, false, false, false, false, false, false, false, false, false, false, false, false, false, false, false, false, true] (Is.keeps _) (by kernel_rfl)
    · intro w1 h1
      simp only [List.nil_append, List.cons_append, Given]
      rintro _ rfl
      go_wp2_with fail
      exact Post.isv (Ext.refl _) rfl rfl rfl
    apply Stage.step (Is (msV ⟨r1, r2, r3, r4, r5, r6, ra, rb, rc, rd⟩ R1 Rn1 Rc1 R2 Rn2 Rc2 R3 Rn3 Rc3 R4 Rn4 Rc4)) [false, false, false, false, false, false, false, false, false, false, false, false, false, false, false, false, false, false, false, false, false, false, false, false, false, false, false, false, false, false, false, false, false, false, false, false, true] (Is.keeps _) (by kernel_rfl)
    · intro w1 h1
      simp only [List.nil_append, List.cons_append, Given]
      rintro _ rfl
      have u0 := h1.cell b0
      have u1 := h1.cell b1
      have u2 := h1.cell b2
      have u3 := h1.cell b3
      have u4 := h1.cell b4
      have u5 := h1.cell b5
      have u6 := h1.cell b6
      have u7 := h1.cell b7
      have u8 := h1.cell b8
      have u9 := h1.cell b9
      go_wp2_with fail
      exact Post.isv (Ext.refl _) rfl rfl rfl
    apply Stage.step (Is (msV ⟨r1, r2, r3, r4, r5, r6, ra, rb, rc, rd⟩ R1 Rn1 Rc1 R2 Rn2 Rc2 R3 Rn3 Rc3 R4 Rn4 Rc4)) [false, false, false, false, false, false, false, false, false, false, false, false, false, false, false, false, false, false, false, false, false, false, false, false, false, false, false, false, false, false, false, false, false, false, false, false, true] (Is.keeps _) (by kernel_rfl)
    · intro w1 h1
      simp only [List.nil_append, List.cons_append, Given]
      rintro _ rfl
      have u0 := h1.cell b0
      have u1 := h1.cell b1
      have u2 := h1.cell b2
      have u3 := h1.cell b3
      have u4 := h1.cell b4
      have u5 := h1.cell b5
      have u6 := h1.cell b6
      have u7 := h1.cell b7
      have u8 := h1.cell b8
      have u9 := h1.cell b9
      go_wp2_with fail
      exact Post.isv (Ext.refl _) rfl rfl rfl
    apply Stage.step (Is (.bool true)) [false, false, false, false, false, false, false, false, false, false, false, false, false, false, false, false, false, false, false, false, false, false, false, false, false, false, false, false, false, false, false, false, false, false, false, false, true, true, true] (Is.keeps _) (by kernel_rfl)
    · intro w1 h1
      simp only [List.nil_append, List.cons_append, Given]
      rintro _ rfl
      rintro _ rfl
      rintro _ rfl
      go_wp2_with fail
      refine (msg_Same (lm.ext h1) (lm.ext h1) HSA).mono ?_
      rintro e w2 ⟨rfl, hx2⟩
      go_wp2_with fail
      exact Post.isv hx2 rfl rfl rfl
    apply Stage.step (Is (.bool true)) [false, false, false, false, false, false, false, false, false, false, false, false, false, false, false, false, false, false, false, false, false, false, false, false, false, false, false, false, false, false, false, false, false, false, false, false, true, false, false, true] (Is.keeps _) (by kernel_rfl)
    · intro w1 h1
      simp only [List.nil_append, List.cons_append, Given]
      rintro _ rfl
      rintro _ rfl
      go_wp2_with fail
      exact Post.isv (Ext.refl _) rfl rfl rfl
    apply Stage.step (Is _) [false, false, false, false, false, false, false, false, false, false, false, false, false, false, false, false, false, false, false, false, false, false, false, false, false, false, false, false, false, false, false, false, false, false, false, false, false, false, false, false, true] (Is.keeps _) (by kernel_rfl)
    · intro w1 h1
      simp only [List.nil_append, List.cons_append, Given]
      rintro _ rfl
      go_wp2_with fail
      exact Post.isv (Ext.refl _) rfl rfl rfl
    apply Stage.step (Is (.bool true)) [false, false, false, false, false, false, false, false, false, false, false, false, false, false, false, false, false, false, false, false, false, false, false, false, false, false, false, false, false, false, false, false, false, false, false, false, false, false, false, false, false, true] (Is.keeps _) (by kernel_rfl)
    · intro w1 h1
      simp only [List.nil_append, List.cons_append, Given]
      rintro _ rfl
      go_wp2_with fail
      refine (law9_known _).mono ?_
      rintro e w2 ⟨rfl, hx2⟩
      go_wp2_with fail
      exact Post.isv hx2 rfl rfl rfl
    apply Stage.step (Is (.bool true)) [false, false, false, false, false, false, false, false, false, false, false, false, false, false, false, false, false, false, false, false, false, false, false, false, false, false, false, false, false, false, false, false, false, false, false, false, false, false, false, false, false, true, true] (Is.keeps _) (by kernel_rfl)
    · intro w1 h1
      simp only [List.nil_append, List.cons_append, Given]
      rintro _ rfl
      rintro _ rfl
      go_wp2_with fail
      exact Post.isv (Ext.refl _) rfl rfl rfl
    apply Stage.step (Is _) [false, false, false, false, false, false, false, false, false, false, false, false, false, false, false, false, false, false, false, false, false, false, false, false, false, false, false, false, false, false, false, false, false, false, false, false, false, false, false, false, false, false, false, true] (Is.keeps _) (by kernel_rfl)
    · intro w1 h1
      simp only [List.nil_append, List.cons_append, Given]
      rintro _ rfl
      go_wp2_with fail
      exact Post.isv (Ext.refl _) rfl rfl rfl
    apply Stage.nil
    intro w1 h1
    simp only [List.nil_append, List.cons_append]
    refine Fin.is_ ?_
    refine Fin.is_ ?_
    refine Fin.is_ ?_
    refine Fin.is_ ?_
    refine Fin.is_ ?_
    refine Fin.is_ ?_
    refine Fin.is_ ?_
    refine Fin.is_ ?_
    refine Fin.is_ ?_
    refine Fin.is_ ?_
    refine Fin.is_ ?_
    refine Fin.is_ ?_
    refine Fin.is_ ?_
    refine Fin.is_ ?_
    refine Fin.is_ ?_
    refine Fin.is_ ?_
    refine Fin.is_ ?_
    refine Fin.is_ ?_
    refine Fin.is_ ?_
    refine Fin.is_ ?_
    refine Fin.is_ ?_
    refine Fin.is_ ?_
    refine Fin.is_ ?_
    refine Fin.is_ ?_
    refine Fin.is_ ?_
    refine Fin.is_ ?_
    refine Fin.is_ ?_
    refine Fin.is_ ?_
    refine Fin.is_ ?_
    refine Fin.is_ ?_
    refine Fin.is_ ?_
    refine Fin.is_ ?_
    refine Fin.is_ ?_
    refine Fin.is_ ?_
    refine Fin.is_ ?_
    refine Fin.is_ ?_
    refine Fin.is_ ?_
    refine Fin.is_ ?_
    refine Fin.is_ ?_
    refine Fin.is_ ?_
    refine Fin.is_ ?_
    refine Fin.is_ ?_
    refine Fin.is_ ?_
    refine Fin.is_ ?_
    refine Fin.is_ ?_
    refine Fin.nil_ ?_
    go_simp
    go_wp2_with fail
    go_ret
    exact ⟨rfl, gx1.trans h1⟩
end Go.Proofs.Ytoeknbogaclfdaa
