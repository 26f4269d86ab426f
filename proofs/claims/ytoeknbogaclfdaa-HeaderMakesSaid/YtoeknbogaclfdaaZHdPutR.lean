/-
  Records in bytes: contract of the reference's PutHead.
-/
import Derived.Test.YtoeknbogaclfdaaZHdPut
namespace Go.Proofs.Ytoeknbogaclfdaa
open Go.RowKit
set_option linter.unusedVariables false
set_option linter.unusedSimpArgs false
set_option linter.unnecessarySimpa false
set_option maxRecDepth 100000

set_option maxHeartbeats 4000000 in
theorem ref_PutHead (h : Hd) {A : Option Addr} {n c : Nat} {w : World} (hl : Lst 4 mkR w A n c h.marks) (hs : Hid (Shorts h.marks)) (hn1 : n ≤ 1000) {r : Bool} (hr : Hid (rightH h = r)) {L : List UInt8} (hL : Hid (putHr h r = L)) :
    Calls Try.prog 20 #[hdV h A n c] w fun e w' => ∃ A' n' c', e = .returned (.tuple #[.slice A' n' c', .int .i64 (if r then 0 else 1)]) ∧ Byt U8 w' w.heap.size A' n' c' L ∧ Ext w w' := by
  have h63 := hl.n63
  have hlw := hl.ext mk_rep (Ext.alloc w (.cells #[.int .i64 h.size, .int .i64 h.order, .int .i64 h.unit, .int .i64 h.count, .int .i64 h.next, .int .i64 h.seq, .slice A n c] THd))
  have HRC := Lib.hid (ref_RightHead h hlw hs hn1 hr)
  cases r with
  | false =>
    obtain rfl : L = [] := by rw [← hL.out]; rfl
    go_enter Try.func20, Try.ntmps20
    go_wp2_with fail
    refine HRC.out.mono ?_
    rintro e w1 ⟨rfl, hx1⟩
    go_wp2_with fail
    go_ret2
    exact ⟨_, _, _, rfl, Byt.nil _ _ _ _, (Ext.alloc _ _).trans hx1⟩
  | true =>
    have hbd := right_bds hr.out
    have hlen := hl.len
    have HL : Hid (putH h = L) := hL.out
    obtain ⟨h1v, h2, h3, h4, nx, sq, xs⟩ := h
    simp only at hbd hlen hl
    obtain ⟨⟨d1, d2, d3, d4, d5, d6⟩, HF0, hn17⟩ := hbd
    rw [hlen] at hn17
    have HFF := Lib.hid HF0
    have HD := Lib.hid (And.intro d1 (And.intro d2 (And.intro d3 (And.intro d4 (And.intro d5 d6)))))
    clear hL hr HF0 hlw d1 d2 d3 d4 d5 d6
    have HLEN := Lib.hid hlen
    clear hlen
    rw [show (if true = true then (0 : Int) else 1) = 0 from rfl]
    go_enter Try.func20, Try.ntmps20
    go_wp2_with fail
    refine HRC.out.mono ?_
    rintro e w2 ⟨rfl, hx2⟩
    have b0 : w2.cell? ⟨w.heap.size, 0, none⟩ = some (.int .i64 h1v) := hx2.cell (cell_new w #[.int .i64 h1v, .int .i64 h2, .int .i64 h3, .int .i64 h4, .int .i64 nx, .int .i64 sq, .slice A n c] THd 0)
    have b1 : w2.cell? ⟨w.heap.size, 1, none⟩ = some (.int .i64 h2) := hx2.cell (cell_new w #[.int .i64 h1v, .int .i64 h2, .int .i64 h3, .int .i64 h4, .int .i64 nx, .int .i64 sq, .slice A n c] THd 1)
    have b2 : w2.cell? ⟨w.heap.size, 2, none⟩ = some (.int .i64 h3) := hx2.cell (cell_new w #[.int .i64 h1v, .int .i64 h2, .int .i64 h3, .int .i64 h4, .int .i64 nx, .int .i64 sq, .slice A n c] THd 2)
    have b3 : w2.cell? ⟨w.heap.size, 3, none⟩ = some (.int .i64 h4) := hx2.cell (cell_new w #[.int .i64 h1v, .int .i64 h2, .int .i64 h3, .int .i64 h4, .int .i64 nx, .int .i64 sq, .slice A n c] THd 3)
    have b4 : w2.cell? ⟨w.heap.size, 4, none⟩ = some (.int .i64 nx) := hx2.cell (cell_new w #[.int .i64 h1v, .int .i64 h2, .int .i64 h3, .int .i64 h4, .int .i64 nx, .int .i64 sq, .slice A n c] THd 4)
    have b5 : w2.cell? ⟨w.heap.size, 5, none⟩ = some (.int .i64 sq) := hx2.cell (cell_new w #[.int .i64 h1v, .int .i64 h2, .int .i64 h3, .int .i64 h4, .int .i64 nx, .int .i64 sq, .slice A n c] THd 5)
    have b6 : w2.cell? ⟨w.heap.size, 6, none⟩ = some (.slice A n c) := hx2.cell (cell_new w #[.int .i64 h1v, .int .i64 h2, .int .i64 h3, .int .i64 h4, .int .i64 nx, .int .i64 sq, .slice A n c] THd 6)
    have gx2 : Ext w w2 := (Ext.alloc _ _).trans hx2
    clear hx2 HRC
    go_wp2_with fail
    refine wp_region_typed2 (R := But w2.heap.size (fun _ => False)) Ext.steady (But.steady _ _) (fun _ _ => But.of_ext) rfl 34 rfl [0, 1, 3, 0, 8, 24, 63, 0, 128, 384, 1023, 0, 2048, 6144, 16383, 0, 32768, 131071, 0, 262144, 1048575, 2097151] 0 (by kernel_rfl) ?_
    -- 0: Op.fieldAddr 43 t1 0
    apply Stage2.step (Is _) true [] true false (Is.keeps _) (fun _ => Is.keeps _) (by kernel_rfl)
    · intro w1 h1
      have h1 : Ext _ w1 := h1
      simp only [List.nil_append, List.cons_append, List.map_cons, List.map_nil, Given]
      go_wp2_with fail
      exact Post.isv (Ext.refl _) rfl rfl rfl
    -- 1: Op.load 3 t8
    apply Stage2.step (Is (.int .i64 h1v)) true [true] true false (Is.keeps _) (fun _ => Is.keeps _) (by kernel_rfl)
    · intro w1 h1
      have h1 : Ext _ w1 := h1
      simp only [List.nil_append, List.cons_append, List.map_cons, List.map_nil, Sp.pr, Given]
      rintro _ rfl
      have q0 := h1.cell b0
      go_wp2_with fail
      exact Post.isv (Ext.refl _) rfl rfl rfl
    -- 2: Op.call { value (Operand.func 55), args := #[const (Value.slice none 0 0), t9], argTypes := #[23, 3]
    apply Stage2.step (BytT U8 w2.heap.size (varl h1v.toNat)) false [false, true] true false (BytT.keeps _ _ _) (no_keeps) (by kernel_rfl)
    · intro w1 h1
      have h1 : Ext _ w1 := h1
      simp only [List.nil_append, List.cons_append, List.map_cons, List.map_nil, Sp.pr, Given]
      rintro _ rfl
      go_wp2_with fail
      refine (ref_Var none 0 0 [] h1v _ (Sl.nil _) (by omega) HD.out.1.2).mono ?_
      rintro e w2 ⟨A1, n1, c1, rfl, e1, hx1⟩
      rw [List.nil_append] at e1
      go_wp2_with fail
      exact ⟨rfl, rfl, hx1, _, _, _, rfl, e1.low h1.size⟩
    -- 3: Op.fieldAddr 43 t1 1
    apply Stage2.step (Is _) true [] true false (Is.keeps _) (fun _ => Is.keeps _) (by kernel_rfl)
    · intro w1 h1
      have h1 : Ext _ w1 := h1
      simp only [List.nil_append, List.cons_append, List.map_cons, List.map_nil, Given]
      go_wp2_with fail
      exact Post.isv (Ext.refl _) rfl rfl rfl
    -- 4: Op.fieldAddr 41 t11 0
    apply Stage2.step (Is _) true [false, false, false, true] true false (Is.keeps _) (fun _ => Is.keeps _) (by kernel_rfl)
    · intro w1 h1
      have h1 : Ext _ w1 := h1
      simp only [List.nil_append, List.cons_append, List.map_cons, List.map_nil, Sp.pr, Given]
      rintro _ rfl
      go_wp2_with fail
      exact Post.isv (Ext.refl _) rfl rfl rfl
    -- 5: Op.load 3 t12
    apply Stage2.step (Is (.int .i64 h2)) true [false, false, false, false, true] true false (Is.keeps _) (fun _ => Is.keeps _) (by kernel_rfl)
    · intro w1 h1
      have h1 : Ext _ w1 := h1
      simp only [List.nil_append, List.cons_append, List.map_cons, List.map_nil, Sp.pr, Given]
      rintro _ rfl
      have q0 := h1.cell b1
      go_wp2_with fail
      exact Post.isv (Ext.refl _) rfl rfl rfl
    -- 6: Op.call { value (Operand.func 55), args := #[t10, t13], argTypes := #[23, 3] }
    apply Stage2.step (BytT U8 w2.heap.size (varl h1v.toNat ++ varl h2.toNat)) false [false, false, true, false, false, true] true false (BytT.keeps _ _ _) (no_keeps) (by kernel_rfl)
    · intro w1 h1
      have h1 : Ext _ w1 := h1
      simp only [List.nil_append, List.cons_append, List.map_cons, List.map_nil, Sp.pr, Given]
      rintro _ ⟨A1, n1, c1, rfl, e1⟩
      rintro _ rfl
      have lb := e1.len
      have v1 := (varl_length h1v.toNat).2
      have v2 := (varl_length h2.toNat).2
      have v3 := (varl_length h3.toNat).2
      have v4 := (varl_length h4.toNat).2
      have v5 := (varl_length nx.toNat).2
      try simp only [List.length_append] at lb
      go_wp2_with fail
      refine (ref_Var A1 n1 c1 _ h2 _ e1.sl (by omega) HD.out.2.1.2).mono ?_
      rintro e w2 ⟨A2, n2, c2, rfl, e2, hx1⟩
      go_wp2_with fail
      exact ⟨rfl, rfl, hx1, _, _, _, rfl, e2.low h1.size⟩
    -- 7: Op.fieldAddr 43 t1 1
    apply Stage2.step (Is _) true [] true false (Is.keeps _) (fun _ => Is.keeps _) (by kernel_rfl)
    · intro w1 h1
      have h1 : Ext _ w1 := h1
      simp only [List.nil_append, List.cons_append, List.map_cons, List.map_nil, Given]
      go_wp2_with fail
      exact Post.isv (Ext.refl _) rfl rfl rfl
    -- 8: Op.fieldAddr 41 t15 1
    apply Stage2.step (Is _) true [false, false, false, false, false, false, false, true] true false (Is.keeps _) (fun _ => Is.keeps _) (by kernel_rfl)
    · intro w1 h1
      have h1 : Ext _ w1 := h1
      simp only [List.nil_append, List.cons_append, List.map_cons, List.map_nil, Sp.pr, Given]
      rintro _ rfl
      go_wp2_with fail
      exact Post.isv (Ext.refl _) rfl rfl rfl
    -- 9: Op.load 3 t16
    apply Stage2.step (Is (.int .i64 h3)) true [false, false, false, false, false, false, false, false, true] true false (Is.keeps _) (fun _ => Is.keeps _) (by kernel_rfl)
    · intro w1 h1
      have h1 : Ext _ w1 := h1
      simp only [List.nil_append, List.cons_append, List.map_cons, List.map_nil, Sp.pr, Given]
      rintro _ rfl
      have q0 := h1.cell b2
      go_wp2_with fail
      exact Post.isv (Ext.refl _) rfl rfl rfl
    -- 10: Op.call { value (Operand.func 55), args := #[t14, t17], argTypes := #[23, 3] }
    apply Stage2.step (BytT U8 w2.heap.size (varl h1v.toNat ++ varl h2.toNat ++ varl h3.toNat)) false [false, false, false, false, false, false, true, false, false, true] true false (BytT.keeps _ _ _) (no_keeps) (by kernel_rfl)
    · intro w1 h1
      have h1 : Ext _ w1 := h1
      simp only [List.nil_append, List.cons_append, List.map_cons, List.map_nil, Sp.pr, Given]
      rintro _ ⟨A2, n2, c2, rfl, e2⟩
      rintro _ rfl
      have lb := e2.len
      have v1 := (varl_length h1v.toNat).2
      have v2 := (varl_length h2.toNat).2
      have v3 := (varl_length h3.toNat).2
      have v4 := (varl_length h4.toNat).2
      have v5 := (varl_length nx.toNat).2
      try simp only [List.length_append] at lb
      go_wp2_with fail
      refine (ref_Var A2 n2 c2 _ h3 _ e2.sl (by omega) HD.out.2.2.1.2).mono ?_
      rintro e w2 ⟨A3, n3, c3, rfl, e3, hx1⟩
      go_wp2_with fail
      exact ⟨rfl, rfl, hx1, _, _, _, rfl, e3.low h1.size⟩
    -- 11: Op.fieldAddr 43 t1 1
    apply Stage2.step (Is _) true [] true false (Is.keeps _) (fun _ => Is.keeps _) (by kernel_rfl)
    · intro w1 h1
      have h1 : Ext _ w1 := h1
      simp only [List.nil_append, List.cons_append, List.map_cons, List.map_nil, Given]
      go_wp2_with fail
      exact Post.isv (Ext.refl _) rfl rfl rfl
    -- 12: Op.fieldAddr 41 t19 2
    apply Stage2.step (Is _) true [false, false, false, false, false, false, false, false, false, false, false, true] true false (Is.keeps _) (fun _ => Is.keeps _) (by kernel_rfl)
    · intro w1 h1
      have h1 : Ext _ w1 := h1
      simp only [List.nil_append, List.cons_append, List.map_cons, List.map_nil, Sp.pr, Given]
      rintro _ rfl
      go_wp2_with fail
      exact Post.isv (Ext.refl _) rfl rfl rfl
    -- 13: Op.load 3 t20
    apply Stage2.step (Is (.int .i64 h4)) true [false, false, false, false, false, false, false, false, false, false, false, false, true] true false (Is.keeps _) (fun _ => Is.keeps _) (by kernel_rfl)
    · intro w1 h1
      have h1 : Ext _ w1 := h1
      simp only [List.nil_append, List.cons_append, List.map_cons, List.map_nil, Sp.pr, Given]
      rintro _ rfl
      have q0 := h1.cell b3
      go_wp2_with fail
      exact Post.isv (Ext.refl _) rfl rfl rfl
    -- 14: Op.call { value (Operand.func 55), args := #[t18, t21], argTypes := #[23, 3] }
    apply Stage2.step (BytT U8 w2.heap.size (varl h1v.toNat ++ varl h2.toNat ++ varl h3.toNat ++ varl h4.toNat)) false [false, false, false, false, false, false, false, false, false, false, true, false, false, true] true false (BytT.keeps _ _ _) (no_keeps) (by kernel_rfl)
    · intro w1 h1
      have h1 : Ext _ w1 := h1
      simp only [List.nil_append, List.cons_append, List.map_cons, List.map_nil, Sp.pr, Given]
      rintro _ ⟨A3, n3, c3, rfl, e3⟩
      rintro _ rfl
      have lb := e3.len
      have v1 := (varl_length h1v.toNat).2
      have v2 := (varl_length h2.toNat).2
      have v3 := (varl_length h3.toNat).2
      have v4 := (varl_length h4.toNat).2
      have v5 := (varl_length nx.toNat).2
      try simp only [List.length_append] at lb
      go_wp2_with fail
      refine (ref_Var A3 n3 c3 _ h4 _ e3.sl (by omega) HD.out.2.2.2.1.2).mono ?_
      rintro e w2 ⟨A4, n4, c4, rfl, e4, hx1⟩
      go_wp2_with fail
      exact ⟨rfl, rfl, hx1, _, _, _, rfl, e4.low h1.size⟩
    -- 15: Op.fieldAddr 43 t1 2
    apply Stage2.step (Is _) true [] true false (Is.keeps _) (fun _ => Is.keeps _) (by kernel_rfl)
    · intro w1 h1
      have h1 : Ext _ w1 := h1
      simp only [List.nil_append, List.cons_append, List.map_cons, List.map_nil, Given]
      go_wp2_with fail
      exact Post.isv (Ext.refl _) rfl rfl rfl
    -- 16: Op.load 3 t23
    apply Stage2.step (Is (.int .i64 nx)) true [false, false, false, false, false, false, false, false, false, false, false, false, false, false, false, true] true false (Is.keeps _) (fun _ => Is.keeps _) (by kernel_rfl)
    · intro w1 h1
      have h1 : Ext _ w1 := h1
      simp only [List.nil_append, List.cons_append, List.map_cons, List.map_nil, Sp.pr, Given]
      rintro _ rfl
      have q0 := h1.cell b4
      go_wp2_with fail
      exact Post.isv (Ext.refl _) rfl rfl rfl
    -- 17: Op.call { value (Operand.func 55), args := #[t22, t24], argTypes := #[23, 3] }
    apply Stage2.step (BytT U8 w2.heap.size (varl h1v.toNat ++ varl h2.toNat ++ varl h3.toNat ++ varl h4.toNat ++ varl nx.toNat)) false [false, false, false, false, false, false, false, false, false, false, false, false, false, false, true, false, true] true false (BytT.keeps _ _ _) (no_keeps) (by kernel_rfl)
    · intro w1 h1
      have h1 : Ext _ w1 := h1
      simp only [List.nil_append, List.cons_append, List.map_cons, List.map_nil, Sp.pr, Given]
      rintro _ ⟨A4, n4, c4, rfl, e4⟩
      rintro _ rfl
      have lb := e4.len
      have v1 := (varl_length h1v.toNat).2
      have v2 := (varl_length h2.toNat).2
      have v3 := (varl_length h3.toNat).2
      have v4 := (varl_length h4.toNat).2
      have v5 := (varl_length nx.toNat).2
      try simp only [List.length_append] at lb
      go_wp2_with fail
      refine (ref_Var A4 n4 c4 _ nx _ e4.sl (by omega) HD.out.2.2.2.2.1.2).mono ?_
      rintro e w2 ⟨A5, n5, c5, rfl, e5, hx1⟩
      go_wp2_with fail
      exact ⟨rfl, rfl, hx1, _, _, _, rfl, e5.low h1.size⟩
    -- 18: Op.fieldAddr 43 t1 3
    apply Stage2.step (Is _) true [] true false (Is.keeps _) (fun _ => Is.keeps _) (by kernel_rfl)
    · intro w1 h1
      have h1 : Ext _ w1 := h1
      simp only [List.nil_append, List.cons_append, List.map_cons, List.map_nil, Given]
      go_wp2_with fail
      exact Post.isv (Ext.refl _) rfl rfl rfl
    -- 19: Op.load 3 t26
    apply Stage2.step (Is (.int .i64 sq)) true [false, false, false, false, false, false, false, false, false, false, false, false, false, false, false, false, false, false, true] true false (Is.keeps _) (fun _ => Is.keeps _) (by kernel_rfl)
    · intro w1 h1
      have h1 : Ext _ w1 := h1
      simp only [List.nil_append, List.cons_append, List.map_cons, List.map_nil, Sp.pr, Given]
      rintro _ rfl
      have q0 := h1.cell b5
      go_wp2_with fail
      exact Post.isv (Ext.refl _) rfl rfl rfl
    -- 20: Op.call { value (Operand.func 55), args := #[t25, t27], argTypes := #[23, 3] }
    apply Stage2.step (BytT U8 w2.heap.size (varl h1v.toNat ++ varl h2.toNat ++ varl h3.toNat ++ varl h4.toNat ++ varl nx.toNat ++ varl sq.toNat)) false [false, false, false, false, false, false, false, false, false, false, false, false, false, false, false, false, false, true, false, true] true false (BytT.keeps _ _ _) (no_keeps) (by kernel_rfl)
    · intro w1 h1
      have h1 : Ext _ w1 := h1
      simp only [List.nil_append, List.cons_append, List.map_cons, List.map_nil, Sp.pr, Given]
      rintro _ ⟨A5, n5, c5, rfl, e5⟩
      rintro _ rfl
      have lb := e5.len
      have v1 := (varl_length h1v.toNat).2
      have v2 := (varl_length h2.toNat).2
      have v3 := (varl_length h3.toNat).2
      have v4 := (varl_length h4.toNat).2
      have v5 := (varl_length nx.toNat).2
      try simp only [List.length_append] at lb
      go_wp2_with fail
      refine (ref_Var A5 n5 c5 _ sq _ e5.sl (by omega) HD.out.2.2.2.2.2.2).mono ?_
      rintro e w2 ⟨A6, n6, c6, rfl, e6, hx1⟩
      go_wp2_with fail
      exact ⟨rfl, rfl, hx1, _, _, _, rfl, e6.low h1.size⟩
    -- 21: Op.assign t28
    apply Stage2.step (BytT U8 w2.heap.size (varl h1v.toNat ++ varl h2.toNat ++ varl h3.toNat ++ varl h4.toNat ++ varl nx.toNat ++ varl sq.toNat)) false [false, false, false, false, false, false, false, false, false, false, false, false, false, false, false, false, false, false, false, false, true] true false (BytT.keeps _ _ _) (no_keeps) (by kernel_rfl)
    · intro w1 h1
      have h1 : Ext _ w1 := h1
      simp only [List.nil_append, List.cons_append, List.map_cons, List.map_nil, Sp.pr, Given]
      rintro v hcp
      go_wp2_with fail
      exact ⟨rfl, rfl, Ext.refl _, hcp⟩
    apply Stage2.nil [true, true, true, true, true, true, true, true, true, true, true, true, true, true, true, true, true, true, true, true, true, true] (by kernel_rfl)
    intro w1 h1
    have h1 : (Ext) _ w1 := h1
    simp only [List.nil_append, List.cons_append, List.map_cons, List.map_nil, Sp.pr]
    refine Fin2.is_ ?_
    refine Fin2.is_ ?_
    refine Fin2.step_ ?_
    rintro _ ⟨A1, n1, c1, rfl, e1⟩
    refine Fin2.is_ ?_
    refine Fin2.is_ ?_
    refine Fin2.is_ ?_
    refine Fin2.step_ ?_
    rintro _ ⟨A2, n2, c2, rfl, e2⟩
    refine Fin2.is_ ?_
    refine Fin2.is_ ?_
    refine Fin2.is_ ?_
    refine Fin2.step_ ?_
    rintro _ ⟨A3, n3, c3, rfl, e3⟩
    refine Fin2.is_ ?_
    refine Fin2.is_ ?_
    refine Fin2.is_ ?_
    refine Fin2.step_ ?_
    rintro _ ⟨A4, n4, c4, rfl, e4⟩
    refine Fin2.is_ ?_
    refine Fin2.is_ ?_
    refine Fin2.step_ ?_
    rintro _ ⟨A5, n5, c5, rfl, e5⟩
    refine Fin2.is_ ?_
    refine Fin2.is_ ?_
    refine Fin2.step_ ?_
    rintro _ ⟨A6, n6, c6, rfl, e6⟩
    refine Fin2.step_ ?_
    rintro _ ⟨A6, n6, c6, rfl, e6⟩
    refine Fin2.nil_ ?_
    go_simp
    have lb := e6.len
    have v1 := (varl_length h1v.toNat).2
    have v2 := (varl_length h2.toNat).2
    have v3 := (varl_length h3.toNat).2
    have v4 := (varl_length h4.toNat).2
    have v5 := (varl_length nx.toNat).2
    have v6 := (varl_length sq.toNat).2
    simp only [List.length_append] at lb
    have hn6 : n6 ≤ 54 := by omega
    obtain ⟨G, hG⟩ : ∃ G, varl h1v.toNat ++ varl h2.toNat ++ varl h3.toNat ++ varl h4.toNat ++ varl nx.toNat ++ varl sq.toNat = G := ⟨_, rfl⟩
    rw [hG] at e6
    have HG : Hid (G ++ (varl xs.length ++ mksBs xs) = bodyH ⟨h1v, h2, h3, h4, nx, sq, xs⟩) := by
      unfold Hid bodyH
      rw [← hG]
      simp [hdNs, varsL]
    obtain ⟨M, hM⟩ : ∃ M, bodyH ⟨h1v, h2, h3, h4, nx, sq, xs⟩ = M := ⟨_, rfl⟩
    rw [hM] at HG
    have HL2 : Hid (put M (crcOf M) 4 = L) := by
      unfold Hid
      rw [← HL.out, ← hM]
      rfl
    replace b6 := h1.cell b6
    have gx3 := gx2.trans h1
    have hml : M.length ≤ 2000 := by
      rw [← HG.out]
      have hmk : ∀ l : List Mk, (∀ x ∈ l, fitM x) → (mksBs l).length ≤ 49 * l.length := by
        intro l
        induction l with
        | nil => intro _; simp [mksBs]
        | cons x l ih =>
          intro hf
          have h1 := ih fun y hy => hf y (by simp [hy])
          have h2 := (mkBs_len x).2
          have h3 := (hf x (by simp)).2.2
          have : (mksBs (x :: l)).length = (mkBs x).length + (mksBs l).length := by unfold mksBs; simp
          rw [this, List.length_cons]
          omega
      have h7 := hmk xs HFF.out
      have h8 := (varl_length xs.length).2
      rw [HLEN.out] at h7 h8
      have h9 := e6.len
      simp only [List.length_append]
      rw [HLEN.out]
      omega
    have HML := Lib.hid hml
    obtain ⟨wm, rfl⟩ : ∃ q, q = w1 := ⟨_, rfl⟩
    clear v1 v2 v3 v4 v5 v6 lb hM hG HL b0 b1 b2 b3 b4 b5 hml
    go_wp2_with fail
    refine (ref_putMarks e6.sl (by omega) (hl.ext mk_rep gx3) hn17 HFF HG).mono ?_
    rintro e w5 ⟨A7, n7, c7, rfl, h7, hx7⟩
    have hn7 : n7 ≤ 2000 := by rw [← h7.len]; exact HML.out
    go_wp2_with fail
    refine (ref_Seal A7 n7 c7 M _ h7.sl (by omega)).mono ?_
    rintro e w6 ⟨A8, n8, c8, rfl, h8, hx8⟩
    rw [HL2.out] at h8
    have gx5 := gx3.trans hx7
    go_wp2_with fail
    go_ret2
    exact ⟨_, _, _, rfl, h8.low gx5.size, gx5.trans hx8⟩
end Go.Proofs.Ytoeknbogaclfdaa
