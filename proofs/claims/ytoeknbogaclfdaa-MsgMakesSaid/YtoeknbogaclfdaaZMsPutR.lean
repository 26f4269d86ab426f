/-
  Messages in bytes: contract of the reference's PutMsg.
-/
import Derived.Test.YtoeknbogaclfdaaZMsPut
import Derived.Test.YtoeknbogaclfdaaZMsRightR
namespace Go.Proofs.Ytoeknbogaclfdaa
open Go.RowKit
set_option linter.unusedVariables false
set_option linter.unusedSimpArgs false
set_option linter.unnecessarySimpa false
set_option maxRecDepth 100000
theorem rightM_data {m : Ms} (hr : rightM m = true) (hk : m.kind ≠ 6) : m.data = [] := by
  unfold rightM at hr
  rw [Bool.and_eq_true, headM_iff] at hr
  exact (bare_fields hr.1.2.1).2.2.2 hk
set_option maxHeartbeats 4000000 in
theorem ref_PutMsg_0 {k : Int} (hk0 : Hid (¬ (k = 2 ∨ k = 4))) {n p e' s q : Int} {ch : List Tg} {en : List En} {mk : List Mk} {da : List UInt8} {A1 : Option Addr} {An1 Ac1 : Nat} {A2 : Option Addr} {An2 Ac2 : Nat} {A3 : Option Addr} {An3 Ac3 : Nat} {A4 : Option Addr} {An4 Ac4 : Nat} {w : World} (h : MsR w ⟨k, n, p, e', s, q, ch, en, mk, da⟩ A1 An1 Ac1 A2 An2 Ac2 A3 An3 Ac3 A4 An4 Ac4) (hf : Hid (EnFit en)) (hs : Hid (Shorts mk)) (hr : Hid (rightM ⟨k, n, p, e', s, q, ch, en, mk, da⟩ = true)) {L : List UInt8} (hL : Hid (putMr ⟨k, n, p, e', s, q, ch, en, mk, da⟩ true = L)) :
    Calls Try.prog 36 #[msV ⟨k, n, p, e', s, q, ch, en, mk, da⟩ A1 An1 Ac1 A2 An2 Ac2 A3 An3 Ac3 A4 An4 Ac4] w fun e w' => ∃ A' n' c', e = .returned (.tuple #[.slice A' n' c', .int .i64 (if true then 0 else 1)]) ∧ Byt U8 w' w.heap.size A' n' c' L ∧ Ext w w' := by
  have hd6 : k = 6 ∨ da = [] := by
    by_cases h6 : k = 6
    · exact .inl h6
    · exact .inr (rightM_data hr.out h6)
  have g2 : (k == 2) = false := by have := hk0.out; simp; omega
  have g4 : (k == 4) = false := by have := hk0.out; simp; omega
  have HD6 := Lib.hid hd6
  clear hd6
  have hbd := rightM_bds hr.out
  simp only at hbd
  obtain ⟨HK, HD, hda, ht⟩ := hbd
  have HD := Lib.hid HD
  have hcv := fun u => run_kind HK u
  have HT := Lib.hid ht
  have HL : Hid (putM ⟨k, n, p, e', s, q, ch, en, mk, da⟩ = L) := hL.out
  have HRC := Lib.hid (ref_RightMsg (h.ext (Ext.alloc w (.cells (msC ⟨k, n, p, e', s, q, ch, en, mk, da⟩ A1 An1 Ac1 A2 An2 Ac2 A3 An3 Ac3 A4 An4 Ac4) TMs))) hf hs hr)
  obtain ⟨kb, hkb⟩ : ∃ z, kdB k = z := ⟨_, rfl⟩
  rw [hkb] at hcv
  have HKB := Lib.hid hkb
  obtain ⟨i0, hi0, hz0, hz1, hz2⟩ := info_parts info_u8
  have hdl := h.da.len
  have hn4 : An4 ≤ 64 := by rw [← hdl]; exact hda
  have hc4 := h.da.n63
  clear hL hr ht hkb hda
  rw [show (if true = true then (0 : Int) else 1) = 0 from rfl]
  go_enter Try.func36, Try.ntmps36
  go_wp2_with fail
  refine HRC.out.mono ?_
  rintro e w2 ⟨rfl, hx2⟩
  have b0 : w2.cell? ⟨w.heap.size, 0, none⟩ = some (.int .i64 k) := hx2.cell (cell_new w (msC ⟨k, n, p, e', s, q, ch, en, mk, da⟩ A1 An1 Ac1 A2 An2 Ac2 A3 An3 Ac3 A4 An4 Ac4) TMs 0)
  have b1 : w2.cell? ⟨w.heap.size, 1, none⟩ = some (.int .i64 n) := hx2.cell (cell_new w (msC ⟨k, n, p, e', s, q, ch, en, mk, da⟩ A1 An1 Ac1 A2 An2 Ac2 A3 An3 Ac3 A4 An4 Ac4) TMs 1)
  have b2 : w2.cell? ⟨w.heap.size, 2, none⟩ = some (.int .i64 p) := hx2.cell (cell_new w (msC ⟨k, n, p, e', s, q, ch, en, mk, da⟩ A1 An1 Ac1 A2 An2 Ac2 A3 An3 Ac3 A4 An4 Ac4) TMs 2)
  have b3 : w2.cell? ⟨w.heap.size, 3, none⟩ = some (.int .i64 e') := hx2.cell (cell_new w (msC ⟨k, n, p, e', s, q, ch, en, mk, da⟩ A1 An1 Ac1 A2 An2 Ac2 A3 An3 Ac3 A4 An4 Ac4) TMs 3)
  have b4 : w2.cell? ⟨w.heap.size, 4, none⟩ = some (.int .i64 s) := hx2.cell (cell_new w (msC ⟨k, n, p, e', s, q, ch, en, mk, da⟩ A1 An1 Ac1 A2 An2 Ac2 A3 An3 Ac3 A4 An4 Ac4) TMs 4)
  have b5 : w2.cell? ⟨w.heap.size, 5, none⟩ = some (.int .i64 q) := hx2.cell (cell_new w (msC ⟨k, n, p, e', s, q, ch, en, mk, da⟩ A1 An1 Ac1 A2 An2 Ac2 A3 An3 Ac3 A4 An4 Ac4) TMs 5)
  have b6 : w2.cell? ⟨w.heap.size, 6, none⟩ = some (.slice A1 An1 Ac1) := hx2.cell (cell_new w (msC ⟨k, n, p, e', s, q, ch, en, mk, da⟩ A1 An1 Ac1 A2 An2 Ac2 A3 An3 Ac3 A4 An4 Ac4) TMs 6)
  have b7 : w2.cell? ⟨w.heap.size, 7, none⟩ = some (.slice A2 An2 Ac2) := hx2.cell (cell_new w (msC ⟨k, n, p, e', s, q, ch, en, mk, da⟩ A1 An1 Ac1 A2 An2 Ac2 A3 An3 Ac3 A4 An4 Ac4) TMs 7)
  have b8 : w2.cell? ⟨w.heap.size, 8, none⟩ = some (.slice A3 An3 Ac3) := hx2.cell (cell_new w (msC ⟨k, n, p, e', s, q, ch, en, mk, da⟩ A1 An1 Ac1 A2 An2 Ac2 A3 An3 Ac3 A4 An4 Ac4) TMs 8)
  have b9 : w2.cell? ⟨w.heap.size, 9, none⟩ = some (.slice A4 An4 Ac4) := hx2.cell (cell_new w (msC ⟨k, n, p, e', s, q, ch, en, mk, da⟩ A1 An1 Ac1 A2 An2 Ac2 A3 An3 Ac3 A4 An4 Ac4) TMs 9)
  have gx2 : Ext w w2 := (Ext.alloc _ _).trans hx2
  have gx2b : w.heap.size < w2.heap.size := World.block_lt_of_cell? _ _ b0
  clear hx2 HRC
  go_wp2_with fail
  refine wp_region_typed2 (R := But w2.heap.size (fun _ => False)) Ext.steady (But.steady _ _) (fun _ _ => But.of_ext) rfl 91 rfl [0, 1, 3, 7, 0, 16, 63, 0, 128, 511, 0, 1024, 4095, 0, 8192, 32767, 0, 65536, 262143, 524287] 0 (by kernel_rfl) ?_
  apply Stage2.step (Is _) true [] true false (Is.keeps _) (fun _ => Is.keeps _) (by kernel_rfl)
  · intro w1 h1
    have h1 : Ext _ w1 := h1
    simp only [List.nil_append, List.cons_append, List.map_cons, List.map_nil, Given]
    go_wp2_with fail
    exact Post.isv (Ext.refl _) rfl rfl rfl
  apply Stage2.step (Is (.int .i64 k)) true [true] true false (Is.keeps _) (fun _ => Is.keeps _) (by kernel_rfl)
  · intro w1 h1
    have h1 : Ext _ w1 := h1
    simp only [List.nil_append, List.cons_append, List.map_cons, List.map_nil, Sp.pr, Given]
    rintro _ rfl
    have q0 := h1.cell b0
    go_wp2_with fail
    exact Post.isv (Ext.refl _) rfl rfl rfl
  apply Stage2.step (Is (.int .u8 ((kb).toNat : Int))) true [false, true] true false (Is.keeps _) (fun _ => Is.keeps _) (by kernel_rfl)
  · intro w1 h1
    have h1 : Ext _ w1 := h1
    simp only [List.nil_append, List.cons_append, List.map_cons, List.map_nil, Sp.pr, Given]
    rintro _ rfl
    go_wp2_with fail
    exact Post.isv (Ext.refl _) rfl rfl rfl
  apply Stage2.step (BytT U8 w2.heap.size [kb]) false [false, false, true] true false (BytT.keeps _ _ _) (no_keeps) (by kernel_rfl)
  · intro w1 h1
    have h1 : Ext _ w1 := h1
    simp only [List.nil_append, List.cons_append, List.map_cons, List.map_nil, Sp.pr, Given]
    rintro _ rfl
    go_wp2_with fail
    exact ⟨rfl, rfl, Ext.alloc _ _, _, _, _, rfl, byt_madeM w1 _ _ _ [kb] rfl (by simp [maxLen]) h1.size⟩
  apply Stage2.step (Is _) true [] true false (Is.keeps _) (fun _ => Is.keeps _) (by kernel_rfl)
  · intro w1 h1
    have h1 : Ext _ w1 := h1
    simp only [List.nil_append, List.cons_append, List.map_cons, List.map_nil, Given]
    go_wp2_with fail
    exact Post.isv (Ext.refl _) rfl rfl rfl
  apply Stage2.step (Is (.int .i64 n)) true [false, false, false, false, true] true false (Is.keeps _) (fun _ => Is.keeps _) (by kernel_rfl)
  · intro w1 h1
    have h1 : Ext _ w1 := h1
    simp only [List.nil_append, List.cons_append, List.map_cons, List.map_nil, Sp.pr, Given]
    rintro _ rfl
    have q0 := h1.cell b1
    go_wp2_with fail
    exact Post.isv (Ext.refl _) rfl rfl rfl
  apply Stage2.step (BytT U8 w2.heap.size ([kb] ++ varl n.toNat)) false [false, false, false, true, false, true] true false (BytT.keeps _ _ _) (no_keeps) (by kernel_rfl)
  · intro w1 h1
    have h1 : Ext _ w1 := h1
    simp only [List.nil_append, List.cons_append, List.map_cons, List.map_nil, Sp.pr, Given]
    rintro _ ⟨A0, n0, c0, rfl, e0⟩
    rintro _ rfl
    have lw : n0 ≤ 60 := by
      have lb := e0.len
      have v1 := (varl_length n.toNat).2
      have v2 := (varl_length p.toNat).2
      have v3 := (varl_length e'.toNat).2
      have v4 := (varl_length s.toNat).2
      simp only [List.length_append, List.length_cons, List.length_nil] at lb
      omega
    go_wp2_with fail
    refine (ref_Var A0 n0 c0 _ n _ e0.sl (by omega) HD.out.1).mono ?_
    rintro e w2 ⟨B1, m1, d1, rfl, e1, hx1⟩
    go_wp2_with fail
    exact ⟨rfl, rfl, hx1, _, _, _, rfl, e1.low h1.size⟩
  apply Stage2.step (Is _) true [] true false (Is.keeps _) (fun _ => Is.keeps _) (by kernel_rfl)
  · intro w1 h1
    have h1 : Ext _ w1 := h1
    simp only [List.nil_append, List.cons_append, List.map_cons, List.map_nil, Given]
    go_wp2_with fail
    exact Post.isv (Ext.refl _) rfl rfl rfl
  apply Stage2.step (Is (.int .i64 p)) true [false, false, false, false, false, false, false, true] true false (Is.keeps _) (fun _ => Is.keeps _) (by kernel_rfl)
  · intro w1 h1
    have h1 : Ext _ w1 := h1
    simp only [List.nil_append, List.cons_append, List.map_cons, List.map_nil, Sp.pr, Given]
    rintro _ rfl
    have q0 := h1.cell b2
    go_wp2_with fail
    exact Post.isv (Ext.refl _) rfl rfl rfl
  apply Stage2.step (BytT U8 w2.heap.size ([kb] ++ varl n.toNat ++ varl p.toNat)) false [false, false, false, false, false, false, true, false, true] true false (BytT.keeps _ _ _) (no_keeps) (by kernel_rfl)
  · intro w1 h1
    have h1 : Ext _ w1 := h1
    simp only [List.nil_append, List.cons_append, List.map_cons, List.map_nil, Sp.pr, Given]
    rintro _ ⟨B1, m1, d1, rfl, e1⟩
    rintro _ rfl
    have lw : m1 ≤ 60 := by
      have lb := e1.len
      have v1 := (varl_length n.toNat).2
      have v2 := (varl_length p.toNat).2
      have v3 := (varl_length e'.toNat).2
      have v4 := (varl_length s.toNat).2
      simp only [List.length_append, List.length_cons, List.length_nil] at lb
      omega
    go_wp2_with fail
    refine (ref_Var B1 m1 d1 _ p _ e1.sl (by omega) HD.out.2.1).mono ?_
    rintro e w2 ⟨B2, m2, d2, rfl, e2, hx1⟩
    go_wp2_with fail
    exact ⟨rfl, rfl, hx1, _, _, _, rfl, e2.low h1.size⟩
  apply Stage2.step (Is _) true [] true false (Is.keeps _) (fun _ => Is.keeps _) (by kernel_rfl)
  · intro w1 h1
    have h1 : Ext _ w1 := h1
    simp only [List.nil_append, List.cons_append, List.map_cons, List.map_nil, Given]
    go_wp2_with fail
    exact Post.isv (Ext.refl _) rfl rfl rfl
  apply Stage2.step (Is (.int .i64 e')) true [false, false, false, false, false, false, false, false, false, false, true] true false (Is.keeps _) (fun _ => Is.keeps _) (by kernel_rfl)
  · intro w1 h1
    have h1 : Ext _ w1 := h1
    simp only [List.nil_append, List.cons_append, List.map_cons, List.map_nil, Sp.pr, Given]
    rintro _ rfl
    have q0 := h1.cell b3
    go_wp2_with fail
    exact Post.isv (Ext.refl _) rfl rfl rfl
  apply Stage2.step (BytT U8 w2.heap.size ([kb] ++ varl n.toNat ++ varl p.toNat ++ varl e'.toNat)) false [false, false, false, false, false, false, false, false, false, true, false, true] true false (BytT.keeps _ _ _) (no_keeps) (by kernel_rfl)
  · intro w1 h1
    have h1 : Ext _ w1 := h1
    simp only [List.nil_append, List.cons_append, List.map_cons, List.map_nil, Sp.pr, Given]
    rintro _ ⟨B2, m2, d2, rfl, e2⟩
    rintro _ rfl
    have lw : m2 ≤ 60 := by
      have lb := e2.len
      have v1 := (varl_length n.toNat).2
      have v2 := (varl_length p.toNat).2
      have v3 := (varl_length e'.toNat).2
      have v4 := (varl_length s.toNat).2
      simp only [List.length_append, List.length_cons, List.length_nil] at lb
      omega
    go_wp2_with fail
    refine (ref_Var B2 m2 d2 _ e' _ e2.sl (by omega) HD.out.2.2.1).mono ?_
    rintro e w2 ⟨B3, m3, d3, rfl, e3, hx1⟩
    go_wp2_with fail
    exact ⟨rfl, rfl, hx1, _, _, _, rfl, e3.low h1.size⟩
  apply Stage2.step (Is _) true [] true false (Is.keeps _) (fun _ => Is.keeps _) (by kernel_rfl)
  · intro w1 h1
    have h1 : Ext _ w1 := h1
    simp only [List.nil_append, List.cons_append, List.map_cons, List.map_nil, Given]
    go_wp2_with fail
    exact Post.isv (Ext.refl _) rfl rfl rfl
  apply Stage2.step (Is (.int .i64 s)) true [false, false, false, false, false, false, false, false, false, false, false, false, false, true] true false (Is.keeps _) (fun _ => Is.keeps _) (by kernel_rfl)
  · intro w1 h1
    have h1 : Ext _ w1 := h1
    simp only [List.nil_append, List.cons_append, List.map_cons, List.map_nil, Sp.pr, Given]
    rintro _ rfl
    have q0 := h1.cell b4
    go_wp2_with fail
    exact Post.isv (Ext.refl _) rfl rfl rfl
  apply Stage2.step (BytT U8 w2.heap.size ([kb] ++ varl n.toNat ++ varl p.toNat ++ varl e'.toNat ++ varl s.toNat)) false [false, false, false, false, false, false, false, false, false, false, false, false, true, false, true] true false (BytT.keeps _ _ _) (no_keeps) (by kernel_rfl)
  · intro w1 h1
    have h1 : Ext _ w1 := h1
    simp only [List.nil_append, List.cons_append, List.map_cons, List.map_nil, Sp.pr, Given]
    rintro _ ⟨B3, m3, d3, rfl, e3⟩
    rintro _ rfl
    have lw : m3 ≤ 60 := by
      have lb := e3.len
      have v1 := (varl_length n.toNat).2
      have v2 := (varl_length p.toNat).2
      have v3 := (varl_length e'.toNat).2
      have v4 := (varl_length s.toNat).2
      simp only [List.length_append, List.length_cons, List.length_nil] at lb
      omega
    go_wp2_with fail
    refine (ref_Var B3 m3 d3 _ s _ e3.sl (by omega) HD.out.2.2.2.1).mono ?_
    rintro e w2 ⟨B4, m4, d4, rfl, e4, hx1⟩
    go_wp2_with fail
    exact ⟨rfl, rfl, hx1, _, _, _, rfl, e4.low h1.size⟩
  apply Stage2.step (Is _) true [] true false (Is.keeps _) (fun _ => Is.keeps _) (by kernel_rfl)
  · intro w1 h1
    have h1 : Ext _ w1 := h1
    simp only [List.nil_append, List.cons_append, List.map_cons, List.map_nil, Given]
    go_wp2_with fail
    exact Post.isv (Ext.refl _) rfl rfl rfl
  apply Stage2.step (Is (.int .i64 q)) true [false, false, false, false, false, false, false, false, false, false, false, false, false, false, false, false, true] true false (Is.keeps _) (fun _ => Is.keeps _) (by kernel_rfl)
  · intro w1 h1
    have h1 : Ext _ w1 := h1
    simp only [List.nil_append, List.cons_append, List.map_cons, List.map_nil, Sp.pr, Given]
    rintro _ rfl
    have q0 := h1.cell b5
    go_wp2_with fail
    exact Post.isv (Ext.refl _) rfl rfl rfl
  apply Stage2.step (BytT U8 w2.heap.size ([kb] ++ varl n.toNat ++ varl p.toNat ++ varl e'.toNat ++ varl s.toNat ++ varl q.toNat)) false [false, false, false, false, false, false, false, false, false, false, false, false, false, false, false, true, false, true] true false (BytT.keeps _ _ _) (no_keeps) (by kernel_rfl)
  · intro w1 h1
    have h1 : Ext _ w1 := h1
    simp only [List.nil_append, List.cons_append, List.map_cons, List.map_nil, Sp.pr, Given]
    rintro _ ⟨B4, m4, d4, rfl, e4⟩
    rintro _ rfl
    have lw : m4 ≤ 60 := by
      have lb := e4.len
      have v1 := (varl_length n.toNat).2
      have v2 := (varl_length p.toNat).2
      have v3 := (varl_length e'.toNat).2
      have v4 := (varl_length s.toNat).2
      simp only [List.length_append, List.length_cons, List.length_nil] at lb
      omega
    go_wp2_with fail
    refine (ref_Var B4 m4 d4 _ q _ e4.sl (by omega) HD.out.2.2.2.2).mono ?_
    rintro e w2 ⟨B5, m5, d5, rfl, e5, hx1⟩
    go_wp2_with fail
    exact ⟨rfl, rfl, hx1, _, _, _, rfl, e5.low h1.size⟩
  apply Stage2.step (BytT U8 w2.heap.size ([kb] ++ varl n.toNat ++ varl p.toNat ++ varl e'.toNat ++ varl s.toNat ++ varl q.toNat)) false [false, false, false, false, false, false, false, false, false, false, false, false, false, false, false, false, false, false, true] true false (BytT.keeps _ _ _) (no_keeps) (by kernel_rfl)
  · intro w1 h1
    have h1 : Ext _ w1 := h1
    simp only [List.nil_append, List.cons_append, List.map_cons, List.map_nil, Sp.pr, Given]
    rintro v hcp
    go_wp2_with fail
    exact ⟨rfl, rfl, Ext.refl _, hcp⟩
  apply Stage2.nil [true, true, true, true, true, true, true, true, true, true, true, true, true, true, true, true, true, true, true, true] (by kernel_rfl)
  intro w1 h1
  have h1 : (Ext) _ w1 := h1
  simp only [List.nil_append, List.cons_append, List.map_cons, List.map_nil, Sp.pr]
  refine Fin2.is_ ?_
  refine Fin2.is_ ?_
  refine Fin2.is_ ?_
  refine Fin2.step_ ?_
  rintro _ ⟨A0, n0, c0, rfl, e0⟩
  refine Fin2.is_ ?_
  refine Fin2.is_ ?_
  refine Fin2.step_ ?_
  rintro _ ⟨B1, m1, d1, rfl, e1⟩
  refine Fin2.is_ ?_
  refine Fin2.is_ ?_
  refine Fin2.step_ ?_
  rintro _ ⟨B2, m2, d2, rfl, e2⟩
  refine Fin2.is_ ?_
  refine Fin2.is_ ?_
  refine Fin2.step_ ?_
  rintro _ ⟨B3, m3, d3, rfl, e3⟩
  refine Fin2.is_ ?_
  refine Fin2.is_ ?_
  refine Fin2.step_ ?_
  rintro _ ⟨B4, m4, d4, rfl, e4⟩
  refine Fin2.is_ ?_
  refine Fin2.is_ ?_
  refine Fin2.step_ ?_
  rintro _ ⟨B5, m5, d5, rfl, e5⟩
  refine Fin2.step_ ?_
  rintro _ ⟨B5, m5, d5, rfl, e5⟩
  refine Fin2.nil_ ?_
  go_simp
  have lb := e5.len
  have v1 := (varl_length n.toNat).2
  have v2 := (varl_length p.toNat).2
  have v3 := (varl_length e'.toNat).2
  have v4 := (varl_length s.toNat).2
  have v5 := (varl_length q.toNat).2
  simp only [List.length_append, List.length_cons, List.length_nil] at lb
  have hp46 : m5 ≤ 46 := by omega
  obtain ⟨H, hH⟩ : ∃ z, kb :: (varl n.toNat ++ varl p.toNat ++ varl e'.toNat ++ varl s.toNat ++ varl q.toNat) = z := ⟨_, rfl⟩
  rw [hH] at e5
  have HG0 : Hid (kb :: varsL [n, p, e', s, q] = H) := by
    unfold Hid
    rw [← hH]
    simp [varsL]
  replace b0 := h1.cell b0
  replace b6 := h1.cell b6
  replace b7 := h1.cell b7
  replace b8 := h1.cell b8
  replace b9 := h1.cell b9
  clear lb v1 v2 v3 v4 v5 hH b1 b2 b3 b4 b5 hcv
  have gq := h1
  obtain ⟨wm, rfl⟩ : ∃ q, q = w1 := ⟨_, rfl⟩
  clear h1
  have gsz := gq.size
  have gx3 := gx2.trans gq
  have HL2 : Hid (put (H ++ da) (crcOf (H ++ da)) 4 = L) := by
    have hk0' := hk0.out
    unfold Hid
    rw [← HL.out, ← HG0.out, ← HKB.out]
    unfold putM bodyM chainBs restBs
    rw [if_neg (show ¬ (k = 2 ∨ k = 4) by omega), if_neg (show ¬ k = 2 by omega), if_neg (show ¬ k = 4 by omega)]
    rcases HD6.out with rfl | rfl
    · simp [msNs, kdB]
    · simp [msNs, kdB]
  clear HL HG0 HD6 hk0
  have gsF := gq.size
  go_wp2_with (at_builtin; refine wpList_append_mine _ rfl _ _ _ _ rfl w2.heap.size U8 i0 _ 1 1 under_bytes hi0 hz0 hz1 hz2 rfl B5 m5 d5 _ rfl e5.own _ rfl An4 (da.map bv) ((h.da.ext (gx2.trans gq)).src under_bytes) (by simp only [maxLen]; omega) (by omega) gsF ?_; intro AF cF wF hown hg _; have gxF : Ext w2 wF := below_grown gq e5.own hg gsF)
  have hbF : Byt U8 wF w2.heap.size AF (m5 + An4) cF (H ++ da) := Byt.more e5.len hdl hown rfl
  clear hown hg
  go_wp2_with fail
  refine (ref_Seal AF (m5 + An4) cF (H ++ da) _ hbF.sl (by omega)).mono ?_
  rintro e w5 ⟨A9, n9, c9, rfl, h9, hx9⟩
  rw [HL2.out] at h9
  go_wp2_with fail
  go_ret2
  exact ⟨_, _, _, rfl, h9.low (gx2.trans gxF).size, (gx2.trans gxF).trans hx9⟩
set_option maxHeartbeats 4000000 in
theorem ref_PutMsg_2 {n p e' s q : Int} {ch : List Tg} {en : List En} {mk : List Mk} {da : List UInt8} {A1 : Option Addr} {An1 Ac1 : Nat} {A2 : Option Addr} {An2 Ac2 : Nat} {A3 : Option Addr} {An3 Ac3 : Nat} {A4 : Option Addr} {An4 Ac4 : Nat} {w : World} (h : MsR w ⟨2, n, p, e', s, q, ch, en, mk, da⟩ A1 An1 Ac1 A2 An2 Ac2 A3 An3 Ac3 A4 An4 Ac4) (hf : Hid (EnFit en)) (hs : Hid (Shorts mk)) (hr : Hid (rightM ⟨2, n, p, e', s, q, ch, en, mk, da⟩ = true)) {L : List UInt8} (hL : Hid (putMr ⟨2, n, p, e', s, q, ch, en, mk, da⟩ true = L)) :
    Calls Try.prog 36 #[msV ⟨2, n, p, e', s, q, ch, en, mk, da⟩ A1 An1 Ac1 A2 An2 Ac2 A3 An3 Ac3 A4 An4 Ac4] w fun e w' => ∃ A' n' c', e = .returned (.tuple #[.slice A' n' c', .int .i64 (if true then 0 else 1)]) ∧ Byt U8 w' w.heap.size A' n' c' L ∧ Ext w w' := by
  have hlen := h.en.len
  have h63 := h.en.n63
  have HDA := Lib.hid (rightM_data hr.out (show (2 : Int) ≠ 6 by decide))
  have hbd := rightM_bds hr.out
  simp only at hbd
  obtain ⟨HK, HD, hda, ht⟩ := hbd
  have HD := Lib.hid HD
  have hcv := fun u => run_kind HK u
  have HT := Lib.hid ht
  have HL : Hid (putM ⟨2, n, p, e', s, q, ch, en, mk, da⟩ = L) := hL.out
  have HRC := Lib.hid (ref_RightMsg (h.ext (Ext.alloc w (.cells (msC ⟨2, n, p, e', s, q, ch, en, mk, da⟩ A1 An1 Ac1 A2 An2 Ac2 A3 An3 Ac3 A4 An4 Ac4) TMs))) hf hs hr)
  obtain ⟨kb, hkb⟩ : ∃ z, kdB 2 = z := ⟨_, rfl⟩
  rw [hkb] at hcv
  have HKB := Lib.hid hkb
  obtain ⟨i0, hi0, hz0, hz1, hz2⟩ := info_parts info_u8
  have hdl := h.da.len
  have hn4 : An4 ≤ 64 := by rw [← hdl]; exact hda
  have hc4 := h.da.n63
  clear hL hr ht hkb hda
  rw [show (if true = true then (0 : Int) else 1) = 0 from rfl]
  go_enter Try.func36, Try.ntmps36
  go_wp2_with fail
  refine HRC.out.mono ?_
  rintro e w2 ⟨rfl, hx2⟩
  have b0 : w2.cell? ⟨w.heap.size, 0, none⟩ = some (.int .i64 2) := hx2.cell (cell_new w (msC ⟨2, n, p, e', s, q, ch, en, mk, da⟩ A1 An1 Ac1 A2 An2 Ac2 A3 An3 Ac3 A4 An4 Ac4) TMs 0)
  have b1 : w2.cell? ⟨w.heap.size, 1, none⟩ = some (.int .i64 n) := hx2.cell (cell_new w (msC ⟨2, n, p, e', s, q, ch, en, mk, da⟩ A1 An1 Ac1 A2 An2 Ac2 A3 An3 Ac3 A4 An4 Ac4) TMs 1)
  have b2 : w2.cell? ⟨w.heap.size, 2, none⟩ = some (.int .i64 p) := hx2.cell (cell_new w (msC ⟨2, n, p, e', s, q, ch, en, mk, da⟩ A1 An1 Ac1 A2 An2 Ac2 A3 An3 Ac3 A4 An4 Ac4) TMs 2)
  have b3 : w2.cell? ⟨w.heap.size, 3, none⟩ = some (.int .i64 e') := hx2.cell (cell_new w (msC ⟨2, n, p, e', s, q, ch, en, mk, da⟩ A1 An1 Ac1 A2 An2 Ac2 A3 An3 Ac3 A4 An4 Ac4) TMs 3)
  have b4 : w2.cell? ⟨w.heap.size, 4, none⟩ = some (.int .i64 s) := hx2.cell (cell_new w (msC ⟨2, n, p, e', s, q, ch, en, mk, da⟩ A1 An1 Ac1 A2 An2 Ac2 A3 An3 Ac3 A4 An4 Ac4) TMs 4)
  have b5 : w2.cell? ⟨w.heap.size, 5, none⟩ = some (.int .i64 q) := hx2.cell (cell_new w (msC ⟨2, n, p, e', s, q, ch, en, mk, da⟩ A1 An1 Ac1 A2 An2 Ac2 A3 An3 Ac3 A4 An4 Ac4) TMs 5)
  have b6 : w2.cell? ⟨w.heap.size, 6, none⟩ = some (.slice A1 An1 Ac1) := hx2.cell (cell_new w (msC ⟨2, n, p, e', s, q, ch, en, mk, da⟩ A1 An1 Ac1 A2 An2 Ac2 A3 An3 Ac3 A4 An4 Ac4) TMs 6)
  have b7 : w2.cell? ⟨w.heap.size, 7, none⟩ = some (.slice A2 An2 Ac2) := hx2.cell (cell_new w (msC ⟨2, n, p, e', s, q, ch, en, mk, da⟩ A1 An1 Ac1 A2 An2 Ac2 A3 An3 Ac3 A4 An4 Ac4) TMs 7)
  have b8 : w2.cell? ⟨w.heap.size, 8, none⟩ = some (.slice A3 An3 Ac3) := hx2.cell (cell_new w (msC ⟨2, n, p, e', s, q, ch, en, mk, da⟩ A1 An1 Ac1 A2 An2 Ac2 A3 An3 Ac3 A4 An4 Ac4) TMs 8)
  have b9 : w2.cell? ⟨w.heap.size, 9, none⟩ = some (.slice A4 An4 Ac4) := hx2.cell (cell_new w (msC ⟨2, n, p, e', s, q, ch, en, mk, da⟩ A1 An1 Ac1 A2 An2 Ac2 A3 An3 Ac3 A4 An4 Ac4) TMs 9)
  have gx2 : Ext w w2 := (Ext.alloc _ _).trans hx2
  have gx2b : w.heap.size < w2.heap.size := World.block_lt_of_cell? _ _ b0
  clear hx2 HRC
  go_wp2_with fail
  refine wp_region_typed2 (R := But w2.heap.size (fun _ => False)) Ext.steady (But.steady _ _) (fun _ _ => But.of_ext) rfl 91 rfl [0, 1, 3, 7, 0, 16, 63, 0, 128, 511, 0, 1024, 4095, 0, 8192, 32767, 0, 65536, 262143, 524287] 0 (by kernel_rfl) ?_
  apply Stage2.step (Is _) true [] true false (Is.keeps _) (fun _ => Is.keeps _) (by kernel_rfl)
  · intro w1 h1
    have h1 : Ext _ w1 := h1
    simp only [List.nil_append, List.cons_append, List.map_cons, List.map_nil, Given]
    go_wp2_with fail
    exact Post.isv (Ext.refl _) rfl rfl rfl
  apply Stage2.step (Is (.int .i64 2)) true [true] true false (Is.keeps _) (fun _ => Is.keeps _) (by kernel_rfl)
  · intro w1 h1
    have h1 : Ext _ w1 := h1
    simp only [List.nil_append, List.cons_append, List.map_cons, List.map_nil, Sp.pr, Given]
    rintro _ rfl
    have q0 := h1.cell b0
    go_wp2_with fail
    exact Post.isv (Ext.refl _) rfl rfl rfl
  apply Stage2.step (Is (.int .u8 ((kb).toNat : Int))) true [false, true] true false (Is.keeps _) (fun _ => Is.keeps _) (by kernel_rfl)
  · intro w1 h1
    have h1 : Ext _ w1 := h1
    simp only [List.nil_append, List.cons_append, List.map_cons, List.map_nil, Sp.pr, Given]
    rintro _ rfl
    go_wp2_with fail
    exact Post.isv (Ext.refl _) rfl rfl rfl
  apply Stage2.step (BytT U8 w2.heap.size [kb]) false [false, false, true] true false (BytT.keeps _ _ _) (no_keeps) (by kernel_rfl)
  · intro w1 h1
    have h1 : Ext _ w1 := h1
    simp only [List.nil_append, List.cons_append, List.map_cons, List.map_nil, Sp.pr, Given]
    rintro _ rfl
    go_wp2_with fail
    exact ⟨rfl, rfl, Ext.alloc _ _, _, _, _, rfl, byt_madeM w1 _ _ _ [kb] rfl (by simp [maxLen]) h1.size⟩
  apply Stage2.step (Is _) true [] true false (Is.keeps _) (fun _ => Is.keeps _) (by kernel_rfl)
  · intro w1 h1
    have h1 : Ext _ w1 := h1
    simp only [List.nil_append, List.cons_append, List.map_cons, List.map_nil, Given]
    go_wp2_with fail
    exact Post.isv (Ext.refl _) rfl rfl rfl
  apply Stage2.step (Is (.int .i64 n)) true [false, false, false, false, true] true false (Is.keeps _) (fun _ => Is.keeps _) (by kernel_rfl)
  · intro w1 h1
    have h1 : Ext _ w1 := h1
    simp only [List.nil_append, List.cons_append, List.map_cons, List.map_nil, Sp.pr, Given]
    rintro _ rfl
    have q0 := h1.cell b1
    go_wp2_with fail
    exact Post.isv (Ext.refl _) rfl rfl rfl
  apply Stage2.step (BytT U8 w2.heap.size ([kb] ++ varl n.toNat)) false [false, false, false, true, false, true] true false (BytT.keeps _ _ _) (no_keeps) (by kernel_rfl)
  · intro w1 h1
    have h1 : Ext _ w1 := h1
    simp only [List.nil_append, List.cons_append, List.map_cons, List.map_nil, Sp.pr, Given]
    rintro _ ⟨A0, n0, c0, rfl, e0⟩
    rintro _ rfl
    have lw : n0 ≤ 60 := by
      have lb := e0.len
      have v1 := (varl_length n.toNat).2
      have v2 := (varl_length p.toNat).2
      have v3 := (varl_length e'.toNat).2
      have v4 := (varl_length s.toNat).2
      simp only [List.length_append, List.length_cons, List.length_nil] at lb
      omega
    go_wp2_with fail
    refine (ref_Var A0 n0 c0 _ n _ e0.sl (by omega) HD.out.1).mono ?_
    rintro e w2 ⟨B1, m1, d1, rfl, e1, hx1⟩
    go_wp2_with fail
    exact ⟨rfl, rfl, hx1, _, _, _, rfl, e1.low h1.size⟩
  apply Stage2.step (Is _) true [] true false (Is.keeps _) (fun _ => Is.keeps _) (by kernel_rfl)
  · intro w1 h1
    have h1 : Ext _ w1 := h1
    simp only [List.nil_append, List.cons_append, List.map_cons, List.map_nil, Given]
    go_wp2_with fail
    exact Post.isv (Ext.refl _) rfl rfl rfl
  apply Stage2.step (Is (.int .i64 p)) true [false, false, false, false, false, false, false, true] true false (Is.keeps _) (fun _ => Is.keeps _) (by kernel_rfl)
  · intro w1 h1
    have h1 : Ext _ w1 := h1
    simp only [List.nil_append, List.cons_append, List.map_cons, List.map_nil, Sp.pr, Given]
    rintro _ rfl
    have q0 := h1.cell b2
    go_wp2_with fail
    exact Post.isv (Ext.refl _) rfl rfl rfl
  apply Stage2.step (BytT U8 w2.heap.size ([kb] ++ varl n.toNat ++ varl p.toNat)) false [false, false, false, false, false, false, true, false, true] true false (BytT.keeps _ _ _) (no_keeps) (by kernel_rfl)
  · intro w1 h1
    have h1 : Ext _ w1 := h1
    simp only [List.nil_append, List.cons_append, List.map_cons, List.map_nil, Sp.pr, Given]
    rintro _ ⟨B1, m1, d1, rfl, e1⟩
    rintro _ rfl
    have lw : m1 ≤ 60 := by
      have lb := e1.len
      have v1 := (varl_length n.toNat).2
      have v2 := (varl_length p.toNat).2
      have v3 := (varl_length e'.toNat).2
      have v4 := (varl_length s.toNat).2
      simp only [List.length_append, List.length_cons, List.length_nil] at lb
      omega
    go_wp2_with fail
    refine (ref_Var B1 m1 d1 _ p _ e1.sl (by omega) HD.out.2.1).mono ?_
    rintro e w2 ⟨B2, m2, d2, rfl, e2, hx1⟩
    go_wp2_with fail
    exact ⟨rfl, rfl, hx1, _, _, _, rfl, e2.low h1.size⟩
  apply Stage2.step (Is _) true [] true false (Is.keeps _) (fun _ => Is.keeps _) (by kernel_rfl)
  · intro w1 h1
    have h1 : Ext _ w1 := h1
    simp only [List.nil_append, List.cons_append, List.map_cons, List.map_nil, Given]
    go_wp2_with fail
    exact Post.isv (Ext.refl _) rfl rfl rfl
  apply Stage2.step (Is (.int .i64 e')) true [false, false, false, false, false, false, false, false, false, false, true] true false (Is.keeps _) (fun _ => Is.keeps _) (by kernel_rfl)
  · intro w1 h1
    have h1 : Ext _ w1 := h1
    simp only [List.nil_append, List.cons_append, List.map_cons, List.map_nil, Sp.pr, Given]
    rintro _ rfl
    have q0 := h1.cell b3
    go_wp2_with fail
    exact Post.isv (Ext.refl _) rfl rfl rfl
  apply Stage2.step (BytT U8 w2.heap.size ([kb] ++ varl n.toNat ++ varl p.toNat ++ varl e'.toNat)) false [false, false, false, false, false, false, false, false, false, true, false, true] true false (BytT.keeps _ _ _) (no_keeps) (by kernel_rfl)
  · intro w1 h1
    have h1 : Ext _ w1 := h1
    simp only [List.nil_append, List.cons_append, List.map_cons, List.map_nil, Sp.pr, Given]
    rintro _ ⟨B2, m2, d2, rfl, e2⟩
    rintro _ rfl
    have lw : m2 ≤ 60 := by
      have lb := e2.len
      have v1 := (varl_length n.toNat).2
      have v2 := (varl_length p.toNat).2
      have v3 := (varl_length e'.toNat).2
      have v4 := (varl_length s.toNat).2
      simp only [List.length_append, List.length_cons, List.length_nil] at lb
      omega
    go_wp2_with fail
    refine (ref_Var B2 m2 d2 _ e' _ e2.sl (by omega) HD.out.2.2.1).mono ?_
    rintro e w2 ⟨B3, m3, d3, rfl, e3, hx1⟩
    go_wp2_with fail
    exact ⟨rfl, rfl, hx1, _, _, _, rfl, e3.low h1.size⟩
  apply Stage2.step (Is _) true [] true false (Is.keeps _) (fun _ => Is.keeps _) (by kernel_rfl)
  · intro w1 h1
    have h1 : Ext _ w1 := h1
    simp only [List.nil_append, List.cons_append, List.map_cons, List.map_nil, Given]
    go_wp2_with fail
    exact Post.isv (Ext.refl _) rfl rfl rfl
  apply Stage2.step (Is (.int .i64 s)) true [false, false, false, false, false, false, false, false, false, false, false, false, false, true] true false (Is.keeps _) (fun _ => Is.keeps _) (by kernel_rfl)
  · intro w1 h1
    have h1 : Ext _ w1 := h1
    simp only [List.nil_append, List.cons_append, List.map_cons, List.map_nil, Sp.pr, Given]
    rintro _ rfl
    have q0 := h1.cell b4
    go_wp2_with fail
    exact Post.isv (Ext.refl _) rfl rfl rfl
  apply Stage2.step (BytT U8 w2.heap.size ([kb] ++ varl n.toNat ++ varl p.toNat ++ varl e'.toNat ++ varl s.toNat)) false [false, false, false, false, false, false, false, false, false, false, false, false, true, false, true] true false (BytT.keeps _ _ _) (no_keeps) (by kernel_rfl)
  · intro w1 h1
    have h1 : Ext _ w1 := h1
    simp only [List.nil_append, List.cons_append, List.map_cons, List.map_nil, Sp.pr, Given]
    rintro _ ⟨B3, m3, d3, rfl, e3⟩
    rintro _ rfl
    have lw : m3 ≤ 60 := by
      have lb := e3.len
      have v1 := (varl_length n.toNat).2
      have v2 := (varl_length p.toNat).2
      have v3 := (varl_length e'.toNat).2
      have v4 := (varl_length s.toNat).2
      simp only [List.length_append, List.length_cons, List.length_nil] at lb
      omega
    go_wp2_with fail
    refine (ref_Var B3 m3 d3 _ s _ e3.sl (by omega) HD.out.2.2.2.1).mono ?_
    rintro e w2 ⟨B4, m4, d4, rfl, e4, hx1⟩
    go_wp2_with fail
    exact ⟨rfl, rfl, hx1, _, _, _, rfl, e4.low h1.size⟩
  apply Stage2.step (Is _) true [] true false (Is.keeps _) (fun _ => Is.keeps _) (by kernel_rfl)
  · intro w1 h1
    have h1 : Ext _ w1 := h1
    simp only [List.nil_append, List.cons_append, List.map_cons, List.map_nil, Given]
    go_wp2_with fail
    exact Post.isv (Ext.refl _) rfl rfl rfl
  apply Stage2.step (Is (.int .i64 q)) true [false, false, false, false, false, false, false, false, false, false, false, false, false, false, false, false, true] true false (Is.keeps _) (fun _ => Is.keeps _) (by kernel_rfl)
  · intro w1 h1
    have h1 : Ext _ w1 := h1
    simp only [List.nil_append, List.cons_append, List.map_cons, List.map_nil, Sp.pr, Given]
    rintro _ rfl
    have q0 := h1.cell b5
    go_wp2_with fail
    exact Post.isv (Ext.refl _) rfl rfl rfl
  apply Stage2.step (BytT U8 w2.heap.size ([kb] ++ varl n.toNat ++ varl p.toNat ++ varl e'.toNat ++ varl s.toNat ++ varl q.toNat)) false [false, false, false, false, false, false, false, false, false, false, false, false, false, false, false, true, false, true] true false (BytT.keeps _ _ _) (no_keeps) (by kernel_rfl)
  · intro w1 h1
    have h1 : Ext _ w1 := h1
    simp only [List.nil_append, List.cons_append, List.map_cons, List.map_nil, Sp.pr, Given]
    rintro _ ⟨B4, m4, d4, rfl, e4⟩
    rintro _ rfl
    have lw : m4 ≤ 60 := by
      have lb := e4.len
      have v1 := (varl_length n.toNat).2
      have v2 := (varl_length p.toNat).2
      have v3 := (varl_length e'.toNat).2
      have v4 := (varl_length s.toNat).2
      simp only [List.length_append, List.length_cons, List.length_nil] at lb
      omega
    go_wp2_with fail
    refine (ref_Var B4 m4 d4 _ q _ e4.sl (by omega) HD.out.2.2.2.2).mono ?_
    rintro e w2 ⟨B5, m5, d5, rfl, e5, hx1⟩
    go_wp2_with fail
    exact ⟨rfl, rfl, hx1, _, _, _, rfl, e5.low h1.size⟩
  apply Stage2.step (BytT U8 w2.heap.size ([kb] ++ varl n.toNat ++ varl p.toNat ++ varl e'.toNat ++ varl s.toNat ++ varl q.toNat)) false [false, false, false, false, false, false, false, false, false, false, false, false, false, false, false, false, false, false, true] true false (BytT.keeps _ _ _) (no_keeps) (by kernel_rfl)
  · intro w1 h1
    have h1 : Ext _ w1 := h1
    simp only [List.nil_append, List.cons_append, List.map_cons, List.map_nil, Sp.pr, Given]
    rintro v hcp
    go_wp2_with fail
    exact ⟨rfl, rfl, Ext.refl _, hcp⟩
  apply Stage2.nil [true, true, true, true, true, true, true, true, true, true, true, true, true, true, true, true, true, true, true, true] (by kernel_rfl)
  intro w1 h1
  have h1 : (Ext) _ w1 := h1
  simp only [List.nil_append, List.cons_append, List.map_cons, List.map_nil, Sp.pr]
  refine Fin2.is_ ?_
  refine Fin2.is_ ?_
  refine Fin2.is_ ?_
  refine Fin2.step_ ?_
  rintro _ ⟨A0, n0, c0, rfl, e0⟩
  refine Fin2.is_ ?_
  refine Fin2.is_ ?_
  refine Fin2.step_ ?_
  rintro _ ⟨B1, m1, d1, rfl, e1⟩
  refine Fin2.is_ ?_
  refine Fin2.is_ ?_
  refine Fin2.step_ ?_
  rintro _ ⟨B2, m2, d2, rfl, e2⟩
  refine Fin2.is_ ?_
  refine Fin2.is_ ?_
  refine Fin2.step_ ?_
  rintro _ ⟨B3, m3, d3, rfl, e3⟩
  refine Fin2.is_ ?_
  refine Fin2.is_ ?_
  refine Fin2.step_ ?_
  rintro _ ⟨B4, m4, d4, rfl, e4⟩
  refine Fin2.is_ ?_
  refine Fin2.is_ ?_
  refine Fin2.step_ ?_
  rintro _ ⟨B5, m5, d5, rfl, e5⟩
  refine Fin2.step_ ?_
  rintro _ ⟨B5, m5, d5, rfl, e5⟩
  refine Fin2.nil_ ?_
  go_simp
  have lb := e5.len
  have v1 := (varl_length n.toNat).2
  have v2 := (varl_length p.toNat).2
  have v3 := (varl_length e'.toNat).2
  have v4 := (varl_length s.toNat).2
  have v5 := (varl_length q.toNat).2
  simp only [List.length_append, List.length_cons, List.length_nil] at lb
  have hp46 : m5 ≤ 46 := by omega
  obtain ⟨H, hH⟩ : ∃ z, kb :: (varl n.toNat ++ varl p.toNat ++ varl e'.toNat ++ varl s.toNat ++ varl q.toNat) = z := ⟨_, rfl⟩
  rw [hH] at e5
  have HG0 : Hid (kb :: varsL [n, p, e', s, q] = H) := by
    unfold Hid
    rw [← hH]
    simp [varsL]
  replace b0 := h1.cell b0
  replace b6 := h1.cell b6
  replace b7 := h1.cell b7
  replace b8 := h1.cell b8
  replace b9 := h1.cell b9
  clear lb v1 v2 v3 v4 v5 hH b1 b2 b3 b4 b5 hcv
  have gq := h1
  obtain ⟨wm, rfl⟩ : ∃ q, q = w1 := ⟨_, rfl⟩
  clear h1
  have gsz := gq.size
  have gx3 := gx2.trans gq
  have hen : entsB p en = true := by
    have := HT.out
    rw [tail2, Bool.and_eq_true] at this
    exact this.2
  unfold entsB at hen
  simp only [Bool.and_eq_true, decide_eq_true_eq] at hen
  have hn4' : An2 ≤ 4 := by rw [← hlen]; exact hen.1
  have HRT := Lib.hid (entsF_mem hen.2)
  have HLEN := Lib.hid hlen
  clear hen hlen
  have hcr : rightL ch = true := by
    have := HT.out
    rw [tail2, Bool.and_eq_true] at this
    exact this.1
  have HCR := Lib.hid hcr
  have hc32 := (rightL_iff.1 hcr).2.1
  have hcl := putL_len ch
  obtain ⟨LC, hLC⟩ : ∃ z, putL ch = z := ⟨_, rfl⟩
  have HLCE := Lib.hid hLC
  rw [hLC] at hcl
  have HLC : Hid (putR ch true = LC) := hLC
  have hlc : LC.length ≤ 1161 := by omega
  clear hcr hc32 hcl hLC
  go_wp2_with fail
  refine (ref_PutChain (h.ch.ext tg_rep gx3) HCR HLC).mono ?_
  rintro e w4 ⟨A5, n5, c5, rfl, h5, hx4⟩
  rw [show (if true = true then (0 : Int) else 1) = 0 from rfl]
  have hn5 : n5 ≤ 1161 := by rw [← h5.len]; exact hlc
  have gx4 := gq.trans hx4
  have hbH4 := e5.ext hx4
  replace b0 := hx4.cell b0
  replace b7 := hx4.cell b7
  replace b8 := hx4.cell b8
  replace b9 := hx4.cell b9
  clear hx4 gx3 e5 hlc b6 gq gsz
  go_wp2_with fail
  refine (ref_Var B5 m5 d5 H (n5 : Int) _ hbH4.sl (by omega) (by omega)).mono ?_
  rintro e w6 ⟨A6, n6, c6, rfl, h6, hx6⟩
  rw [Int.toNat_natCast] at h6
  have hn6 : n6 ≤ m5 + 9 := by
    have := varl_length n5
    rw [← h6.len, List.length_append, hbH4.len]
    omega
  have h5' := h5.sl.ext hx6
  have h6' := h6.low (B' := w2.heap.size) gx4.size
  replace b0 := hx6.cell b0
  replace b7 := hx6.cell b7
  replace b8 := hx6.cell b8
  replace b9 := hx6.cell b9
  have gx6 := gx4.trans hx6
  have gsz6 := gx6.size
  have h5l := h5.len
  have HF := Lib.hid (And.intro b0 (And.intro b7 (And.intro b8 b9)))
  clear hx6 gx4 hbH4 h5 h6 b0 b7 b8 b9
  go_wp2_with (at_builtin; refine wpList_append_mine _ rfl _ _ _ _ rfl w2.heap.size U8 i0 _ 1 1 under_bytes hi0 hz0 hz1 hz2 rfl A6 n6 c6 _ rfl h6'.own _ rfl n5 (LC.map bv) (h5'.src under_bytes) (by simp only [maxLen]; omega) (by omega) gsz6 ?_; intro A7 c7 w7 hown hg _; have b0 := boxed gx2b h6'.own hg HF.out.1; have b7 := boxed gx2b h6'.own hg HF.out.2.1; have b8 := boxed gx2b h6'.own hg HF.out.2.2.1; have b9 := boxed gx2b h6'.own hg HF.out.2.2.2; have gx7 : Ext w2 w7 := below_grown gx6 h6'.own hg gsz6)
  have h7 : Byt U8 w7 w2.heap.size A7 (n6 + n5) c7 (H ++ varl n5 ++ LC) := Byt.more h6'.len h5l hown rfl
  obtain ⟨H7, hH7⟩ : ∃ z, H ++ varl n5 ++ LC = z := ⟨_, rfl⟩
  rw [hH7] at h7
  have HH7 : Hid (kb :: (varsL [n, p, e', s, q] ++ (varl LC.length ++ LC)) = H7) := by
    unfold Hid
    rw [← hH7, ← HG0.out, h5l]
    simp
  clear hH7 HG0 HF h6' h5' hown hg gx6 gsz6 h5l
  go_wp2_with fail
  refine (ref_Var A7 (n6 + n5) c7 H7 (An2 : Int) _ h7.sl (by omega) (by omega)).mono ?_
  rintro e w8 ⟨A8, n8, c8, rfl, h8, hx8⟩
  rw [Int.toNat_natCast] at h8
  have hn8 : n8 ≤ 1230 := by
    have := varl_length An2
    rw [← h8.len, List.length_append, h7.len]
    omega
  have h8' := h8.low (B' := w2.heap.size) gx7.size
  replace b0 := hx8.cell b0
  replace b7 := hx8.cell b7
  replace b9 := hx8.cell b9
  have gx8 := gx7.trans hx8
  clear hx8 gx7 h7 h8 b8
  have HB := Lib.hid (And.intro b0 (And.intro b7 b9))
  go_wp2_with fail
  go_loopw [4, 7] (fun v i wr => ∃ (k : Nat) (Ab : Option Addr) (z cb : Nat) (G : List UInt8), k ≤ An2 ∧ v = .slice Ab z cb ∧ i = .int .i64 k ∧ Byt U8 wr w2.heap.size Ab z cb G ∧ Hid (H7 ++ varl An2 ++ enBs (en.take k) = G) ∧ z ≤ 1230 + 112 * k ∧ Ext w2 wr ∧ Hid (wr.cell? ⟨w.heap.size, 0, none⟩ = some (.int .i64 2) ∧ wr.cell? ⟨w.heap.size, 7, none⟩ = some (.slice A2 An2 Ac2) ∧ wr.cell? ⟨w.heap.size, 9, none⟩ = some (.slice A4 An4 Ac4))) (fun _ i _ => An2 - (intOf i).toNat)
  case atStart => exact ⟨0, A8, n8, c8, _, by omega, rfl, rfl, h8', by simp [Hid, enBs], by omega, gx8, HB⟩
  case round =>
    clear h8' gx8 b0 b7 b9 HB
    obtain ⟨k, Ab, z, cb, G, hk, rfl, rfl, hbG, hG, hz, hxr, HB⟩ := hrel
    obtain ⟨b0, b7, b9⟩ := HB.out
    by_cases hlt : k < An2
    · obtain ⟨ga, oa, x, cs, rfl, hx, ⟨Aa, na, ca, rfl, sa0⟩, ha⟩ := h.en.at2 en_rep (by omega) hlt
      have gxr := gx2.trans hxr
      have a0 : wr.cell? ⟨ga, oa + k * 3, none⟩ = _ := gxr.cell (ha 0 _ rfl)
      have a1 := gxr.cell (ha 1 _ rfl)
      have a2 := gxr.cell (ha 2 _ rfl)
      have hrt := HRT.out x (List.mem_of_getElem? hx)
      have hnx := enBs_next hx
      have hrt2 := rightN_iff.1 hrt
      have hsl := sa0.len
      have h63a := sa0.n63
      have hsa := sa0.ext gxr
      have hly := layE_length x.t.toNat x.s.toNat x.d
      obtain ⟨xt, xs', xd⟩ := x
      simp only at a0 a1 a2 hrt hnx hrt2 hsl hsa hly
      have HRN : Hid (rightN xt xs' na = true) := by unfold Hid; rw [← hsl]; exact hrt
      obtain ⟨LY, hLY⟩ : ∃ z, layE xt.toNat xs'.toNat xd = z := ⟨_, rfl⟩
      have HLY : Hid (layL xt xs' na xd = LY) := by unfold Hid layL; rw [HRN.out, if_pos rfl, hLY]
      rw [hLY] at hnx hly
      have hlyl : LY.length ≤ 112 := by omega
      have HNX : Hid (H7 ++ varl An2 ++ enBs (en.take (k + 1)) = G ++ LY) := by
        unfold Hid
        rw [hnx, ← List.append_assoc, hG.out]
      have hcl := ref_Lay hsa HRN HLY
      rw [show (if true = true then (0 : Int) else 1) = 0 from rfl] at hcl
      clear hx ha hrt hnx hrt2 hsl hly hLY hG sa0 hsa HRN HLY
      go_wp2_with fail
      refine hcl.mono ?_
      rintro e w4 ⟨A5, n5', c5', rfl, h5, hx5⟩
      have hbG5 := hbG.ext hx5
      have gx5 := hxr.trans hx5
      have gsz5 := gx5.size
      have h5s := h5.sl
      have hn5' : n5' ≤ 112 := by rw [← h5.len]; exact hlyl
      have h5l := h5.len
      have HB5 : Hid (w4.cell? ⟨w.heap.size, 0, none⟩ = some (.int .i64 2) ∧ w4.cell? ⟨w.heap.size, 7, none⟩ = some (.slice (some ⟨ga, oa, none⟩) An2 Ac2) ∧ w4.cell? ⟨w.heap.size, 9, none⟩ = some (.slice A4 An4 Ac4)) := ⟨hx5.cell b0, hx5.cell b7, hx5.cell b9⟩
      clear hx5 hcl h5 hlyl hbG b0 b7 b9
      go_wp2_with (at_builtin; refine wpList_append_mine _ rfl _ _ _ _ rfl w2.heap.size U8 i0 _ 1 1 under_bytes hi0 hz0 hz1 hz2 rfl Ab z cb _ rfl hbG5.own _ rfl n5' (LY.map bv) (h5s.src under_bytes) (by simp only [maxLen]; omega) (by omega) gsz5 ?_; intro A9 c9 w9 hown hg _; have gx9 : Ext w2 w9 := below_grown gx5 hbG5.own hg gsz5)
      have h9 : Byt U8 w9 w2.heap.size A9 (z + n5') c9 (G ++ LY) := Byt.more hbG5.len h5l hown rfl
      have HB9 : Hid (w9.cell? ⟨w.heap.size, 0, none⟩ = some (.int .i64 2) ∧ w9.cell? ⟨w.heap.size, 7, none⟩ = some (.slice (some ⟨ga, oa, none⟩) An2 Ac2) ∧ w9.cell? ⟨w.heap.size, 9, none⟩ = some (.slice A4 An4 Ac4)) := ⟨boxed gx2b hbG5.own hg HB5.out.1, boxed gx2b hbG5.own hg HB5.out.2.1, boxed gx2b hbG5.own hg HB5.out.2.2⟩
      clear hown hg hbG5
      go_wp2_with fail
      go_roundw
      case rel => exact ⟨k + 1, A9, z + n5', c9, _, by omega, rfl, by go_num, h9, HNX, by omega, gx9, HB9⟩
      case measure => simp [intOf]; omega
    · obtain rfl : k = An2 := by omega
      have hG1 := hG.out
      rw [List.take_of_length_le (by rw [HLEN.out]; exact Nat.le_refl _)] at hG1
      have HL2 : Hid (put (G ++ da) (crcOf (G ++ da)) 4 = L) := by
        have : bodyM ⟨2, n, p, e', s, q, ch, en, mk, da⟩ = G ++ da := by
          rw [← hG1, ← HH7.out, ← HKB.out, ← HLCE.out, ← HLEN.out, show da = [] from HDA.out]
          unfold bodyM chainBs restBs
          rw [if_pos (show (2 : Int) = 2 ∨ (2 : Int) = 4 from .inl rfl), if_pos rfl]
          simp [msNs, kdB]
        unfold Hid
        rw [← HL.out, ← this]
        rfl
      clear hG hG1 HL HH7
      have gsF := hxr.size
      go_wp2_with (at_builtin; refine wpList_append_mine _ rfl _ _ _ _ rfl w2.heap.size U8 i0 _ 1 1 under_bytes hi0 hz0 hz1 hz2 rfl Ab z cb _ rfl hbG.own _ rfl An4 (da.map bv) ((h.da.ext (gx2.trans hxr)).src under_bytes) (by simp only [maxLen]; omega) (by omega) gsF ?_; intro AF cF wF hown hg _; have gxF : Ext w2 wF := below_grown hxr hbG.own hg gsF)
      have hbF : Byt U8 wF w2.heap.size AF (z + An4) cF (G ++ da) := Byt.more hbG.len hdl hown rfl
      clear hown hg
      go_wp2_with fail
      refine (ref_Seal AF (z + An4) cF (G ++ da) _ hbF.sl (by omega)).mono ?_
      rintro e w5 ⟨A9, n9, c9, rfl, h9, hx9⟩
      rw [HL2.out] at h9
      go_wp2_with fail
      go_ret2
      exact ⟨_, _, _, rfl, h9.low (gx2.trans gxF).size, (gx2.trans gxF).trans hx9⟩
set_option maxHeartbeats 4000000 in
theorem ref_PutMsg_4 {n p e' s q : Int} {ch : List Tg} {en : List En} {mk : List Mk} {da : List UInt8} {A1 : Option Addr} {An1 Ac1 : Nat} {A2 : Option Addr} {An2 Ac2 : Nat} {A3 : Option Addr} {An3 Ac3 : Nat} {A4 : Option Addr} {An4 Ac4 : Nat} {w : World} (h : MsR w ⟨4, n, p, e', s, q, ch, en, mk, da⟩ A1 An1 Ac1 A2 An2 Ac2 A3 An3 Ac3 A4 An4 Ac4) (hf : Hid (EnFit en)) (hs : Hid (Shorts mk)) (hr : Hid (rightM ⟨4, n, p, e', s, q, ch, en, mk, da⟩ = true)) {L : List UInt8} (hL : Hid (putMr ⟨4, n, p, e', s, q, ch, en, mk, da⟩ true = L)) :
    Calls Try.prog 36 #[msV ⟨4, n, p, e', s, q, ch, en, mk, da⟩ A1 An1 Ac1 A2 An2 Ac2 A3 An3 Ac3 A4 An4 Ac4] w fun e w' => ∃ A' n' c', e = .returned (.tuple #[.slice A' n' c', .int .i64 (if true then 0 else 1)]) ∧ Byt U8 w' w.heap.size A' n' c' L ∧ Ext w w' := by
  have hlen := h.ms.len
  have h63 := h.ms.n63
  have HDA := Lib.hid (rightM_data hr.out (show (4 : Int) ≠ 6 by decide))
  have hbd := rightM_bds hr.out
  simp only at hbd
  obtain ⟨HK, HD, hda, ht⟩ := hbd
  have HD := Lib.hid HD
  have hcv := fun u => run_kind HK u
  have HT := Lib.hid ht
  have HL : Hid (putM ⟨4, n, p, e', s, q, ch, en, mk, da⟩ = L) := hL.out
  have HRC := Lib.hid (ref_RightMsg (h.ext (Ext.alloc w (.cells (msC ⟨4, n, p, e', s, q, ch, en, mk, da⟩ A1 An1 Ac1 A2 An2 Ac2 A3 An3 Ac3 A4 An4 Ac4) TMs))) hf hs hr)
  obtain ⟨kb, hkb⟩ : ∃ z, kdB 4 = z := ⟨_, rfl⟩
  rw [hkb] at hcv
  have HKB := Lib.hid hkb
  obtain ⟨i0, hi0, hz0, hz1, hz2⟩ := info_parts info_u8
  have hdl := h.da.len
  have hn4 : An4 ≤ 64 := by rw [← hdl]; exact hda
  have hc4 := h.da.n63
  clear hL hr ht hkb hda
  rw [show (if true = true then (0 : Int) else 1) = 0 from rfl]
  go_enter Try.func36, Try.ntmps36
  go_wp2_with fail
  refine HRC.out.mono ?_
  rintro e w2 ⟨rfl, hx2⟩
  have b0 : w2.cell? ⟨w.heap.size, 0, none⟩ = some (.int .i64 4) := hx2.cell (cell_new w (msC ⟨4, n, p, e', s, q, ch, en, mk, da⟩ A1 An1 Ac1 A2 An2 Ac2 A3 An3 Ac3 A4 An4 Ac4) TMs 0)
  have b1 : w2.cell? ⟨w.heap.size, 1, none⟩ = some (.int .i64 n) := hx2.cell (cell_new w (msC ⟨4, n, p, e', s, q, ch, en, mk, da⟩ A1 An1 Ac1 A2 An2 Ac2 A3 An3 Ac3 A4 An4 Ac4) TMs 1)
  have b2 : w2.cell? ⟨w.heap.size, 2, none⟩ = some (.int .i64 p) := hx2.cell (cell_new w (msC ⟨4, n, p, e', s, q, ch, en, mk, da⟩ A1 An1 Ac1 A2 An2 Ac2 A3 An3 Ac3 A4 An4 Ac4) TMs 2)
  have b3 : w2.cell? ⟨w.heap.size, 3, none⟩ = some (.int .i64 e') := hx2.cell (cell_new w (msC ⟨4, n, p, e', s, q, ch, en, mk, da⟩ A1 An1 Ac1 A2 An2 Ac2 A3 An3 Ac3 A4 An4 Ac4) TMs 3)
  have b4 : w2.cell? ⟨w.heap.size, 4, none⟩ = some (.int .i64 s) := hx2.cell (cell_new w (msC ⟨4, n, p, e', s, q, ch, en, mk, da⟩ A1 An1 Ac1 A2 An2 Ac2 A3 An3 Ac3 A4 An4 Ac4) TMs 4)
  have b5 : w2.cell? ⟨w.heap.size, 5, none⟩ = some (.int .i64 q) := hx2.cell (cell_new w (msC ⟨4, n, p, e', s, q, ch, en, mk, da⟩ A1 An1 Ac1 A2 An2 Ac2 A3 An3 Ac3 A4 An4 Ac4) TMs 5)
  have b6 : w2.cell? ⟨w.heap.size, 6, none⟩ = some (.slice A1 An1 Ac1) := hx2.cell (cell_new w (msC ⟨4, n, p, e', s, q, ch, en, mk, da⟩ A1 An1 Ac1 A2 An2 Ac2 A3 An3 Ac3 A4 An4 Ac4) TMs 6)
  have b7 : w2.cell? ⟨w.heap.size, 7, none⟩ = some (.slice A2 An2 Ac2) := hx2.cell (cell_new w (msC ⟨4, n, p, e', s, q, ch, en, mk, da⟩ A1 An1 Ac1 A2 An2 Ac2 A3 An3 Ac3 A4 An4 Ac4) TMs 7)
  have b8 : w2.cell? ⟨w.heap.size, 8, none⟩ = some (.slice A3 An3 Ac3) := hx2.cell (cell_new w (msC ⟨4, n, p, e', s, q, ch, en, mk, da⟩ A1 An1 Ac1 A2 An2 Ac2 A3 An3 Ac3 A4 An4 Ac4) TMs 8)
  have b9 : w2.cell? ⟨w.heap.size, 9, none⟩ = some (.slice A4 An4 Ac4) := hx2.cell (cell_new w (msC ⟨4, n, p, e', s, q, ch, en, mk, da⟩ A1 An1 Ac1 A2 An2 Ac2 A3 An3 Ac3 A4 An4 Ac4) TMs 9)
  have gx2 : Ext w w2 := (Ext.alloc _ _).trans hx2
  have gx2b : w.heap.size < w2.heap.size := World.block_lt_of_cell? _ _ b0
  clear hx2 HRC
  go_wp2_with fail
  refine wp_region_typed2 (R := But w2.heap.size (fun _ => False)) Ext.steady (But.steady _ _) (fun _ _ => But.of_ext) rfl 91 rfl [0, 1, 3, 7, 0, 16, 63, 0, 128, 511, 0, 1024, 4095, 0, 8192, 32767, 0, 65536, 262143, 524287] 0 (by kernel_rfl) ?_
  apply Stage2.step (Is _) true [] true false (Is.keeps _) (fun _ => Is.keeps _) (by kernel_rfl)
  · intro w1 h1
    have h1 : Ext _ w1 := h1
    simp only [List.nil_append, List.cons_append, List.map_cons, List.map_nil, Given]
    go_wp2_with fail
    exact Post.isv (Ext.refl _) rfl rfl rfl
  apply Stage2.step (Is (.int .i64 4)) true [true] true false (Is.keeps _) (fun _ => Is.keeps _) (by kernel_rfl)
  · intro w1 h1
    have h1 : Ext _ w1 := h1
    simp only [List.nil_append, List.cons_append, List.map_cons, List.map_nil, Sp.pr, Given]
    rintro _ rfl
    have q0 := h1.cell b0
    go_wp2_with fail
    exact Post.isv (Ext.refl _) rfl rfl rfl
  apply Stage2.step (Is (.int .u8 ((kb).toNat : Int))) true [false, true] true false (Is.keeps _) (fun _ => Is.keeps _) (by kernel_rfl)
  · intro w1 h1
    have h1 : Ext _ w1 := h1
    simp only [List.nil_append, List.cons_append, List.map_cons, List.map_nil, Sp.pr, Given]
    rintro _ rfl
    go_wp2_with fail
    exact Post.isv (Ext.refl _) rfl rfl rfl
  apply Stage2.step (BytT U8 w2.heap.size [kb]) false [false, false, true] true false (BytT.keeps _ _ _) (no_keeps) (by kernel_rfl)
  · intro w1 h1
    have h1 : Ext _ w1 := h1
    simp only [List.nil_append, List.cons_append, List.map_cons, List.map_nil, Sp.pr, Given]
    rintro _ rfl
    go_wp2_with fail
    exact ⟨rfl, rfl, Ext.alloc _ _, _, _, _, rfl, byt_madeM w1 _ _ _ [kb] rfl (by simp [maxLen]) h1.size⟩
  apply Stage2.step (Is _) true [] true false (Is.keeps _) (fun _ => Is.keeps _) (by kernel_rfl)
  · intro w1 h1
    have h1 : Ext _ w1 := h1
    simp only [List.nil_append, List.cons_append, List.map_cons, List.map_nil, Given]
    go_wp2_with fail
    exact Post.isv (Ext.refl _) rfl rfl rfl
  apply Stage2.step (Is (.int .i64 n)) true [false, false, false, false, true] true false (Is.keeps _) (fun _ => Is.keeps _) (by kernel_rfl)
  · intro w1 h1
    have h1 : Ext _ w1 := h1
    simp only [List.nil_append, List.cons_append, List.map_cons, List.map_nil, Sp.pr, Given]
    rintro _ rfl
    have q0 := h1.cell b1
    go_wp2_with fail
    exact Post.isv (Ext.refl _) rfl rfl rfl
  apply Stage2.step (BytT U8 w2.heap.size ([kb] ++ varl n.toNat)) false [false, false, false, true, false, true] true false (BytT.keeps _ _ _) (no_keeps) (by kernel_rfl)
  · intro w1 h1
    have h1 : Ext _ w1 := h1
    simp only [List.nil_append, List.cons_append, List.map_cons, List.map_nil, Sp.pr, Given]
    rintro _ ⟨A0, n0, c0, rfl, e0⟩
    rintro _ rfl
    have lw : n0 ≤ 60 := by
      have lb := e0.len
      have v1 := (varl_length n.toNat).2
      have v2 := (varl_length p.toNat).2
      have v3 := (varl_length e'.toNat).2
      have v4 := (varl_length s.toNat).2
      simp only [List.length_append, List.length_cons, List.length_nil] at lb
      omega
    go_wp2_with fail
    refine (ref_Var A0 n0 c0 _ n _ e0.sl (by omega) HD.out.1).mono ?_
    rintro e w2 ⟨B1, m1, d1, rfl, e1, hx1⟩
    go_wp2_with fail
    exact ⟨rfl, rfl, hx1, _, _, _, rfl, e1.low h1.size⟩
  apply Stage2.step (Is _) true [] true false (Is.keeps _) (fun _ => Is.keeps _) (by kernel_rfl)
  · intro w1 h1
    have h1 : Ext _ w1 := h1
    simp only [List.nil_append, List.cons_append, List.map_cons, List.map_nil, Given]
    go_wp2_with fail
    exact Post.isv (Ext.refl _) rfl rfl rfl
  apply Stage2.step (Is (.int .i64 p)) true [false, false, false, false, false, false, false, true] true false (Is.keeps _) (fun _ => Is.keeps _) (by kernel_rfl)
  · intro w1 h1
    have h1 : Ext _ w1 := h1
    simp only [List.nil_append, List.cons_append, List.map_cons, List.map_nil, Sp.pr, Given]
    rintro _ rfl
    have q0 := h1.cell b2
    go_wp2_with fail
    exact Post.isv (Ext.refl _) rfl rfl rfl
  apply Stage2.step (BytT U8 w2.heap.size ([kb] ++ varl n.toNat ++ varl p.toNat)) false [false, false, false, false, false, false, true, false, true] true false (BytT.keeps _ _ _) (no_keeps) (by kernel_rfl)
  · intro w1 h1
    have h1 : Ext _ w1 := h1
    simp only [List.nil_append, List.cons_append, List.map_cons, List.map_nil, Sp.pr, Given]
    rintro _ ⟨B1, m1, d1, rfl, e1⟩
    rintro _ rfl
    have lw : m1 ≤ 60 := by
      have lb := e1.len
      have v1 := (varl_length n.toNat).2
      have v2 := (varl_length p.toNat).2
      have v3 := (varl_length e'.toNat).2
      have v4 := (varl_length s.toNat).2
      simp only [List.length_append, List.length_cons, List.length_nil] at lb
      omega
    go_wp2_with fail
    refine (ref_Var B1 m1 d1 _ p _ e1.sl (by omega) HD.out.2.1).mono ?_
    rintro e w2 ⟨B2, m2, d2, rfl, e2, hx1⟩
    go_wp2_with fail
    exact ⟨rfl, rfl, hx1, _, _, _, rfl, e2.low h1.size⟩
  apply Stage2.step (Is _) true [] true false (Is.keeps _) (fun _ => Is.keeps _) (by kernel_rfl)
  · intro w1 h1
    have h1 : Ext _ w1 := h1
    simp only [List.nil_append, List.cons_append, List.map_cons, List.map_nil, Given]
    go_wp2_with fail
    exact Post.isv (Ext.refl _) rfl rfl rfl
  apply Stage2.step (Is (.int .i64 e')) true [false, false, false, false, false, false, false, false, false, false, true] true false (Is.keeps _) (fun _ => Is.keeps _) (by kernel_rfl)
  · intro w1 h1
    have h1 : Ext _ w1 := h1
    simp only [List.nil_append, List.cons_append, List.map_cons, List.map_nil, Sp.pr, Given]
    rintro _ rfl
    have q0 := h1.cell b3
    go_wp2_with fail
    exact Post.isv (Ext.refl _) rfl rfl rfl
  apply Stage2.step (BytT U8 w2.heap.size ([kb] ++ varl n.toNat ++ varl p.toNat ++ varl e'.toNat)) false [false, false, false, false, false, false, false, false, false, true, false, true] true false (BytT.keeps _ _ _) (no_keeps) (by kernel_rfl)
  · intro w1 h1
    have h1 : Ext _ w1 := h1
    simp only [List.nil_append, List.cons_append, List.map_cons, List.map_nil, Sp.pr, Given]
    rintro _ ⟨B2, m2, d2, rfl, e2⟩
    rintro _ rfl
    have lw : m2 ≤ 60 := by
      have lb := e2.len
      have v1 := (varl_length n.toNat).2
      have v2 := (varl_length p.toNat).2
      have v3 := (varl_length e'.toNat).2
      have v4 := (varl_length s.toNat).2
      simp only [List.length_append, List.length_cons, List.length_nil] at lb
      omega
    go_wp2_with fail
    refine (ref_Var B2 m2 d2 _ e' _ e2.sl (by omega) HD.out.2.2.1).mono ?_
    rintro e w2 ⟨B3, m3, d3, rfl, e3, hx1⟩
    go_wp2_with fail
    exact ⟨rfl, rfl, hx1, _, _, _, rfl, e3.low h1.size⟩
  apply Stage2.step (Is _) true [] true false (Is.keeps _) (fun _ => Is.keeps _) (by kernel_rfl)
  · intro w1 h1
    have h1 : Ext _ w1 := h1
    simp only [List.nil_append, List.cons_append, List.map_cons, List.map_nil, Given]
    go_wp2_with fail
    exact Post.isv (Ext.refl _) rfl rfl rfl
  apply Stage2.step (Is (.int .i64 s)) true [false, false, false, false, false, false, false, false, false, false, false, false, false, true] true false (Is.keeps _) (fun _ => Is.keeps _) (by kernel_rfl)
  · intro w1 h1
    have h1 : Ext _ w1 := h1
    simp only [List.nil_append, List.cons_append, List.map_cons, List.map_nil, Sp.pr, Given]
    rintro _ rfl
    have q0 := h1.cell b4
    go_wp2_with fail
    exact Post.isv (Ext.refl _) rfl rfl rfl
  apply Stage2.step (BytT U8 w2.heap.size ([kb] ++ varl n.toNat ++ varl p.toNat ++ varl e'.toNat ++ varl s.toNat)) false [false, false, false, false, false, false, false, false, false, false, false, false, true, false, true] true false (BytT.keeps _ _ _) (no_keeps) (by kernel_rfl)
  · intro w1 h1
    have h1 : Ext _ w1 := h1
    simp only [List.nil_append, List.cons_append, List.map_cons, List.map_nil, Sp.pr, Given]
    rintro _ ⟨B3, m3, d3, rfl, e3⟩
    rintro _ rfl
    have lw : m3 ≤ 60 := by
      have lb := e3.len
      have v1 := (varl_length n.toNat).2
      have v2 := (varl_length p.toNat).2
      have v3 := (varl_length e'.toNat).2
      have v4 := (varl_length s.toNat).2
      simp only [List.length_append, List.length_cons, List.length_nil] at lb
      omega
    go_wp2_with fail
    refine (ref_Var B3 m3 d3 _ s _ e3.sl (by omega) HD.out.2.2.2.1).mono ?_
    rintro e w2 ⟨B4, m4, d4, rfl, e4, hx1⟩
    go_wp2_with fail
    exact ⟨rfl, rfl, hx1, _, _, _, rfl, e4.low h1.size⟩
  apply Stage2.step (Is _) true [] true false (Is.keeps _) (fun _ => Is.keeps _) (by kernel_rfl)
  · intro w1 h1
    have h1 : Ext _ w1 := h1
    simp only [List.nil_append, List.cons_append, List.map_cons, List.map_nil, Given]
    go_wp2_with fail
    exact Post.isv (Ext.refl _) rfl rfl rfl
  apply Stage2.step (Is (.int .i64 q)) true [false, false, false, false, false, false, false, false, false, false, false, false, false, false, false, false, true] true false (Is.keeps _) (fun _ => Is.keeps _) (by kernel_rfl)
  · intro w1 h1
    have h1 : Ext _ w1 := h1
    simp only [List.nil_append, List.cons_append, List.map_cons, List.map_nil, Sp.pr, Given]
    rintro _ rfl
    have q0 := h1.cell b5
    go_wp2_with fail
    exact Post.isv (Ext.refl _) rfl rfl rfl
  apply Stage2.step (BytT U8 w2.heap.size ([kb] ++ varl n.toNat ++ varl p.toNat ++ varl e'.toNat ++ varl s.toNat ++ varl q.toNat)) false [false, false, false, false, false, false, false, false, false, false, false, false, false, false, false, true, false, true] true false (BytT.keeps _ _ _) (no_keeps) (by kernel_rfl)
  · intro w1 h1
    have h1 : Ext _ w1 := h1
    simp only [List.nil_append, List.cons_append, List.map_cons, List.map_nil, Sp.pr, Given]
    rintro _ ⟨B4, m4, d4, rfl, e4⟩
    rintro _ rfl
    have lw : m4 ≤ 60 := by
      have lb := e4.len
      have v1 := (varl_length n.toNat).2
      have v2 := (varl_length p.toNat).2
      have v3 := (varl_length e'.toNat).2
      have v4 := (varl_length s.toNat).2
      simp only [List.length_append, List.length_cons, List.length_nil] at lb
      omega
    go_wp2_with fail
    refine (ref_Var B4 m4 d4 _ q _ e4.sl (by omega) HD.out.2.2.2.2).mono ?_
    rintro e w2 ⟨B5, m5, d5, rfl, e5, hx1⟩
    go_wp2_with fail
    exact ⟨rfl, rfl, hx1, _, _, _, rfl, e5.low h1.size⟩
  apply Stage2.step (BytT U8 w2.heap.size ([kb] ++ varl n.toNat ++ varl p.toNat ++ varl e'.toNat ++ varl s.toNat ++ varl q.toNat)) false [false, false, false, false, false, false, false, false, false, false, false, false, false, false, false, false, false, false, true] true false (BytT.keeps _ _ _) (no_keeps) (by kernel_rfl)
  · intro w1 h1
    have h1 : Ext _ w1 := h1
    simp only [List.nil_append, List.cons_append, List.map_cons, List.map_nil, Sp.pr, Given]
    rintro v hcp
    go_wp2_with fail
    exact ⟨rfl, rfl, Ext.refl _, hcp⟩
  apply Stage2.nil [true, true, true, true, true, true, true, true, true, true, true, true, true, true, true, true, true, true, true, true] (by kernel_rfl)
  intro w1 h1
  have h1 : (Ext) _ w1 := h1
  simp only [List.nil_append, List.cons_append, List.map_cons, List.map_nil, Sp.pr]
  refine Fin2.is_ ?_
  refine Fin2.is_ ?_
  refine Fin2.is_ ?_
  refine Fin2.step_ ?_
  rintro _ ⟨A0, n0, c0, rfl, e0⟩
  refine Fin2.is_ ?_
  refine Fin2.is_ ?_
  refine Fin2.step_ ?_
  rintro _ ⟨B1, m1, d1, rfl, e1⟩
  refine Fin2.is_ ?_
  refine Fin2.is_ ?_
  refine Fin2.step_ ?_
  rintro _ ⟨B2, m2, d2, rfl, e2⟩
  refine Fin2.is_ ?_
  refine Fin2.is_ ?_
  refine Fin2.step_ ?_
  rintro _ ⟨B3, m3, d3, rfl, e3⟩
  refine Fin2.is_ ?_
  refine Fin2.is_ ?_
  refine Fin2.step_ ?_
  rintro _ ⟨B4, m4, d4, rfl, e4⟩
  refine Fin2.is_ ?_
  refine Fin2.is_ ?_
  refine Fin2.step_ ?_
  rintro _ ⟨B5, m5, d5, rfl, e5⟩
  refine Fin2.step_ ?_
  rintro _ ⟨B5, m5, d5, rfl, e5⟩
  refine Fin2.nil_ ?_
  go_simp
  have lb := e5.len
  have v1 := (varl_length n.toNat).2
  have v2 := (varl_length p.toNat).2
  have v3 := (varl_length e'.toNat).2
  have v4 := (varl_length s.toNat).2
  have v5 := (varl_length q.toNat).2
  simp only [List.length_append, List.length_cons, List.length_nil] at lb
  have hp46 : m5 ≤ 46 := by omega
  obtain ⟨H, hH⟩ : ∃ z, kb :: (varl n.toNat ++ varl p.toNat ++ varl e'.toNat ++ varl s.toNat ++ varl q.toNat) = z := ⟨_, rfl⟩
  rw [hH] at e5
  have HG0 : Hid (kb :: varsL [n, p, e', s, q] = H) := by
    unfold Hid
    rw [← hH]
    simp [varsL]
  replace b0 := h1.cell b0
  replace b6 := h1.cell b6
  replace b7 := h1.cell b7
  replace b8 := h1.cell b8
  replace b9 := h1.cell b9
  clear lb v1 v2 v3 v4 v5 hH b1 b2 b3 b4 b5 hcv
  have gq := h1
  obtain ⟨wm, rfl⟩ : ∃ q, q = w1 := ⟨_, rfl⟩
  clear h1
  have gsz := gq.size
  have gx3 := gx2.trans gq
  have hmt : marksT mk = true := by
    have := HT.out
    rw [tail4, Bool.and_eq_true] at this
    exact this.2
  rw [marksT_iff] at hmt
  have hn17 : An3 ≤ 17 := by rw [← hlen]; exact hmt.1.2
  have HFF : Hid (∀ x ∈ mk, fitM x) := fun x hx => markT_fit (hmt.2 x hx)
  have HLEN := Lib.hid hlen
  clear hmt hlen
  have hcr : rightL ch = true := by
    have := HT.out
    rw [tail4, Bool.and_eq_true] at this
    exact this.1
  have HCR := Lib.hid hcr
  have hc32 := (rightL_iff.1 hcr).2.1
  have hcl := putL_len ch
  obtain ⟨LC, hLC⟩ : ∃ z, putL ch = z := ⟨_, rfl⟩
  have HLCE := Lib.hid hLC
  rw [hLC] at hcl
  have HLC : Hid (putR ch true = LC) := hLC
  have hlc : LC.length ≤ 1161 := by omega
  clear hcr hc32 hcl hLC
  go_wp2_with fail
  refine (ref_PutChain (h.ch.ext tg_rep gx3) HCR HLC).mono ?_
  rintro e w4 ⟨A5, n5, c5, rfl, h5, hx4⟩
  rw [show (if true = true then (0 : Int) else 1) = 0 from rfl]
  have hn5 : n5 ≤ 1161 := by rw [← h5.len]; exact hlc
  have gx4 := gq.trans hx4
  have hbH4 := e5.ext hx4
  replace b0 := hx4.cell b0
  replace b7 := hx4.cell b7
  replace b8 := hx4.cell b8
  replace b9 := hx4.cell b9
  clear hx4 gx3 e5 hlc b6 gq gsz
  go_wp2_with fail
  refine (ref_Var B5 m5 d5 H (n5 : Int) _ hbH4.sl (by omega) (by omega)).mono ?_
  rintro e w6 ⟨A6, n6, c6, rfl, h6, hx6⟩
  rw [Int.toNat_natCast] at h6
  have hn6 : n6 ≤ m5 + 9 := by
    have := varl_length n5
    rw [← h6.len, List.length_append, hbH4.len]
    omega
  have h5' := h5.sl.ext hx6
  have h6' := h6.low (B' := w2.heap.size) gx4.size
  replace b0 := hx6.cell b0
  replace b7 := hx6.cell b7
  replace b8 := hx6.cell b8
  replace b9 := hx6.cell b9
  have gx6 := gx4.trans hx6
  have gsz6 := gx6.size
  have h5l := h5.len
  have HF := Lib.hid (And.intro b0 (And.intro b7 (And.intro b8 b9)))
  clear hx6 gx4 hbH4 h5 h6 b0 b7 b8 b9
  go_wp2_with (at_builtin; refine wpList_append_mine _ rfl _ _ _ _ rfl w2.heap.size U8 i0 _ 1 1 under_bytes hi0 hz0 hz1 hz2 rfl A6 n6 c6 _ rfl h6'.own _ rfl n5 (LC.map bv) (h5'.src under_bytes) (by simp only [maxLen]; omega) (by omega) gsz6 ?_; intro A7 c7 w7 hown hg _; have b0 := boxed gx2b h6'.own hg HF.out.1; have b7 := boxed gx2b h6'.own hg HF.out.2.1; have b8 := boxed gx2b h6'.own hg HF.out.2.2.1; have b9 := boxed gx2b h6'.own hg HF.out.2.2.2; have gx7 : Ext w2 w7 := below_grown gx6 h6'.own hg gsz6)
  have h7 : Byt U8 w7 w2.heap.size A7 (n6 + n5) c7 (H ++ varl n5 ++ LC) := Byt.more h6'.len h5l hown rfl
  obtain ⟨H7, hH7⟩ : ∃ z, H ++ varl n5 ++ LC = z := ⟨_, rfl⟩
  rw [hH7] at h7
  have HH7 : Hid (kb :: (varsL [n, p, e', s, q] ++ (varl LC.length ++ LC)) = H7) := by
    unfold Hid
    rw [← hH7, ← HG0.out, h5l]
    simp
  clear hH7 HG0 HF h6' h5' hown hg gx6 gsz6 h5l
  obtain ⟨G, hG⟩ : ∃ z, H7 ++ (varl mk.length ++ mksBs mk) = z := ⟨_, rfl⟩
  have HG := Lib.hid hG
  have hGl : G.length ≤ 3000 := by
    have q1 := mksBs_lenM mk HFF.out
    have q2 := (varl_length mk.length).2
    rw [← hG, List.length_append, List.length_append, h7.len]
    rw [HLEN.out] at q1 q2 ⊢
    omega
  have HGL := Lib.hid hGl
  have HL2 : Hid (put (G ++ da) (crcOf (G ++ da)) 4 = L) := by
    have : bodyM ⟨4, n, p, e', s, q, ch, en, mk, da⟩ = G ++ da := by
      rw [← hG, ← HH7.out, ← HKB.out, ← HLCE.out, show da = [] from HDA.out]
      unfold bodyM chainBs restBs
      rw [if_pos (show (4 : Int) = 2 ∨ (4 : Int) = 4 from .inr rfl), if_neg (show ¬ (4 : Int) = 2 by decide), if_pos rfl]
      simp [msNs, kdB]
    unfold Hid
    rw [← HL.out, ← this]
    rfl
  clear hG hGl HL HH7 b7
  go_wp2_with fail
  refine (ref_putMarks h7.sl (by omega) (h.ms.ext mk_rep (gx2.trans gx7)) hn17 HFF HG).mono ?_
  rintro e w8 ⟨A8, n8, c8, rfl, h8, hx8⟩
  have hn8 : n8 ≤ 3000 := by rw [← h8.len]; exact HGL.out
  have h8' := h8.low (B' := w2.heap.size) gx7.size
  replace b9 := hx8.cell b9
  have gx8 := gx7.trans hx8
  clear hx8 gx7 h7 h8 b8 b0
  have gsF := gx8.size
  go_wp2_with (at_builtin; refine wpList_append_mine _ rfl _ _ _ _ rfl w2.heap.size U8 i0 _ 1 1 under_bytes hi0 hz0 hz1 hz2 rfl A8 n8 c8 _ rfl h8'.own _ rfl An4 (da.map bv) ((h.da.ext (gx2.trans gx8)).src under_bytes) (by simp only [maxLen]; omega) (by omega) gsF ?_; intro AF cF wF hown hg _; have gxF : Ext w2 wF := below_grown gx8 h8'.own hg gsF)
  have hbF : Byt U8 wF w2.heap.size AF (n8 + An4) cF (G ++ da) := Byt.more h8'.len hdl hown rfl
  clear hown hg
  go_wp2_with fail
  refine (ref_Seal AF (n8 + An4) cF (G ++ da) _ hbF.sl (by omega)).mono ?_
  rintro e w5 ⟨A9, n9, c9, rfl, h9, hx9⟩
  rw [HL2.out] at h9
  go_wp2_with fail
  go_ret2
  exact ⟨_, _, _, rfl, h9.low (gx2.trans gxF).size, (gx2.trans gxF).trans hx9⟩
theorem ref_PutMsg {m : Ms} {A1 : Option Addr} {An1 Ac1 : Nat} {A2 : Option Addr} {An2 Ac2 : Nat} {A3 : Option Addr} {An3 Ac3 : Nat} {A4 : Option Addr} {An4 Ac4 : Nat} {w : World} (h : MsR w m A1 An1 Ac1 A2 An2 Ac2 A3 An3 Ac3 A4 An4 Ac4) (hf : Hid (EnFit m.ents)) (hs : Hid (Shorts m.marks)) {r : Bool} (hr : Hid (rightM m = r)) {L : List UInt8} (hL : Hid (putMr m r = L)) :
    Calls Try.prog 36 #[msV m A1 An1 Ac1 A2 An2 Ac2 A3 An3 Ac3 A4 An4 Ac4] w fun e w' => ∃ A' n' c', e = .returned (.tuple #[.slice A' n' c', .int .i64 (if r then 0 else 1)]) ∧ Byt U8 w' w.heap.size A' n' c' L ∧ Ext w w' := by
  obtain ⟨k, n, p, e', s, q, ch, en, mk, da⟩ := m
  cases r with
  | false =>
    obtain rfl : L = [] := by rw [← hL.out]; rfl
    have HRC := Lib.hid (ref_RightMsg (h.ext (Ext.alloc w (.cells (msC ⟨k, n, p, e', s, q, ch, en, mk, da⟩ A1 An1 Ac1 A2 An2 Ac2 A3 An3 Ac3 A4 An4 Ac4) TMs))) hf hs hr)
    go_enter Try.func36, Try.ntmps36
    go_wp2_with fail
    refine HRC.out.mono ?_
    rintro e w1 ⟨rfl, hx1⟩
    go_wp2_with fail
    go_ret2
    exact ⟨_, _, _, rfl, Byt.nil _ _ _ _, (Ext.alloc _ _).trans hx1⟩
  | true =>
    have hk : k = 2 ∨ k = 4 ∨ ¬ (k = 2 ∨ k = 4) := by omega
    rcases hk with rfl | rfl | hk
    · exact ref_PutMsg_2 h hf hs hr hL
    · exact ref_PutMsg_4 h hf hs hr hL
    · exact ref_PutMsg_0 hk h hf hs hr hL
end Go.Proofs.Ytoeknbogaclfdaa
