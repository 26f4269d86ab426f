/-
  Marks in bytes: contracts of the reference's bit and putMarks.
-/
import Derived.Test.YtoeknbogaclfdaaZFromHd2ToHdSame
import Derived.Test.YtoeknbogaclfdaaZCore
namespace Go.Proofs.Ytoeknbogaclfdaa
open Go.RowKit
set_option linter.unusedVariables false
set_option linter.unusedSimpArgs false
set_option linter.unnecessarySimpa false
set_option maxRecDepth 100000

theorem ref_bit (g : Bool) (w : World) : Calls Try.prog 90 #[.bool g] w fun e w' => e = .returned (.int .i64 (goneI g)) ∧ w = w' := by
  cases g
  · rw [show goneI false = 0 from rfl]
    go_enter Try.func90, Try.ntmps90
    go_wp2_with fail
    go_ret
    exact ⟨rfl, rfl⟩
  · rw [show goneI true = 1 from rfl]
    go_enter Try.func90, Try.ntmps90
    go_wp2_with fail
    go_ret
    exact ⟨rfl, rfl⟩
theorem goneI_bd (g : Bool) : 0 ≤ goneI g ∧ goneI g ≤ 1 := by unfold goneI; split <;> omega
theorem mkBs_parts (x : Mk) : mkBs x = varl x.id.toNat ++ (varl x.sz.toNat ++ (varl (goneI x.gone).toNat ++ (varl x.nm.size ++ x.nm.data.toList))) := by
  unfold mkBs mkNs
  simp [varsL]
set_option maxHeartbeats 2000000 in
theorem ref_putMarks {A : Option Addr} {n c : Nat} {b : List UInt8} {A2 : Option Addr} {m c2 : Nat} {xs : List Mk} {w : World} (hb : Sl w A n c b) (hn : n ≤ 10000) (hl : Lst 4 mkR w A2 m c2 xs) (hm : m ≤ 17) (hf : Hid (∀ x ∈ xs, fitM x)) {L : List UInt8} (hL : Hid (b ++ (varl xs.length ++ mksBs xs) = L)) :
    Calls Try.prog 56 #[.slice A n c, .slice A2 m c2] w fun e w' => ∃ A' n' c', e = .returned (.slice A' n' c') ∧ Byt U8 w' w.heap.size A' n' c' L ∧ Ext w w' := by
  have h63 := hl.n63
  go_enter Try.func56, Try.ntmps56
  go_wp2_with fail
  refine (ref_Var A n c b (m : Int) _ hb (by omega) (by omega)).mono ?_
  rintro e w2 ⟨A3, n3, c3, rfl, hb2, hx2⟩
  rw [Int.toNat_natCast] at hb2
  have hn3 : n3 ≤ n + 9 := by rw [← hb2.len, List.length_append, hb.len]; have := (varl_length m).2; omega
  go_wp2_with fail
  go_loopw [0, 5] (fun v i wr => ∃ (k : Nat) (Ab : Option Addr) (p cb : Nat) (G : List UInt8), k ≤ m ∧ v = .slice Ab p cb ∧ i = .int .i64 k ∧ Byt U8 wr w.heap.size Ab p cb G ∧ Hid (b ++ varl m ++ mksBs (xs.take k) = G) ∧ p ≤ n + 9 + 49 * k ∧ Ext w wr) (fun _ i _ => m - (intOf i).toNat)
  case atStart => exact ⟨0, A3, n3, c3, _, by omega, rfl, rfl, hb2, by simp [Hid, mksBs], by omega, hx2⟩
  case round =>
    obtain ⟨k, Ab, p, cb, G, hk, rfl, rfl, hbG, hG, hp, hxr⟩ := hrel
    clear hb2 hx2
    by_cases hlt : k < m
    · obtain ⟨ga, oa, x, cs, rfl, hx, rfl, ha⟩ := hl.at2 mk_rep (by omega) hlt
      have a0 : wr.cell? ⟨ga, oa + k * 4, none⟩ = _ := hxr.cell (ha 0 _ rfl)
      have a1 := hxr.cell (ha 1 _ rfl)
      have a2 := hxr.cell (ha 2 _ rfl)
      have a3 := hxr.cell (ha 3 _ rfl)
      have HF := Lib.hid (hf.out x (List.mem_of_getElem? hx))
      have hnx := mksBs_next hx
      have hgb := goneI_bd x.gone
      have hmb := (mkBs_len x).2
      have HNX : Hid (b ++ varl m ++ mksBs (xs.take (k + 1)) = G ++ mkBs x) := by
        unfold Hid
        rw [hnx, ← List.append_assoc, hG.out]
      have HP := Lib.hid (mkBs_parts x)
      have hnm : x.nm.size ≤ 13 := HF.out.2.2
      clear hG hnx hx ha
      obtain ⟨M, hM⟩ : ∃ M, mkBs x = M := ⟨_, rfl⟩
      rw [hM] at HNX HP hmb
      clear hM
      obtain ⟨x1, x2, x3, x4⟩ := x
      obtain ⟨gi, hgi⟩ : ∃ q, goneI x4 = q := ⟨_, rfl⟩
      simp only at a0 a1 a2 a3 HP hnm hmb hgb
      have HGI := Lib.hid hgi
      rw [hgi] at hgb HP
      clear hgi
      have hp2 : p ≤ 11000 := by omega
      go_wp2_with fail
      refine wp_region_typed2 (R := But wr.heap.size (fun _ => False)) Ext.steady (But.steady _ _) (fun _ _ => But.of_ext) rfl 43 rfl [0, 0, 0, 6, 14, 30, 63, 0, 0, 384, 896, 1920, 4095, 0, 0, 24576, 57344, 122880, 262143, 524287, 0, 0, 3145728, 7340032, 15728640, 33554431, 67108863] 0 (by kernel_rfl) ?_
      -- 0: Op.move t0
      apply Stage2.step (Is _) true [] true false (Is.keeps _) (fun _ => Is.keeps _) (by kernel_rfl)
      · intro w1 h1
        have h1 : Ext _ w1 := h1
        simp only [List.nil_append, List.cons_append, List.map_cons, List.map_nil, Given]
        go_wp2_with fail
        exact Post.isv (Ext.refl _) rfl rfl rfl
      -- 1: Op.move t1
      apply Stage2.step (Is _) true [] true false (Is.keeps _) (fun _ => Is.keeps _) (by kernel_rfl)
      · intro w1 h1
        have h1 : Ext _ w1 := h1
        simp only [List.nil_append, List.cons_append, List.map_cons, List.map_nil, Given]
        go_wp2_with fail
        exact Post.isv (Ext.refl _) rfl rfl rfl
      -- 2: Op.move t5
      apply Stage2.step (Is _) true [] true false (Is.keeps _) (fun _ => Is.keeps _) (by kernel_rfl)
      · intro w1 h1
        have h1 : Ext _ w1 := h1
        simp only [List.nil_append, List.cons_append, List.map_cons, List.map_nil, Given]
        go_wp2_with fail
        exact Post.isv (Ext.refl _) rfl rfl rfl
      -- 3: Op.indexAddr 27 t17 t18
      apply Stage2.step (Is _) true [false, true, true] true false (Is.keeps _) (fun _ => Is.keeps _) (by kernel_rfl)
      · intro w1 h1
        have h1 : Ext _ w1 := h1
        simp only [List.nil_append, List.cons_append, List.map_cons, List.map_nil, Sp.pr, Given]
        rintro _ rfl
        rintro _ rfl
        go_wp2_with fail
        exact Post.isv (Ext.refl _) rfl rfl rfl
      -- 4: Op.fieldAddr 48 t19 0
      apply Stage2.step (Is _) true [false, false, false, true] true false (Is.keeps _) (fun _ => Is.keeps _) (by kernel_rfl)
      · intro w1 h1
        have h1 : Ext _ w1 := h1
        simp only [List.nil_append, List.cons_append, List.map_cons, List.map_nil, Sp.pr, Given]
        rintro _ rfl
        go_wp2_with fail
        exact Post.isv (Ext.refl _) rfl rfl rfl
      -- 5: Op.load 3 t20
      apply Stage2.step (Is (.int .i64 x1)) true [false, false, false, false, true] true false (Is.keeps _) (fun _ => Is.keeps _) (by kernel_rfl)
      · intro w1 h1
        have h1 : Ext _ w1 := h1
        simp only [List.nil_append, List.cons_append, List.map_cons, List.map_nil, Sp.pr, Given]
        rintro _ rfl
        have q0 := h1.cell a0
        go_wp2_with fail
        exact Post.isv (Ext.refl _) rfl rfl rfl
      -- 6: Op.call { value (Operand.func 55), args := #[t16, t21], argTypes := #[23, 3] }
      apply Stage2.step (BytT U8 wr.heap.size (G ++ varl x1.toNat)) false [true, false, false, false, false, true] true false (BytT.keeps _ _ _) (no_keeps) (by kernel_rfl)
      · intro w1 h1
        have h1 : Ext _ w1 := h1
        simp only [List.nil_append, List.cons_append, List.map_cons, List.map_nil, Sp.pr, Given]
        rintro _ rfl
        rintro _ rfl
        go_wp2_with fail
        refine (ref_Var Ab p cb G x1 _ (hbG.sl.ext h1) (by omega) HF.out.1.2).mono ?_
        rintro e w2 ⟨A5, n5, c5, rfl, h5, hx5⟩
        go_wp2_with fail
        exact ⟨rfl, rfl, hx5, _, _, _, rfl, h5.low h1.size⟩
      -- 7: Op.move t1
      apply Stage2.step (Is _) true [] true false (Is.keeps _) (fun _ => Is.keeps _) (by kernel_rfl)
      · intro w1 h1
        have h1 : Ext _ w1 := h1
        simp only [List.nil_append, List.cons_append, List.map_cons, List.map_nil, Given]
        go_wp2_with fail
        exact Post.isv (Ext.refl _) rfl rfl rfl
      -- 8: Op.move t5
      apply Stage2.step (Is _) true [] true false (Is.keeps _) (fun _ => Is.keeps _) (by kernel_rfl)
      · intro w1 h1
        have h1 : Ext _ w1 := h1
        simp only [List.nil_append, List.cons_append, List.map_cons, List.map_nil, Given]
        go_wp2_with fail
        exact Post.isv (Ext.refl _) rfl rfl rfl
      -- 9: Op.indexAddr 27 t23 t24
      apply Stage2.step (Is _) true [false, false, false, false, false, false, false, true, true] true false (Is.keeps _) (fun _ => Is.keeps _) (by kernel_rfl)
      · intro w1 h1
        have h1 : Ext _ w1 := h1
        simp only [List.nil_append, List.cons_append, List.map_cons, List.map_nil, Sp.pr, Given]
        rintro _ rfl
        rintro _ rfl
        go_wp2_with fail
        exact Post.isv (Ext.refl _) rfl rfl rfl
      -- 10: Op.fieldAddr 48 t25 2
      apply Stage2.step (Is _) true [false, false, false, false, false, false, false, false, false, true] true false (Is.keeps _) (fun _ => Is.keeps _) (by kernel_rfl)
      · intro w1 h1
        have h1 : Ext _ w1 := h1
        simp only [List.nil_append, List.cons_append, List.map_cons, List.map_nil, Sp.pr, Given]
        rintro _ rfl
        go_wp2_with fail
        exact Post.isv (Ext.refl _) rfl rfl rfl
      -- 11: Op.load 3 t26
      apply Stage2.step (Is (.int .i64 x3)) true [false, false, false, false, false, false, false, false, false, false, true] true false (Is.keeps _) (fun _ => Is.keeps _) (by kernel_rfl)
      · intro w1 h1
        have h1 : Ext _ w1 := h1
        simp only [List.nil_append, List.cons_append, List.map_cons, List.map_nil, Sp.pr, Given]
        rintro _ rfl
        have q0 := h1.cell a2
        go_wp2_with fail
        exact Post.isv (Ext.refl _) rfl rfl rfl
      -- 12: Op.call { value (Operand.func 55), args := #[t22, t27], argTypes := #[23, 3] }
      apply Stage2.step (BytT U8 wr.heap.size (G ++ varl x1.toNat ++ varl x3.toNat)) false [false, false, false, false, false, false, true, false, false, false, false, true] true false (BytT.keeps _ _ _) (no_keeps) (by kernel_rfl)
      · intro w1 h1
        have h1 : Ext _ w1 := h1
        simp only [List.nil_append, List.cons_append, List.map_cons, List.map_nil, Sp.pr, Given]
        rintro _ ⟨A5, n5, c5, rfl, h5⟩
        rintro _ rfl
        have l5 : n5 ≤ p + 9 := by
          have := varl_length x1.toNat
          rw [← h5.len, List.length_append, hbG.len]
          omega
        go_wp2_with fail
        refine (ref_Var A5 n5 c5 _ x3 _ h5.sl (by omega) HF.out.2.1.2).mono ?_
        rintro e w2 ⟨A6, n6, c6, rfl, h6, hx6⟩
        go_wp2_with fail
        exact ⟨rfl, rfl, hx6, _, _, _, rfl, h6.low h1.size⟩
      -- 13: Op.move t1
      apply Stage2.step (Is _) true [] true false (Is.keeps _) (fun _ => Is.keeps _) (by kernel_rfl)
      · intro w1 h1
        have h1 : Ext _ w1 := h1
        simp only [List.nil_append, List.cons_append, List.map_cons, List.map_nil, Given]
        go_wp2_with fail
        exact Post.isv (Ext.refl _) rfl rfl rfl
      -- 14: Op.move t5
      apply Stage2.step (Is _) true [] true false (Is.keeps _) (fun _ => Is.keeps _) (by kernel_rfl)
      · intro w1 h1
        have h1 : Ext _ w1 := h1
        simp only [List.nil_append, List.cons_append, List.map_cons, List.map_nil, Given]
        go_wp2_with fail
        exact Post.isv (Ext.refl _) rfl rfl rfl
      -- 15: Op.indexAddr 27 t29 t30
      apply Stage2.step (Is _) true [false, false, false, false, false, false, false, false, false, false, false, false, false, true, true] true false (Is.keeps _) (fun _ => Is.keeps _) (by kernel_rfl)
      · intro w1 h1
        have h1 : Ext _ w1 := h1
        simp only [List.nil_append, List.cons_append, List.map_cons, List.map_nil, Sp.pr, Given]
        rintro _ rfl
        rintro _ rfl
        go_wp2_with fail
        exact Post.isv (Ext.refl _) rfl rfl rfl
      -- 16: Op.fieldAddr 48 t31 3
      apply Stage2.step (Is _) true [false, false, false, false, false, false, false, false, false, false, false, false, false, false, false, true] true false (Is.keeps _) (fun _ => Is.keeps _) (by kernel_rfl)
      · intro w1 h1
        have h1 : Ext _ w1 := h1
        simp only [List.nil_append, List.cons_append, List.map_cons, List.map_nil, Sp.pr, Given]
        rintro _ rfl
        go_wp2_with fail
        exact Post.isv (Ext.refl _) rfl rfl rfl
      -- 17: Op.load 4 t32
      apply Stage2.step (Is (.bool x4)) true [false, false, false, false, false, false, false, false, false, false, false, false, false, false, false, false, true] true false (Is.keeps _) (fun _ => Is.keeps _) (by kernel_rfl)
      · intro w1 h1
        have h1 : Ext _ w1 := h1
        simp only [List.nil_append, List.cons_append, List.map_cons, List.map_nil, Sp.pr, Given]
        rintro _ rfl
        have q0 := h1.cell a3
        go_wp2_with fail
        exact Post.isv (Ext.refl _) rfl rfl rfl
      -- 18: Op.call { value (Operand.func 90), args := #[t33], argTypes := #[4] }
      apply Stage2.step (Is (.int .i64 gi)) true [false, false, false, false, false, false, false, false, false, false, false, false, false, false, false, false, false, true] true false (Is.keeps _) (fun _ => Is.keeps _) (by kernel_rfl)
      · intro w1 h1
        have h1 : Ext _ w1 := h1
        simp only [List.nil_append, List.cons_append, List.map_cons, List.map_nil, Sp.pr, Given]
        rintro _ rfl
        have hcb := ref_bit x4 w1
        rw [HGI.out] at hcb
        go_wp2_with fail
        refine hcb.mono ?_
        rintro e _ ⟨rfl, rfl⟩
        go_wp2_with fail
        exact Post.isv (Ext.refl _) rfl rfl rfl
      -- 19: Op.call { value (Operand.func 55), args := #[t28, t34], argTypes := #[23, 3] }
      apply Stage2.step (BytT U8 wr.heap.size (G ++ varl x1.toNat ++ varl x3.toNat ++ varl gi.toNat)) false [false, false, false, false, false, false, false, false, false, false, false, false, true, false, false, false, false, false, true] true false (BytT.keeps _ _ _) (no_keeps) (by kernel_rfl)
      · intro w1 h1
        have h1 : Ext _ w1 := h1
        simp only [List.nil_append, List.cons_append, List.map_cons, List.map_nil, Sp.pr, Given]
        rintro _ ⟨A6, n6, c6, rfl, h6⟩
        rintro _ rfl
        have l6 : n6 ≤ p + 18 := by
          have := varl_length x1.toNat
          have := varl_length x3.toNat
          rw [← h6.len, List.length_append, List.length_append, hbG.len]
          omega
        go_wp2_with fail
        refine (ref_Var A6 n6 c6 _ gi _ h6.sl (by omega) (by omega)).mono ?_
        rintro e w2 ⟨A7, n7, c7, rfl, h7, hx7⟩
        go_wp2_with fail
        exact ⟨rfl, rfl, hx7, _, _, _, rfl, h7.low h1.size⟩
      -- 20: Op.move t1
      apply Stage2.step (Is _) true [] true false (Is.keeps _) (fun _ => Is.keeps _) (by kernel_rfl)
      · intro w1 h1
        have h1 : Ext _ w1 := h1
        simp only [List.nil_append, List.cons_append, List.map_cons, List.map_nil, Given]
        go_wp2_with fail
        exact Post.isv (Ext.refl _) rfl rfl rfl
      -- 21: Op.move t5
      apply Stage2.step (Is _) true [] true false (Is.keeps _) (fun _ => Is.keeps _) (by kernel_rfl)
      · intro w1 h1
        have h1 : Ext _ w1 := h1
        simp only [List.nil_append, List.cons_append, List.map_cons, List.map_nil, Given]
        go_wp2_with fail
        exact Post.isv (Ext.refl _) rfl rfl rfl
      -- 22: Op.indexAddr 27 t36 t37
      apply Stage2.step (Is _) true [false, false, false, false, false, false, false, false, false, false, false, false, false, false, false, false, false, false, false, false, true, true] true false (Is.keeps _) (fun _ => Is.keeps _) (by kernel_rfl)
      · intro w1 h1
        have h1 : Ext _ w1 := h1
        simp only [List.nil_append, List.cons_append, List.map_cons, List.map_nil, Sp.pr, Given]
        rintro _ rfl
        rintro _ rfl
        go_wp2_with fail
        exact Post.isv (Ext.refl _) rfl rfl rfl
      -- 23: Op.fieldAddr 48 t38 1
      apply Stage2.step (Is _) true [false, false, false, false, false, false, false, false, false, false, false, false, false, false, false, false, false, false, false, false, false, false, true] true false (Is.keeps _) (fun _ => Is.keeps _) (by kernel_rfl)
      · intro w1 h1
        have h1 : Ext _ w1 := h1
        simp only [List.nil_append, List.cons_append, List.map_cons, List.map_nil, Sp.pr, Given]
        rintro _ rfl
        go_wp2_with fail
        exact Post.isv (Ext.refl _) rfl rfl rfl
      -- 24: Op.load 9 t39
      apply Stage2.step (Is (.string x2)) true [false, false, false, false, false, false, false, false, false, false, false, false, false, false, false, false, false, false, false, false, false, false, false, true] true false (Is.keeps _) (fun _ => Is.keeps _) (by kernel_rfl)
      · intro w1 h1
        have h1 : Ext _ w1 := h1
        simp only [List.nil_append, List.cons_append, List.map_cons, List.map_nil, Sp.pr, Given]
        rintro _ rfl
        have q0 := h1.cell a1
        go_wp2_with fail
        exact Post.isv (Ext.refl _) rfl rfl rfl
      -- 25: Op.call { value (Operand.func 89), args := #[t35, t40], argTypes := #[23, 9] }
      apply Stage2.step (BytT U8 wr.heap.size (G ++ varl x1.toNat ++ varl x3.toNat ++ varl gi.toNat ++ varl x2.size ++ x2.data.toList)) false [false, false, false, false, false, false, false, false, false, false, false, false, false, false, false, false, false, false, false, true, false, false, false, false, true] true false (BytT.keeps _ _ _) (no_keeps) (by kernel_rfl)
      · intro w1 h1
        have h1 : Ext _ w1 := h1
        simp only [List.nil_append, List.cons_append, List.map_cons, List.map_nil, Sp.pr, Given]
        rintro _ ⟨A7, n7, c7, rfl, h7⟩
        rintro _ rfl
        have l7 : n7 ≤ p + 27 := by
          have := varl_length x1.toNat
          have := varl_length x3.toNat
          have := varl_length gi.toNat
          rw [← h7.len, List.length_append, List.length_append, List.length_append, hbG.len]
          omega
        go_wp2_with fail
        refine (ref_Text A7 n7 c7 _ x2 _ h7.sl (by omega) (by omega)).mono ?_
        rintro e w2 ⟨A8, n8, c8, rfl, h8, hx8⟩
        go_wp2_with fail
        exact ⟨rfl, rfl, hx8, _, _, _, rfl, h8.low h1.size⟩
      -- 26: Op.assign t41
      apply Stage2.step (BytT U8 wr.heap.size (G ++ varl x1.toNat ++ varl x3.toNat ++ varl gi.toNat ++ varl x2.size ++ x2.data.toList)) false [false, false, false, false, false, false, false, false, false, false, false, false, false, false, false, false, false, false, false, false, false, false, false, false, false, true] true false (BytT.keeps _ _ _) (no_keeps) (by kernel_rfl)
      · intro w1 h1
        have h1 : Ext _ w1 := h1
        simp only [List.nil_append, List.cons_append, List.map_cons, List.map_nil, Sp.pr, Given]
        rintro v hcp
        go_wp2_with fail
        exact ⟨rfl, rfl, Ext.refl _, hcp⟩
      apply Stage2.nil [true, true, true, true, true, true, true, true, true, true, true, true, true, true, true, true, true, true, true, true, true, true, true, true, true, true, true] (by kernel_rfl)
      intro w1 h1
      have h1 : (Ext) _ w1 := h1
      simp only [List.nil_append, List.cons_append, List.map_cons, List.map_nil, Sp.pr]
      refine Fin2.is_ ?_
      refine Fin2.is_ ?_
      refine Fin2.is_ ?_
      refine Fin2.is_ ?_
      refine Fin2.is_ ?_
      refine Fin2.is_ ?_
      refine Fin2.step_ ?_
      rintro _ ⟨A5, n5, c5, rfl, h5⟩
      refine Fin2.is_ ?_
      refine Fin2.is_ ?_
      refine Fin2.is_ ?_
      refine Fin2.is_ ?_
      refine Fin2.is_ ?_
      refine Fin2.step_ ?_
      rintro _ ⟨A6, n6, c6, rfl, h6⟩
      refine Fin2.is_ ?_
      refine Fin2.is_ ?_
      refine Fin2.is_ ?_
      refine Fin2.is_ ?_
      refine Fin2.is_ ?_
      refine Fin2.is_ ?_
      refine Fin2.step_ ?_
      rintro _ ⟨A7, n7, c7, rfl, h7⟩
      refine Fin2.is_ ?_
      refine Fin2.is_ ?_
      refine Fin2.is_ ?_
      refine Fin2.is_ ?_
      refine Fin2.is_ ?_
      refine Fin2.step_ ?_
      rintro _ ⟨A8, n8, c8, rfl, h8⟩
      refine Fin2.step_ ?_
      rintro _ ⟨A8, n8, c8, rfl, h8⟩
      refine Fin2.nil_ ?_
      go_simp
      have HH : Hid (b ++ varl m ++ mksBs (xs.take (k + 1)) = G ++ varl x1.toNat ++ varl x3.toNat ++ varl gi.toNat ++ varl x2.size ++ x2.data.toList) := by
        unfold Hid
        rw [HNX.out, HP.out]
        simp
      have hl8 : n8 ≤ n + 9 + 49 * (k + 1) := by
        have := varl_length x1.toNat
        have := varl_length x3.toNat
        have := varl_length gi.toNat
        have := varl_length x2.size
        have h9 := size_list x2
        have h8l := h8.len
        simp only [List.length_append, hbG.len, h9] at h8l
        omega
      go_wp2_with fail
      go_roundw
      case rel => exact ⟨k + 1, A8, n8, c8, _, by omega, rfl, by go_num, h8.low hxr.size, HH, hl8, hxr.trans h1⟩
      case measure => simp [intOf]; omega
    · obtain rfl : k = m := by omega
      have hG1 := hG.out
      rw [List.take_of_length_le (by rw [hl.len]; exact Nat.le_refl _)] at hG1
      obtain rfl : G = L := by rw [← hG1, ← hL.out, hl.len, List.append_assoc]
      clear hG1 hG hL
      go_wp2_with fail
      go_ret
      exact ⟨_, _, _, rfl, hbG, hxr⟩
end Go.Proofs.Ytoeknbogaclfdaa
