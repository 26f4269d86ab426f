/-
  Marks in bytes: contracts of the reference's bit and putMarks.
-/
/-
  Records out of bytes: contract of the program's Get.
-/
/-
  Messages out of bytes: contract of the program's info.
-/
import Derived.Test.YtoeknbogaclfdaaZFromFlatToMkSame
import Derived.Test.YtoeknbogaclfdaaZCore
import Derived.Test.YtoeknbogaclfdaaZFromTagParseToMsTags
import Derived.Deep.QuietTactic
import Derived.BigQuiet
import Derived.Test.YtoeknbogaclfdaaZFromSumToFrame
namespace Go.Proofs.Ytoeknbogaclfdaa
open Go.RowKit
set_option linter.unusedVariables false
set_option linter.unusedSimpArgs false
set_option linter.unnecessarySimpa false
set_option maxRecDepth 100000
theorem ref_bit (g : Bool) (w : World) : Calls Try.prog 90 #[.bool g] w fun e w' => e = .returned (.int .i64 (goneI g)) ∧ w = w' := by
  cases g
  · rw [show goneI false = 0 from rfl]
    go_enter Try.func90, Try.ntmps90
    go_wp2_with fail
    go_ret
    exact ⟨rfl, rfl⟩
  · rw [show goneI true = 1 from rfl]
    go_enter Try.func90, Try.ntmps90
    go_wp2_with fail
    go_ret
    exact ⟨rfl, rfl⟩
theorem goneI_bd (g : Bool) : 0 ≤ goneI g ∧ goneI g ≤ 1 := by unfold goneI; split <;> omega
theorem mkBs_parts (x : Mk) : mkBs x = varl x.id.toNat ++ (varl x.sz.toNat ++ (varl (goneI x.gone).toNat ++ (varl x.nm.size ++ x.nm.data.toList))) := by
  unfold mkBs mkNs
  simp [varsL]
set_option maxHeartbeats 2000000 in
theorem ref_putMarks {A : Option Addr} {n c : Nat} {b : List UInt8} {A2 : Option Addr} {m c2 : Nat} {xs : List Mk} {w : World} (hb : Sl w A n c b) (hn : n ≤ 10000) (hl : Lst 4 mkR w A2 m c2 xs) (hm : m ≤ 17) (hf : Hid (∀ x ∈ xs, fitM x)) {L : List UInt8} (hL : Hid (b ++ (varl xs.length ++ mksBs xs) = L)) :
    Calls Try.prog 56 #[.slice A n c, .slice A2 m c2] w fun e w' => ∃ A' n' c', e = .returned (.slice A' n' c') ∧ Byt U8 w' w.heap.size A' n' c' L ∧ Ext w w' := by
  have h63 := hl.n63
  go_enter Try.func56, Try.ntmps56
  go_wp2_with fail
  refine (ref_Var A n c b (m : Int) _ hb (by omega) (by omega)).mono ?_
  rintro e w2 ⟨A3, n3, c3, rfl, hb2, hx2⟩
  rw [Int.toNat_natCast] at hb2
  have hn3 : n3 ≤ n + 9 := by rw [← hb2.len, List.length_append, hb.len]; have := (varl_length m).2; omega
  go_wp2_with fail
  go_loopw [0, 5] (fun v i wr => ∃ (k : Nat) (Ab : Option Addr) (p cb : Nat) (G : List UInt8), k ≤ m ∧ v = .slice Ab p cb ∧ i = .int .i64 k ∧ Byt U8 wr w.heap.size Ab p cb G ∧ Hid (b ++ varl m ++ mksBs (xs.take k) = G) ∧ p ≤ n + 9 + 49 * k ∧ Ext w wr) (fun _ i _ => m - (intOf i).toNat)
  case atStart => exact ⟨0, A3, n3, c3, _, by omega, rfl, rfl, hb2, by simp [Hid, mksBs], by omega, hx2⟩
  case round =>
    obtain ⟨k, Ab, p, cb, G, hk, rfl, rfl, hbG, hG, hp, hxr⟩ := hrel
    clear hb2 hx2
    by_cases hlt : k < m
    · obtain ⟨ga, oa, x, cs, rfl, hx, rfl, ha⟩ := hl.at2 mk_rep (by omega) hlt
      have a0 : wr.cell? ⟨ga, oa + k * 4, none⟩ = _ := hxr.cell (ha 0 _ rfl)
      have a1 := hxr.cell (ha 1 _ rfl)
      have a2 := hxr.cell (ha 2 _ rfl)
      have a3 := hxr.cell (ha 3 _ rfl)
      have HF := Lib.hid (hf.out x (List.mem_of_getElem? hx))
      have hnx := mksBs_next hx
      have hgb := goneI_bd x.gone
      have hmb := (mkBs_len x).2
      have HNX : Hid (b ++ varl m ++ mksBs (xs.take (k + 1)) = G ++ mkBs x) := by
        unfold Hid
        rw [hnx, ← List.append_assoc, hG.out]
      have HP := Lib.hid (mkBs_parts x)
      have hnm : x.nm.size ≤ 13 := HF.out.2.2
      clear hG hnx hx ha
      obtain ⟨M, hM⟩ : ∃ M, mkBs x = M := ⟨_, rfl⟩
      rw [hM] at HNX HP hmb
      clear hM
      obtain ⟨x1, x2, x3, x4⟩ := x
      obtain ⟨gi, hgi⟩ : ∃ q, goneI x4 = q := ⟨_, rfl⟩
      simp only at a0 a1 a2 a3 HP hnm hmb hgb
      have HGI := Lib.hid hgi
      rw [hgi] at hgb HP
      clear hgi
      have hp2 : p ≤ 11000 := by omega
      go_wp2_with fail
      refine wp_region_typed2 (R := But wr.heap.size (fun _ => False)) Ext.steady (But.steady _ _) (fun _ _ => But.of_ext) rfl 43 rfl [0, 0, 0, 6, 14, 30, 63, 0, 0, 384, 896, 1920, 4095, 0, 0, 24576, 57344, 122880, 262143, 524287, 0, 0, 3145728, 7340032, 15728640, 33554431, 67108863] 0 (by kernel_rfl) ?_
      apply Stage2.step (Is _) true [] true false (Is.keeps _) (fun _ => Is.keeps _) (by kernel_rfl)
      · intro w1 h1
        have h1 : Ext _ w1 := h1
        simp only [List.nil_append, List.cons_append, List.map_cons, List.map_nil, Given]
        go_wp2_with fail
        exact Post.isv (Ext.refl _) rfl rfl rfl
      apply Stage2.step (Is _) true [] true false (Is.keeps _) (fun _ => Is.keeps _) (by kernel_rfl)
      · intro w1 h1
        have h1 : Ext _ w1 := h1
        simp only [List.nil_append, List.cons_append, List.map_cons, List.map_nil, Given]
        go_wp2_with fail
        exact Post.isv (Ext.refl _) rfl rfl rfl
      apply Stage2.step (Is _) true [] true false (Is.keeps _) (fun _ => Is.keeps _) (by kernel_rfl)
      · intro w1 h1
        have h1 : Ext _ w1 := h1
        simp only [List.nil_append, List.cons_append, List.map_cons, List.map_nil, Given]
        go_wp2_with fail
        exact Post.isv (Ext.refl _) rfl rfl rfl
      apply Stage2.step (Is _) true [false, true, true] true false (Is.keeps _) (fun _ => Is.keeps _) (by kernel_rfl)
      · intro w1 h1
        have h1 : Ext _ w1 := h1
        simp only [List.nil_append, List.cons_append, List.map_cons, List.map_nil, Sp.pr, Given]
        rintro _ rfl
        rintro _ rfl
        go_wp2_with fail
        exact Post.isv (Ext.refl _) rfl rfl rfl
      apply Stage2.step (Is _) true [false, false, false, true] true false (Is.keeps _) (fun _ => Is.keeps _) (by kernel_rfl)
      · intro w1 h1
        have h1 : Ext _ w1 := h1
        simp only [List.nil_append, List.cons_append, List.map_cons, List.map_nil, Sp.pr, Given]
        rintro _ rfl
        go_wp2_with fail
        exact Post.isv (Ext.refl _) rfl rfl rfl
      apply Stage2.step (Is (.int .i64 x1)) true [false, false, false, false, true] true false (Is.keeps _) (fun _ => Is.keeps _) (by kernel_rfl)
      · intro w1 h1
        have h1 : Ext _ w1 := h1
        simp only [List.nil_append, List.cons_append, List.map_cons, List.map_nil, Sp.pr, Given]
        rintro _ rfl
        have q0 := h1.cell a0
        go_wp2_with fail
        exact Post.isv (Ext.refl _) rfl rfl rfl
      apply Stage2.step (BytT U8 wr.heap.size (G ++ varl x1.toNat)) false [true, false, false, false, false, true] true false (BytT.keeps _ _ _) (no_keeps) (by kernel_rfl)
      · intro w1 h1
        have h1 : Ext _ w1 := h1
        simp only [List.nil_append, List.cons_append, List.map_cons, List.map_nil, Sp.pr, Given]
        rintro _ rfl
        rintro _ rfl
        go_wp2_with fail
        refine (ref_Var Ab p cb G x1 _ (hbG.sl.ext h1) (by omega) HF.out.1.2).mono ?_
        rintro e w2 ⟨A5, n5, c5, rfl, h5, hx5⟩
        go_wp2_with fail
        exact ⟨rfl, rfl, hx5, _, _, _, rfl, h5.low h1.size⟩
      apply Stage2.step (Is _) true [] true false (Is.keeps _) (fun _ => Is.keeps _) (by kernel_rfl)
      · intro w1 h1
        have h1 : Ext _ w1 := h1
        simp only [List.nil_append, List.cons_append, List.map_cons, List.map_nil, Given]
        go_wp2_with fail
        exact Post.isv (Ext.refl _) rfl rfl rfl
      apply Stage2.step (Is _) true [] true false (Is.keeps _) (fun _ => Is.keeps _) (by kernel_rfl)
      · intro w1 h1
        have h1 : Ext _ w1 := h1
        simp only [List.nil_append, List.cons_append, List.map_cons, List.map_nil, Given]
        go_wp2_with fail
        exact Post.isv (Ext.refl _) rfl rfl rfl
      apply Stage2.step (Is _) true [false, false, false, false, false, false, false, true, true] true false (Is.keeps _) (fun _ => Is.keeps _) (by kernel_rfl)
      · intro w1 h1
        have h1 : Ext _ w1 := h1
        simp only [List.nil_append, List.cons_append, List.map_cons, List.map_nil, Sp.pr, Given]
        rintro _ rfl
        rintro _ rfl
        go_wp2_with fail
        exact Post.isv (Ext.refl _) rfl rfl rfl
      apply Stage2.step (Is _) true [false, false, false, false, false, false, false, false, false, true] true false (Is.keeps _) (fun _ => Is.keeps _) (by kernel_rfl)
      · intro w1 h1
        have h1 : Ext _ w1 := h1
        simp only [List.nil_append, List.cons_append, List.map_cons, List.map_nil, Sp.pr, Given]
        rintro _ rfl
        go_wp2_with fail
        exact Post.isv (Ext.refl _) rfl rfl rfl
      apply Stage2.step (Is (.int .i64 x3)) true [false, false, false, false, false, false, false, false, false, false, true] true false (Is.keeps _) (fun _ => Is.keeps _) (by kernel_rfl)
      · intro w1 h1
        have h1 : Ext _ w1 := h1
        simp only [List.nil_append, List.cons_append, List.map_cons, List.map_nil, Sp.pr, Given]
        rintro _ rfl
        have q0 := h1.cell a2
        go_wp2_with fail
        exact Post.isv (Ext.refl _) rfl rfl rfl
      apply Stage2.step (BytT U8 wr.heap.size (G ++ varl x1.toNat ++ varl x3.toNat)) false [false, false, false, false, false, false, true, false, false, false, false, true] true false (BytT.keeps _ _ _) (no_keeps) (by kernel_rfl)
      · intro w1 h1
        have h1 : Ext _ w1 := h1
        simp only [List.nil_append, List.cons_append, List.map_cons, List.map_nil, Sp.pr, Given]
        rintro _ ⟨A5, n5, c5, rfl, h5⟩
        rintro _ rfl
        have l5 : n5 ≤ p + 9 := by
          have := varl_length x1.toNat
          rw [← h5.len, List.length_append, hbG.len]
          omega
        go_wp2_with fail
        refine (ref_Var A5 n5 c5 _ x3 _ h5.sl (by omega) HF.out.2.1.2).mono ?_
        rintro e w2 ⟨A6, n6, c6, rfl, h6, hx6⟩
        go_wp2_with fail
        exact ⟨rfl, rfl, hx6, _, _, _, rfl, h6.low h1.size⟩
      apply Stage2.step (Is _) true [] true false (Is.keeps _) (fun _ => Is.keeps _) (by kernel_rfl)
      · intro w1 h1
        have h1 : Ext _ w1 := h1
        simp only [List.nil_append, List.cons_append, List.map_cons, List.map_nil, Given]
        go_wp2_with fail
        exact Post.isv (Ext.refl _) rfl rfl rfl
      apply Stage2.step (Is _) true [] true false (Is.keeps _) (fun _ => Is.keeps _) (by kernel_rfl)
      · intro w1 h1
        have h1 : Ext _ w1 := h1
        simp only [List.nil_append, List.cons_append, List.map_cons, List.map_nil, Given]
        go_wp2_with fail
        exact Post.isv (Ext.refl _) rfl rfl rfl
      apply Stage2.step (Is _) true [false, false, false, false, false, false, false, false, false, false, false, false, false, true, true] true false (Is.keeps _) (fun _ => Is.keeps _) (by kernel_rfl)
      · intro w1 h1
        have h1 : Ext _ w1 := h1
        simp only [List.nil_append, List.cons_append, List.map_cons, List.map_nil, Sp.pr, Given]
        rintro _ rfl
        rintro _ rfl
        go_wp2_with fail
        exact Post.isv (Ext.refl _) rfl rfl rfl
      apply Stage2.step (Is _) true [false, false, false, false, false, false, false, false, false, false, false, false, false, false, false, true] true false (Is.keeps _) (fun _ => Is.keeps _) (by kernel_rfl)
      · intro w1 h1
        have h1 : Ext _ w1 := h1
        simp only [List.nil_append, List.cons_append, List.map_cons, List.map_nil, Sp.pr, Given]
        rintro _ rfl
        go_wp2_with fail
        exact Post.isv (Ext.refl _) rfl rfl rfl
      apply Stage2.step (Is (.bool x4)) true [false, false, false, false, false, false, false, false, false, false, false, false, false, false, false, false, true] true false (Is.keeps _) (fun _ => Is.keeps _) (by kernel_rfl)
      · intro w1 h1
        have h1 : Ext _ w1 := h1
        simp only [List.nil_append, List.cons_append, List.map_cons, List.map_nil, Sp.pr, Given]
        rintro _ rfl
        have q0 := h1.cell a3
        go_wp2_with fail
        exact Post.isv (Ext.refl _) rfl rfl rfl
      apply Stage2.step (Is (.int .i64 gi)) true [false, false, false, false, false, false, false, false, false, false, false, false, false, false, false, false, false, true] true false (Is.keeps _) (fun _ => Is.keeps _) (by kernel_rfl)
      · intro w1 h1
        have h1 : Ext _ w1 := h1
        simp only [List.nil_append, List.cons_append, List.map_cons, List.map_nil, Sp.pr, Given]
        rintro _ rfl
        have hcb := ref_bit x4 w1
        rw [HGI.out] at hcb
        go_wp2_with fail
        refine hcb.mono ?_
        rintro e _ ⟨rfl, rfl⟩
        go_wp2_with fail
        exact Post.isv (Ext.refl _) rfl rfl rfl
      apply Stage2.step (BytT U8 wr.heap.size (G ++ varl x1.toNat ++ varl x3.toNat ++ varl gi.toNat)) false [false, false, false, false, false, false, false, false, false, false, false, false, true, false, false, false, false, false, true] true false (BytT.keeps _ _ _) (no_keeps) (by kernel_rfl)
      · intro w1 h1
        have h1 : Ext _ w1 := h1
        simp only [List.nil_append, List.cons_append, List.map_cons, List.map_nil, Sp.pr, Given]
        rintro _ ⟨A6, n6, c6, rfl, h6⟩
        rintro _ rfl
        have l6 : n6 ≤ p + 18 := by
          have := varl_length x1.toNat
          have := varl_length x3.toNat
          rw [← h6.len, List.length_append, List.length_append, hbG.len]
          omega
        go_wp2_with fail
        refine (ref_Var A6 n6 c6 _ gi _ h6.sl (by omega) (by omega)).mono ?_
        rintro e w2 ⟨A7, n7, c7, rfl, h7, hx7⟩
        go_wp2_with fail
        exact ⟨rfl, rfl, hx7, _, _, _, rfl, h7.low h1.size⟩
      apply Stage2.step (Is _) true [] true false (Is.keeps _) (fun _ => Is.keeps _) (by kernel_rfl)
      · intro w1 h1
        have h1 : Ext _ w1 := h1
        simp only [List.nil_append, List.cons_append, List.map_cons, List.map_nil, Given]
        go_wp2_with fail
        exact Post.isv (Ext.refl _) rfl rfl rfl
      apply Stage2.step (Is _) true [] true false (Is.keeps _) (fun _ => Is.keeps _) (by kernel_rfl)
      · intro w1 h1
        have h1 : Ext _ w1 := h1
        simp only [List.nil_append, List.cons_append, List.map_cons, List.map_nil, Given]
        go_wp2_with fail
        exact Post.isv (Ext.refl _) rfl rfl rfl
      apply Stage2.step (Is _) true [false, false, false, false, false, false, false, false, false, false, false, false, false, false, false, false, false, false, false, false, true, true] true false (Is.keeps _) (fun _ => Is.keeps _) (by kernel_rfl)
      · intro w1 h1
        have h1 : Ext _ w1 := h1
        simp only [List.nil_append, List.cons_append, List.map_cons, List.map_nil, Sp.pr, Given]
        rintro _ rfl
        rintro _ rfl
        go_wp2_with fail
        exact Post.isv (Ext.refl _) rfl rfl rfl
      apply Stage2.step (Is _) true [false, false, false, false, false, false, false, false, false, false, false, false, false, false, false, false, false, false, false, false, false, false, true] true false (Is.keeps _) (fun _ => Is.keeps _) (by kernel_rfl)
      · intro w1 h1
        have h1 : Ext _ w1 := h1
        simp only [List.nil_append, List.cons_append, List.map_cons, List.map_nil, Sp.pr, Given]
        rintro _ rfl
        go_wp2_with fail
        exact Post.isv (Ext.refl _) rfl rfl rfl
      apply Stage2.step (Is (.string x2)) true [false, false, false, false, false, false, false, false, false, false, false, false, false, false, false, false, false, false, false, false, false, false, false, true] true false (Is.keeps _) (fun _ => Is.keeps _) (by kernel_rfl)
      · intro w1 h1
        have h1 : Ext _ w1 := h1
        simp only [List.nil_append, List.cons_append, List.map_cons, List.map_nil, Sp.pr, Given]
        rintro _ rfl
        have q0 := h1.cell a1
        go_wp2_with fail
        exact Post.isv (Ext.refl _) rfl rfl rfl
      apply Stage2.step (BytT U8 wr.heap.size (G ++ varl x1.toNat ++ varl x3.toNat ++ varl gi.toNat ++ varl x2.size ++ x2.data.toList)) false [false, false, false, false, false, false, false, false, false, false, false, false, false, false, false, false, false, false, false, true, false, false, false, false, true] true false (BytT.keeps _ _ _) (no_keeps) (by kernel_rfl)
      · intro w1 h1
        have h1 : Ext _ w1 := h1
        simp only [List.nil_append, List.cons_append, List.map_cons, List.map_nil, Sp.pr, Given]
        rintro _ ⟨A7, n7, c7, rfl, h7⟩
        rintro _ rfl
        have l7 : n7 ≤ p + 27 := by
          have := varl_length x1.toNat
          have := varl_length x3.toNat
          have := varl_length gi.toNat
          rw [← h7.len, List.length_append, List.length_append, List.length_append, hbG.len]
          omega
        go_wp2_with fail
        refine (ref_Text A7 n7 c7 _ x2 _ h7.sl (by omega) (by omega)).mono ?_
        rintro e w2 ⟨A8, n8, c8, rfl, h8, hx8⟩
        go_wp2_with fail
        exact ⟨rfl, rfl, hx8, _, _, _, rfl, h8.low h1.size⟩
      apply Stage2.step (BytT U8 wr.heap.size (G ++ varl x1.toNat ++ varl x3.toNat ++ varl gi.toNat ++ varl x2.size ++ x2.data.toList)) false [false, false, false, false, false, false, false, false, false, false, false, false, false, false, false, false, false, false, false, false, false, false, false, false, false, true] true false (BytT.keeps _ _ _) (no_keeps) (by kernel_rfl)
      · intro w1 h1
        have h1 : Ext _ w1 := h1
        simp only [List.nil_append, List.cons_append, List.map_cons, List.map_nil, Sp.pr, Given]
        rintro v hcp
        go_wp2_with fail
        exact ⟨rfl, rfl, Ext.refl _, hcp⟩
      apply Stage2.nil [true, true, true, true, true, true, true, true, true, true, true, true, true, true, true, true, true, true, true, true, true, true, true, true, true, true, true] (by kernel_rfl)
      intro w1 h1
      have h1 : (Ext) _ w1 := h1
      simp only [List.nil_append, List.cons_append, List.map_cons, List.map_nil, Sp.pr]
      refine Fin2.is_ ?_
      refine Fin2.is_ ?_
      refine Fin2.is_ ?_
      refine Fin2.is_ ?_
      refine Fin2.is_ ?_
      refine Fin2.is_ ?_
      refine Fin2.step_ ?_
      rintro _ ⟨A5, n5, c5, rfl, h5⟩
      refine Fin2.is_ ?_
      refine Fin2.is_ ?_
      refine Fin2.is_ ?_
      refine Fin2.is_ ?_
      refine Fin2.is_ ?_
      refine Fin2.step_ ?_
      rintro _ ⟨A6, n6, c6, rfl, h6⟩
      refine Fin2.is_ ?_
      refine Fin2.is_ ?_
      refine Fin2.is_ ?_
      refine Fin2.is_ ?_
      refine Fin2.is_ ?_
      refine Fin2.is_ ?_
      refine Fin2.step_ ?_
      rintro _ ⟨A7, n7, c7, rfl, h7⟩
      refine Fin2.is_ ?_
      refine Fin2.is_ ?_
      refine Fin2.is_ ?_
      refine Fin2.is_ ?_
      refine Fin2.is_ ?_
      refine Fin2.step_ ?_
      rintro _ ⟨A8, n8, c8, rfl, h8⟩
      refine Fin2.step_ ?_
      rintro _ ⟨A8, n8, c8, rfl, h8⟩
      refine Fin2.nil_ ?_
      go_simp
      have HH : Hid (b ++ varl m ++ mksBs (xs.take (k + 1)) = G ++ varl x1.toNat ++ varl x3.toNat ++ varl gi.toNat ++ varl x2.size ++ x2.data.toList) := by
        unfold Hid
        rw [HNX.out, HP.out]
        simp
      have hl8 : n8 ≤ n + 9 + 49 * (k + 1) := by
        have := varl_length x1.toNat
        have := varl_length x3.toNat
        have := varl_length gi.toNat
        have := varl_length x2.size
        have h9 := size_list x2
        have h8l := h8.len
        simp only [List.length_append, hbG.len, h9] at h8l
        omega
      go_wp2_with fail
      go_roundw
      case rel => exact ⟨k + 1, A8, n8, c8, _, by omega, rfl, by go_num, h8.low hxr.size, HH, hl8, hxr.trans h1⟩
      case measure => simp [intOf]; omega
    · obtain rfl : k = m := by omega
      have hG1 := hG.out
      rw [List.take_of_length_le (by rw [hl.len]; exact Nat.le_refl _)] at hG1
      obtain rfl : G = L := by rw [← hG1, ← hL.out, hl.len, List.append_assoc]
      clear hG1 hG hL
      go_wp2_with fail
      go_ret
      exact ⟨_, _, _, rfl, hbG, hxr⟩
end Go.Proofs.Ytoeknbogaclfdaa

namespace Go.Proofs.Ytoeknbogaclfdaa
open Go.RowKit
set_option linter.unusedVariables false
set_option linter.unusedSimpArgs false
set_option linter.unnecessarySimpa false
set_option maxRecDepth 100000
def whyO (c : Option (List UInt8)) (s : Bool) : Int := if c.isSome = true then (if s = true then 0 else 2) else 13
theorem gtO_len {l : List UInt8} {a most : Int} {p : List UInt8 × Int} (h : gtO l a most = some p) (hm : 0 ≤ most) : (p.1.length : Int) ≤ most := by
  unfold gtO at h
  obtain ⟨q, h1, h2⟩ := Option.bind_eq_some_iff.1 h
  split at h2
  · rename_i hq
    injection h2 with h2
    subst h2
    have := hq.1
    simp only [List.length_take]
    omega
  · cases h2
theorem mkG_short {rf : Bool} {b : List UInt8} {a d : Int} {x : Mk} (h : mkG rf b a = some (x, d)) : x.nm.size ≤ 20 := by
  unfold mkG at h
  obtain ⟨p, h1, h2⟩ := Option.bind_eq_some_iff.1 h
  split at h2
  · cases h2
  · obtain ⟨q, h3, h4⟩ := Option.map_eq_some_iff.1 h2
    have hl := gtO_len h3 (by unfold mostG; split <;> omega)
    injection h4 with h4 h5
    subst h4
    have : mostG rf ≤ 20 := by unfold mostG; split <;> omega
    show (⟨q.1.toArray⟩ : ByteArray).size ≤ 20
    simp only [ByteArray.size, List.size_toArray]
    omega
theorem mksG_short {rf : Bool} : ∀ (f : Nat) (b : List UInt8) (a : Int) (p : List Mk × Int), mksG rf f b a = some p → p.1.length = f ∧ ∀ x ∈ p.1, x.nm.size ≤ 20
  | 0, b, a, p, h => by
    simp [mksG] at h
    subst h
    simp
  | f + 1, b, a, p, h => by
    rw [mksG] at h
    obtain ⟨q, h1, h2⟩ := Option.bind_eq_some_iff.1 h
    obtain ⟨r, h3, h4⟩ := Option.map_eq_some_iff.1 h2
    obtain ⟨i1, i2⟩ := mksG_short f b _ r h3
    have hx := mkG_short (x := q.1) (d := q.2) h1
    subst h4
    refine ⟨by simp [i1], fun y hy => ?_⟩
    rcases List.mem_cons.1 hy with rfl | hy
    · exact hx
    · exact i2 y hy
theorem mksO_short {rf : Bool} {b : List UInt8} {a : Int} {p : List Mk × Int} (h : mksO rf b a = some p) : p.1.length ≤ 17 ∧ ∀ x ∈ p.1, x.nm.size ≤ 20 := by
  unfold mksO at h
  split at h
  · rename_i hc
    obtain ⟨h1, h2⟩ := mksG_short _ _ _ _ h
    exact ⟨by omega, h2⟩
  · cases h
end Go.Proofs.Ytoeknbogaclfdaa

namespace Go.Proofs.Ytoeknbogaclfdaa
open Go.RowKit
set_option linter.unusedVariables false
set_option linter.unusedSimpArgs false
set_option linter.unnecessarySimpa false
set_option maxRecDepth 100000
set_option maxHeartbeats 4000000 in
theorem msg_info {A : Option Addr} {n c : Nat} {b : List UInt8} {a : Int} {w : World} (hb : Sl w A n c b) (hn6 : n ≤ 1000000) {o : Option (List Mk × Int)} (ho : Hid (mksO false b a = o)) :
    Calls Try.prog 87 #[.slice A n c, .int .i64 a] w fun e w' => ∃ A' n' c', e = .returned (.tuple #[.slice A' n' c', .bool o.isSome]) ∧ OwnL TMk 4 mkR w' w.heap.size A' n' c' ((o.map Prod.fst).getD []) ∧ Ext w w' := by
  have h63 := hb.n63
  obtain ⟨i0, hi0, hz0, hz1, hz2⟩ := info_parts info_mk
  have ho1 := ho.out
  unfold mksO at ho1
  obtain ⟨X, hX⟩ : ∃ q, gvA b a = q := ⟨_, rfl⟩
  obtain ⟨Y, hY⟩ : ∃ q, gvB b a = q := ⟨_, rfl⟩
  obtain ⟨Z, hZ⟩ : ∃ q, gvC b a = q := ⟨_, rfl⟩
  have HV := Lib.hid (And.intro hX (And.intro hY hZ))
  have hX0 : 0 ≤ X := by rw [← hX]; exact gvA_pos b a
  rw [hX, hY, hZ] at ho1
  clear hX hY hZ ho
  cases Z with
  | false =>
    obtain rfl : none = o := by rw [← ho1]; rfl
    clear ho1
    go_enter Try.func87, Try.ntmps87
    go_wp2_with fail
    refine (bits_GetVar_h hb HV).mono ?_
    rintro e _ ⟨rfl, rfl⟩
    go_wp2_with fail
    go_ret2
    exact ⟨_, _, _, rfl, OwnL.nil _ _ _ _, Ext.refl _⟩
  | true =>
  obtain ⟨N, rfl⟩ := Int.eq_ofNat_of_zero_le hX0
  by_cases hN : 17 < N
  · have d4 : decide ((17 : Int) < (N : Int)) = true := by simp; omega
    rw [if_neg (by rintro ⟨_, e⟩; omega)] at ho1
    obtain rfl : none = o := ho1
    go_enter Try.func87, Try.ntmps87
    go_wp2_with fail
    refine (bits_GetVar_h hb HV).mono ?_
    rintro e _ ⟨rfl, rfl⟩
    go_wp2_with fail
    go_ret2
    exact ⟨_, _, _, rfl, OwnL.nil _ _ _ _, Ext.refl _⟩
  have d4 : decide ((17 : Int) < (N : Int)) = false := by simp; omega
  rw [if_pos ⟨rfl, by omega⟩, Int.toNat_natCast] at ho1
  have HO : Hid ((mksG false (N - 0) b Y).map (fun q => (([] : List Mk) ++ q.1, q.2)) = o) := by
    unfold Hid
    rw [← ho1]
    simp
  clear ho1 hX0
  go_enter Try.func87, Try.ntmps87
  go_wp2_with fail
  refine (bits_GetVar_h hb HV).mono ?_
  rintro e _ ⟨rfl, rfl⟩
  go_wp2_with fail
  go_loopw [1, 7, 8, 27] (fun av okv v i wr => ∃ (k : Nat) (d : Int) (ok : Bool) (Ao : Option Addr) (co : Nat) (out : List Mk), k ≤ N ∧ av = .int .i64 d ∧ okv = .bool ok ∧ v = .slice Ao k co ∧ i = .int .i64 k ∧ OwnL TMk 4 mkR wr w.heap.size Ao k co out ∧ Hid ((mksG false (N - k) b d).map (fun q => (out ++ q.1, q.2)) = o) ∧ Ext w wr) (fun _ _ _ i _ => N - (intOf i).toNat)
  case atStart => exact ⟨0, Y, true, none, 0, [], by omega, rfl, rfl, rfl, rfl, OwnL.nil _ _ _ _, HO, Ext.refl _⟩
  case round =>
    clear HO
    obtain ⟨k, d, ok, Ao, co, out, hk, rfl, rfl, rfl, rfl, hown, hrk, hxr⟩ := hrel
    by_cases hlt : k < N
    · have hrow := hown.row_lt
      have hbr := hb.ext hxr
      obtain ⟨om, hom⟩ : ∃ q, mkG false b d = q := ⟨_, rfl⟩
      have HOM := Lib.hid hom
      have hnext : ∀ x d', om = some (x, d') → (mksG false (N - (k + 1)) b d').map (fun q => ((out ++ [x]) ++ q.1, q.2)) = o := fun x d' e => mks_next hrk.out hlt (by rw [hom, e])
      have hstop : om = none → o = none := fun e => mks_stop hrk.out hlt (by rw [hom, e])
      have HNX := Lib.hid (And.intro hnext hstop)
      clear hnext hstop hrk hom
      obtain ⟨W, hW⟩ : ∃ W, W = wr := ⟨_, rfl⟩
      rw [← hW] at hown hxr hrow hbr
      have hsr := hxr.size
      go_wp2_with fail
      rw [← hW]
      clear hW
      go_loopw [1, 7, 32] (fun av okv jv ws => ∃ (j : Nat) (d2 y0 y1 y2 : Int) (ok2 : Bool), j ≤ 3 ∧ av = .int .i64 d2 ∧ okv = .bool ok2 ∧ jv = .int .i64 j ∧ ws = (W.alloc (.cells #[.int .i64 y0, .string ⟨#[]⟩, .int .i64 y1, .bool false] TMk)).alloc (.cells #[.int .i64 y2] INT) ∧ Hid (atN b d j = d2) ∧ Hid ((0 < j → y0 = gvA b (atN b d 0) ∧ gvC b (atN b d 0) = true) ∧ (1 < j → y1 = gvA b (atN b d 1) ∧ gvC b (atN b d 1) = true) ∧ (2 < j → y2 = gvA b (atN b d 2) ∧ gvC b (atN b d 2) = true))) (fun _ _ j _ => 3 - (intOf j).toNat)
      case atStart => exact ⟨0, d, 0, 0, 0, ok, by omega, rfl, rfl, rfl, rfl, rfl, by simp [Hid]⟩
      case round =>
        obtain ⟨j, d2, y0, y1, y2, ok2, hj, rfl, rfl, rfl, rfl, hd, hy⟩ := hrel
        have hj5 : j = 0 ∨ j = 1 ∨ j = 2 ∨ j = 3 := by omega
        rcases hj5 with rfl | rfl | rfl | rfl
        · have ix : ∀ w, (Instr.index 135 (.agg #[.pointer (some ⟨W.heap.size, 0, none⟩), .pointer (some ⟨W.heap.size, 2, none⟩), .pointer (some ⟨W.heap.size + 1, 0, none⟩)]) (.int .i64 0)).run Try.prog w = .ok (.pointer (some ⟨W.heap.size, 0, none⟩)) w := fun _ => by kernel_rfl
          obtain ⟨X, hX⟩ : ∃ q, gvA b d2 = q := ⟨_, rfl⟩
          obtain ⟨Y', hY⟩ : ∃ q, gvB b d2 = q := ⟨_, rfl⟩
          obtain ⟨Z, hZ⟩ : ∃ q, gvC b d2 = q := ⟨_, rfl⟩
          have HV2 := Lib.hid (And.intro hX (And.intro hY hZ))
          clear hX hY hZ
          cases Z with
          | false =>
            obtain rfl : none = o := by
              refine (HNX.out.2 ?_).symm
              rw [← HOM.out]
              exact mkG_none (nums3_no (j := 0) (by omega) (by rw [hd.out]; exact HV2.out.2.2))
            clear hd hy HNX
            go_wp2_with fail
            refine (bits_GetVar_h (hbr.ext ((Ext.alloc _ _).allocs _)) HV2).mono ?_
            rintro e _ ⟨rfl, rfl⟩
            go_wp2_with fail
            go_ret2
            refine ⟨_, _, _, rfl, OwnL.nil _ _ _ _, ?_⟩
            (repeat (first | (with_reducible exact Ext.refl _) | (with_reducible assumption) | (with_reducible refine Ext.draws ?_) | (with_reducible refine Ext.allocs ?_ _) | (with_reducible refine Ext.sets ?_ ?_ _) | (with_reducible exact Nat.le_refl _) | (exact (by simp)) | (exact (by simp; omega))))
          | true =>
            have HD : Hid (atN b d 1 = Y') := by
              unfold Hid
              rw [← HV2.out.2.1, ← hd.out]
              rfl
            have hdx := hd.out
            have h1x := HV2.out
            have HY : Hid (X = gvA b (atN b d 0) ∧ gvC b (atN b d 0) = true) := by
              unfold Hid
              rw [hdx, h1x.1]
              exact ⟨rfl, h1x.2.2⟩
            clear hdx h1x
            go_wp2_with fail
            refine (bits_GetVar_h (hbr.ext ((Ext.alloc _ _).allocs _)) HV2).mono ?_
            rintro e _ ⟨rfl, rfl⟩
            go_wp2_with fail
            go_roundw
            case rel => exact ⟨1, Y', X, y1, y2, true, by omega, rfl, rfl, rfl, rfl, HD, ⟨fun _ => HY.out, fun h => by omega, fun h => by omega⟩⟩
            case measure => simp [intOf]
        · have ix : ∀ w, (Instr.index 135 (.agg #[.pointer (some ⟨W.heap.size, 0, none⟩), .pointer (some ⟨W.heap.size, 2, none⟩), .pointer (some ⟨W.heap.size + 1, 0, none⟩)]) (.int .i64 1)).run Try.prog w = .ok (.pointer (some ⟨W.heap.size, 2, none⟩)) w := fun _ => by kernel_rfl
          obtain ⟨X, hX⟩ : ∃ q, gvA b d2 = q := ⟨_, rfl⟩
          obtain ⟨Y', hY⟩ : ∃ q, gvB b d2 = q := ⟨_, rfl⟩
          obtain ⟨Z, hZ⟩ : ∃ q, gvC b d2 = q := ⟨_, rfl⟩
          have HV2 := Lib.hid (And.intro hX (And.intro hY hZ))
          clear hX hY hZ
          cases Z with
          | false =>
            obtain rfl : none = o := by
              refine (HNX.out.2 ?_).symm
              rw [← HOM.out]
              exact mkG_none (nums3_no (j := 1) (by omega) (by rw [hd.out]; exact HV2.out.2.2))
            clear hd hy HNX
            go_wp2_with fail
            refine (bits_GetVar_h (hbr.ext ((Ext.alloc _ _).allocs _)) HV2).mono ?_
            rintro e _ ⟨rfl, rfl⟩
            go_wp2_with fail
            go_ret2
            refine ⟨_, _, _, rfl, OwnL.nil _ _ _ _, ?_⟩
            (repeat (first | (with_reducible exact Ext.refl _) | (with_reducible assumption) | (with_reducible refine Ext.draws ?_) | (with_reducible refine Ext.allocs ?_ _) | (with_reducible refine Ext.sets ?_ ?_ _) | (with_reducible exact Nat.le_refl _) | (exact (by simp)) | (exact (by simp; omega))))
          | true =>
            have HD : Hid (atN b d 2 = Y') := by
              unfold Hid
              rw [← HV2.out.2.1, ← hd.out]
              rfl
            have hdx := hd.out
            have h1x := HV2.out
            have HY : Hid (X = gvA b (atN b d 1) ∧ gvC b (atN b d 1) = true) := by
              unfold Hid
              rw [hdx, h1x.1]
              exact ⟨rfl, h1x.2.2⟩
            clear hdx h1x
            go_wp2_with fail
            refine (bits_GetVar_h (hbr.ext ((Ext.alloc _ _).allocs _)) HV2).mono ?_
            rintro e _ ⟨rfl, rfl⟩
            go_wp2_with fail
            go_roundw
            case rel => exact ⟨2, Y', y0, X, y2, true, by omega, rfl, rfl, rfl, rfl, HD, ⟨fun _ => hy.out.1 (by omega), fun _ => HY.out, fun h => by omega⟩⟩
            case measure => simp [intOf]
        · have ix : ∀ w, (Instr.index 135 (.agg #[.pointer (some ⟨W.heap.size, 0, none⟩), .pointer (some ⟨W.heap.size, 2, none⟩), .pointer (some ⟨W.heap.size + 1, 0, none⟩)]) (.int .i64 2)).run Try.prog w = .ok (.pointer (some ⟨W.heap.size + 1, 0, none⟩)) w := fun _ => by kernel_rfl
          obtain ⟨X, hX⟩ : ∃ q, gvA b d2 = q := ⟨_, rfl⟩
          obtain ⟨Y', hY⟩ : ∃ q, gvB b d2 = q := ⟨_, rfl⟩
          obtain ⟨Z, hZ⟩ : ∃ q, gvC b d2 = q := ⟨_, rfl⟩
          have HV2 := Lib.hid (And.intro hX (And.intro hY hZ))
          clear hX hY hZ
          cases Z with
          | false =>
            obtain rfl : none = o := by
              refine (HNX.out.2 ?_).symm
              rw [← HOM.out]
              exact mkG_none (nums3_no (j := 2) (by omega) (by rw [hd.out]; exact HV2.out.2.2))
            clear hd hy HNX
            go_wp2_with fail
            refine (bits_GetVar_h (hbr.ext ((Ext.alloc _ _).allocs _)) HV2).mono ?_
            rintro e _ ⟨rfl, rfl⟩
            go_wp2_with fail
            go_ret2
            refine ⟨_, _, _, rfl, OwnL.nil _ _ _ _, ?_⟩
            (repeat (first | (with_reducible exact Ext.refl _) | (with_reducible assumption) | (with_reducible refine Ext.draws ?_) | (with_reducible refine Ext.allocs ?_ _) | (with_reducible refine Ext.sets ?_ ?_ _) | (with_reducible exact Nat.le_refl _) | (exact (by simp)) | (exact (by simp; omega))))
          | true =>
            have HD : Hid (atN b d 3 = Y') := by
              unfold Hid
              rw [← HV2.out.2.1, ← hd.out]
              rfl
            have hdx := hd.out
            have h1x := HV2.out
            have HY : Hid (X = gvA b (atN b d 2) ∧ gvC b (atN b d 2) = true) := by
              unfold Hid
              rw [hdx, h1x.1]
              exact ⟨rfl, h1x.2.2⟩
            clear hdx h1x
            go_wp2_with fail
            refine (bits_GetVar_h (hbr.ext ((Ext.alloc _ _).allocs _)) HV2).mono ?_
            rintro e _ ⟨rfl, rfl⟩
            go_wp2_with fail
            go_roundw
            case rel => exact ⟨3, Y', y0, y1, X, true, by omega, rfl, rfl, rfl, rfl, HD, ⟨fun _ => hy.out.1 (by omega), fun _ => hy.out.2.1 (by omega), fun _ => HY.out⟩⟩
            case measure => simp [intOf]
        · have hyx := hy.out
          have hn3 := nums3_yes (hyx.1 (by omega)).2 (hyx.2.1 (by omega)).2 (hyx.2.2 (by omega)).2
          rw [hd.out, ← (hyx.1 (by omega)).1, ← (hyx.2.1 (by omega)).1, ← (hyx.2.2 (by omega)).1] at hn3
          have ho1 := HOM.out
          unfold mkG at ho1
          rw [hn3, Option.bind_some] at ho1
          simp only [Bool.false_eq_true, false_and, if_false] at ho1
          rw [show mostG false = 13 from rfl] at ho1
          obtain ⟨ta, hta⟩ : ∃ q, (⟨(gtA b d2 13).toArray⟩ : ByteArray) = q := ⟨_, rfl⟩
          obtain ⟨tb, htb⟩ : ∃ q, gtB b d2 13 = q := ⟨_, rfl⟩
          obtain ⟨tc, htc⟩ : ∃ q, gtC b d2 13 = q := ⟨_, rfl⟩
          have HG := Lib.hid (And.intro hta (And.intro htb htc))
          obtain ⟨g, hg⟩ : ∃ g, decide (y2 = 1) = g := ⟨_, rfl⟩
          have hgb : (y2 == 1) = g := by rw [← hg]; by_cases h : y2 = 1 <;> simp [h]
          cases tc with
          | false =>
            rw [gtO_none htc] at ho1
            obtain rfl : none = o := (HNX.out.2 ho1.symm).symm
            clear hyx hy hd hn3 ho1 hta htb htc hg HNX
            go_wp2_with fail
            refine (bits_GetText_h (hbr.ext ((Ext.alloc _ _).allocs _)) hn6 HG).mono ?_
            rintro e _ ⟨rfl, rfl⟩
            go_wp2_with fail
            go_ret2
            refine ⟨_, _, _, rfl, OwnL.nil _ _ _ _, ?_⟩
            (repeat (first | (with_reducible exact Ext.refl _) | (with_reducible assumption) | (with_reducible refine Ext.draws ?_) | (with_reducible refine Ext.allocs ?_ _) | (with_reducible refine Ext.sets ?_ ?_ _) | (with_reducible exact Nat.le_refl _) | (exact (by simp)) | (exact (by simp; omega))))
          | true =>
            rw [gtO_some htc] at ho1
            have hom2 : om = some (⟨y0, ta, y1, g⟩, tb) := by
              rw [← ho1]
              simp only [Option.map_some, mkOf, List.getD_cons_zero, List.getD_cons_succ, hta, hg, htb]
            have HN := Lib.hid (HNX.out.1 _ _ hom2)
            clear hyx hy hd hn3 ho1 hta htb htc hg HNX hom2
            go_wp2_with fail
            refine (bits_GetText_h (hbr.ext ((Ext.alloc _ _).allocs _)) hn6 HG).mono ?_
            rintro e _ ⟨rfl, rfl⟩
            have hx5 : Ext w ((W.alloc (.cells #[.int .i64 y0, .string ta, .int .i64 y1, .bool g] TMk)).alloc (.cells #[.int .i64 y2] INT)) := (hxr.allocs _).allocs _
            have hown5 := ((hown.ext mk_rep (Ext.alloc W (.cells #[.int .i64 y0, .string ta, .int .i64 y1, .bool g] TMk))).ext mk_rep (Ext.alloc _ (.cells #[.int .i64 y2] INT)))
            have lit := (mk_lit ((W.alloc (.cells #[.int .i64 y0, .string ta, .int .i64 y1, .bool g] TMk)).alloc (.cells #[.int .i64 y2] INT)) ⟨y0, ta, y1, g⟩).lst
            rw [show ((W.alloc (.cells #[.int .i64 y0, .string ta, .int .i64 y1, .bool g] TMk)).alloc (.cells #[.int .i64 y2] INT)).heap.size = W.heap.size + 2 by simp] at lit
            go_wp2_with (
              at_builtin
              refine wpList_append_flat (w0 := w) mk_rep (fun x cs w h => mk_nop h) rfl _ _ _ _ rfl TMk TMk i0 _ 40 under_mks under_mks hi0 hz0 hz1 hz2 rfl Ao k co out rfl (hown5.ext mk_rep (Ext.alloc _ _)) _ 1 1 [⟨y0, ta, y1, g⟩] rfl lit (k + 1) rfl _ rfl (by simp only [maxLen]; omega) (by omega) (hx5.allocs _) ?_
              intro A6 c6 w6 hb6 hx6)
            go_wp2_with fail
            go_roundw
            case rel => exact ⟨k + 1, tb, true, A6, c6, _, by omega, rfl, rfl, rfl, by go_num, hb6, HN, hx6⟩
            case measure => simp [intOf]; omega
    · obtain rfl : k = N := by omega
      have hr1 := hrk.out
      rw [Nat.sub_self] at hr1
      obtain rfl : some (out, d) = o := by rw [← hr1]; simp [mksG]
      clear hrk hr1
      go_wp2_with fail
      go_ret2
      exact ⟨_, _, _, rfl, hown, hxr⟩
end Go.Proofs.Ytoeknbogaclfdaa
