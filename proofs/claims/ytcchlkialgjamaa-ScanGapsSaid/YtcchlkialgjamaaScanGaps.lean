/-
  Chapter 11: the statement ScanGaps, walked.
-/
import Derived.Test.YtcchlkialgjamaaScanLaw
import Derived.Test.YtcchlkialgjamaaScanRows
import Derived.Test.YtcchlkialgjamaaDealt2
import Derived.Test.YtcchlkialgjamaaMask
import Derived.Test.YtcchlkialgjamaaCutL
import Derived.Test.YtcchlkialgjamaaRwsT
namespace Go.Proofs.Ytcchlkialgjamaa
open Go.RowKit
set_option linter.unusedVariables false
set_option linter.unusedSimpArgs false
set_option linter.unnecessarySimpa false
set_option maxRecDepth 100000

theorem gap_short {N : Nat} {a b : List (List UInt8)} {s : Int} (ha : a.length ≤ 60) (hb : b.length ≤ 60) : ShortF (rowsOf N (gapE s a b)) := fun r hr => by
  obtain ⟨j, hj⟩ := List.getElem?_of_mem hr
  have := rowsOf_small hj (fun x hx => by
    rcases List.mem_append.1 hx with hx | hx
    · exact ensF_small x hx
    · exact ensF_small x hx)
  unfold gapE at this
  rw [List.length_append, ensF_len, ensF_len] at this
  omega
set_option maxHeartbeats 4000000 in
theorem law_ScanGaps (A : Option Addr) (n c : Nat) (data : List (List UInt8)) (a1 a2 a3 : Int) (w : World) (hl : Lst 1 blR w A n c data) :
    Calls Try.prog 10 #[.slice A n c, .int .i64 a1, .int .i64 a2, .int .i64 a3] w fun e w' => e = .returned (.bool true) ∧ Ext w w' := by
  have h63 := hl.n63
  obtain ⟨res, hres⟩ : ∃ q, fewB data = q := ⟨_, rfl⟩
  have HR := Lib.hid hres
  cases res with
  | false =>
    clear hres
    go_enter Try.func10, Try.ntmps10
    go_wp2_with fail
    refine (law11_few hl HR).mono ?_
    rintro e u1 ⟨rfl, hx1⟩
    go_wp2_with fail
    refine (law11_known u1).mono ?_
    rintro e u2 ⟨rfl, hx2⟩
    go_wp2_with fail
    go_ret
    exact ⟨rfl, hx1.trans hx2⟩
  | true =>
  by_cases hn0 : n = 0
  · subst hn0
    clear hres
    go_enter Try.func10, Try.ntmps10
    go_wp2_with fail
    refine (law11_few hl HR).mono ?_
    rintro e u1 ⟨rfl, hx1⟩
    go_wp2_with fail
    refine (law11_known u1).mono ?_
    rintro e u2 ⟨rfl, hx2⟩
    go_wp2_with fail
    go_ret
    exact ⟨rfl, hx1.trans hx2⟩
  have hn : n ≤ 40 := by have := (fewB_iff.1 hres).2.1; rw [hl.len] at this; exact this
  have hdl := hl.len
  obtain ⟨s0, hs0, hs0b⟩ : ∃ p : Nat, bits BinOp.and IntKind.i64 a1 65535 = (p : Int) ∧ p ≤ 65535 := ⟨(a1 % 65536).toNat, by rw [and65535]; omega, by omega⟩
  obtain ⟨N0, hN0, hN0b⟩ : ∃ p : Nat, bits BinOp.and IntKind.i64 a2 3 = (p : Int) ∧ p ≤ 3 := ⟨(a2 % 4).toNat, by rw [and3]; omega, by omega⟩
  obtain ⟨k0, hk0, hk0b⟩ : ∃ p : Nat, bits BinOp.and IntKind.i64 a3 255 = (p : Int) ∧ p ≤ 255 := ⟨(a3 % 256).toNat, by rw [and255]; omega, by omega⟩
  obtain ⟨s, hs⟩ : ∃ s, s = s0 + 1 := ⟨_, rfl⟩
  obtain ⟨N, hN⟩ : ∃ N, N = N0 + 1 := ⟨_, rfl⟩
  have hs1 : 1 + (s0 : Int) = (s : Int) := by omega
  have hN1 : 1 + (N0 : Int) = (N : Int) := by omega
  have hsb : 1 ≤ s ∧ s ≤ 65536 := by omega
  have hNb : 1 ≤ N ∧ N ≤ 4 := by omega
  obtain ⟨k, hk, hkn⟩ : ∃ k : Nat, (k0 : Int) % (n : Int) = (k : Int) ∧ k < n := ⟨k0 % n, by simp, Nat.mod_lt _ (by omega)⟩
  obtain ⟨m, hm⟩ : ∃ m, k + 1 + m = n := ⟨n - (k + 1), by omega⟩
  obtain ⟨i0, hi0, hz0, hz1, hz2⟩ := info_parts info_row
  obtain ⟨iu, hiu, hu0, hu1, hu2⟩ := info_parts info_u8
  obtain ⟨hcut1, hl1⟩ := cutL_upto (t := 48) bl_rep under_rows hi0 hz1 hl k (k : Int) rfl (by omega)
  obtain ⟨Ac, cc, hcut2, hl2⟩ := cutL_from (t := 48) bl_rep under_rows hi0 hz1 hl (k + 1) m ((k : Int) + 1) (by omega) hm
  obtain ⟨da, hda⟩ : ∃ q, data.take k = q := ⟨_, rfl⟩
  obtain ⟨db, hdb⟩ : ∃ q, data.drop (k + 1) = q := ⟨_, rfl⟩
  have hdal : da.length = k := by rw [← hda, List.length_take]; omega
  have hdbl : db.length = m := by rw [← hdb, List.length_drop]; omega
  rw [hda] at hl1
  rw [hdb] at hl2
  have hM1 := gap_ahead (a := da) (b := db) (s := (s : Int)) (N := N) (by omega) (by omega) (by omega) (by omega) (by omega)
  have hM2 := gap_behind (a := da) (b := db) (s := (s : Int)) (N := N) (by omega) (by omega) (by omega) (by omega) (by omega)
  have hM3 := gap_none (a := da) (b := db) (s := (s : Int)) (N := N) (by omega) (by omega) (by omega) (by omega) (by omega)
  have hT := gap_torn (a := da) (b := db) (s := (s : Int)) (N := N) (by omega) (by omega) (by omega) (by omega) (by omega)
  have hSH := gap_short (N := N) (a := da) (b := db) (s := (s : Int)) (by omega) (by omega)
  have hmore := fun (j : Nat) (r q : List UInt8) => rowsOf_more (N := N) (ensF (s : Int) da) (ensF ((s : Int) + (da.length : Nat) + 1) db) (j := j) (r := r) (q := q)
  have hsm1 := fun (j : Nat) (r : List UInt8) (q : (rowsOf N (ensF (s : Int) da))[j]? = some r) => rowsOf_small q ensF_small
  have hsm2 := fun (j : Nat) (r : List UInt8) (q : (rowsOf N (ensF ((s : Int) + (da.length : Nat) + 1) db))[j]? = some r) => rowsOf_small q ensF_small
  rw [show ensF (s : Int) da ++ ensF ((s : Int) + (da.length : Nat) + 1) db = gapE (s : Int) da db from rfl] at hmore
  rw [ensF_len] at hsm1 hsm2
  have hE2 := ensF_len db ((s : Int) + (da.length : Nat) + 1)
  have hE1 := ensF_len da (s : Int)
  rw [hdal] at hM2 hM3 hT hmore hsm1 hsm2 hE2 hE1
  rw [hdbl] at hT hsm2 hE2
  obtain ⟨t2, ht2⟩ : ∃ t2, s + k + 1 = t2 := ⟨_, rfl⟩
  have ht2I : (s : Int) + (k : Int) + 1 = (t2 : Int) := by omega
  rw [ht2I] at hM2 hmore hsm2 hE2
  obtain ⟨L1, hL1⟩ : ∃ q, ensF (s : Int) da = q := ⟨_, rfl⟩
  obtain ⟨L2, hL2⟩ : ∃ q, ensF (t2 : Int) db = q := ⟨_, rfl⟩
  obtain ⟨R1, hR1⟩ : ∃ q, rowsOf N (ensF (s : Int) da) = q := ⟨_, rfl⟩
  obtain ⟨R2, hR2⟩ : ∃ q, rowsOf N (ensF (t2 : Int) db) = q := ⟨_, rfl⟩
  obtain ⟨RR, hRR⟩ : ∃ q, rowsOf N (gapE (s : Int) da db) = q := ⟨_, rfl⟩
  have hRl : RR.length = N := by rw [← hRR]; exact rowsOf_len _ _
  have hR1l : R1.length = N := by rw [← hR1]; exact rowsOf_len _ _
  rw [hRR] at hM1 hM2 hM3 hT hSH hmore
  rw [hR1] at hmore hsm1
  rw [hR2] at hmore hsm2
  rw [hL1] at hM1 hE1
  rw [hL2] at hM2 hE2
  have HR1 := Lib.hid hR1
  have HR2 := Lib.hid hR2
  have HM1 := Lib.hid hM1
  have HM2 := Lib.hid hM2
  have HM3 := Lib.hid hM3
  have HT := Lib.hid hT
  have HSH := Lib.hid hSH
  have HMORE := Lib.hid hmore
  have HS1 := Lib.hid hsm1
  have HS2 := Lib.hid hsm2
  have HE1 := Lib.hid hE1
  have HE2 := Lib.hid hE2
  have HRL := Lib.hid hRl
  have HR1L := Lib.hid hR1l
  clear hres hM1 hM2 hM3 hT hSH hmore hsm1 hsm2 hE1 hE2 hL1 hL2 hR1 hR2 hRR hRl hR1l hs hN hdl hda hdb ht2 hdal hdbl
  have hmI : (n : Int) - (k : Int) - 1 = (m : Int) := by omega
  have hn1 : ((n : Int) == 0) = false := by simp; omega
  have ht2b : t2 ≤ 70000 := by omega
  go_enter Try.func10, Try.ntmps10
  go_wp2_with fail
  refine (law11_few hl HR).mono ?_
  rintro e u1 ⟨rfl, hx1⟩
  clear HR
  go_wp2_with fail
  refine (law11_Rows (N := N) (s := s) (hl1.ext bl_rep hx1) (by omega) hsb.1 (by omega) hNb.1 hNb.2).mono ?_
  rintro e u2 ⟨g, V, rfl, hrw, hx2⟩
  rw [HR1.out] at hrw
  have gx2 := hx1.trans hx2
  clear hcut1 hl1 hs0 hN0 hs1 hN1
  go_wp2_with fail
  refine (law11_Rows (N := N) (s := t2) (hl2.ext bl_rep gx2) (by omega) (by omega) (by omega) hNb.1 hNb.2).mono ?_
  rintro e u3 ⟨g2, V2, rfl, hrw2, hx3⟩
  rw [HR2.out] at hrw2
  have gx3 := gx2.trans hx3
  clear hcut2 hl2
  clear HR1 HR2
  have hgP := hrw.lt
  have hin0 := hrw.rowIn u3.heap.size
  have hrw0 := (hrw.ext hx3).low hx1.size
  obtain ⟨P, hP⟩ : ∃ P, u2.heap.size = P := ⟨_, rfl⟩
  rw [hP] at hgP hin0 hrw2
  have hPH : P ≤ u3.heap.size := by rw [← hP]; exact hx3.size
  have hwP : w.heap.size ≤ P := by rw [← hP]; exact gx2.size
  clear hP hrw
  go_wp2_with fail
  obtain ⟨w3, rfl⟩ : ∃ q, q = u3 := ⟨_, rfl⟩
  go_loopw [12] (fun i wr => ∃ (i2 : Nat) (V : Spots) (rows : List (List UInt8)), i2 ≤ N ∧ i = .int .i64 i2 ∧ Rws wr w.heap.size g N V rows ∧ RowIn P w3.heap.size N V ∧ Hid (mixR RR R1 i2 = rows) ∧ But w3.heap.size (fun q => w.heap.size ≤ q ∧ q < P) w3 wr) (fun i _ => N - (intOf i).toNat)
  case atStart => exact ⟨0, V, R1, by omega, rfl, hrw0, hin0, mixR_zero _ _, But.refl _ _ _⟩
  case round =>
    clear hrw0 hin0 V
    obtain ⟨i2, V, rows, hi2, rfl, hrw, hin, hmix, hbut⟩ := hrel
    have gxr := gx3.but hbut gx3.size (fun q hq => hq.1)
    by_cases hlt : i2 < N
    · obtain ⟨Ao, no, co, r, hv, hro, c0, f0, hbo⟩ := hrw.at_ hlt
      obtain ⟨A2, n2, c2, r2, hv2, hro2, c02, f02, hbo2⟩ := hrw2.at_ hlt
      have hr1 : R1[i2]? = some r := by rw [← mixR_at (a := RR) (by rw [HRL.out]; exact hlt), hmix.out]; exact hro
      have hn1 := HS1.out i2 r hr1
      have hn2 := HS2.out i2 r2 hro2
      rw [hbo.len] at hn1
      rw [hbo2.len] at hn2
      have hno : no ≤ 3000 := by omega
      have hn2b : n2 ≤ 3000 := by omega
      have HNX := Lib.hid (mixR_next (b := R1) (HMORE.out i2 r r2 hr1 hro2) (by rw [HR1L.out]; exact hlt))
      have hrow2 := hbo2.own.row_ge
      replace hbo2 := hbo2.but hbut fun q hq => ⟨(hrow2 q hq).2, fun h => by have := (hrow2 q hq).1; omega⟩
      have hg2 := hrw2.hB
      have hg2l := hrw2.lt
      replace c02 := hbut.cell c02 hg2l (fun h => by have := h.2; simp only at this; omega)
      have hgl := hrw.lt
      have hwH := hbut.size
      have hng : rowOf Ao co ≠ some g := fun e => hrw.notg i2 g hlt (by rw [hv]; exact e) rfl
      have hin2 : ∀ q, rowOf Ao co = some q → q < P ∨ w3.heap.size ≤ q := fun q hq => hin i2 q hlt (by rw [hv]; exact hq)
      have hro1 : ∀ q, rowOf Ao co = some q → w.heap.size ≤ q := fun q hq => (hbo.own.row_ge q hq).1
      have hgB := hrw.hB
      have HRW := Lib.hid hrw
      have HIN := Lib.hid hin
      have HIN2 := Lib.hid hin2
      have HRO1 := Lib.hid hro1
      have HV := Lib.hid hv
      rw [hmix.out] at HNX
      clear hrw hin hin2 hro1 hv hv2 hro hro2 hr1 hn1 hn2 hrow2 f02 hmix
      obtain ⟨w5, rfl⟩ : ∃ q, q = wr := ⟨_, rfl⟩
      go_wp2_with fail
      refine wp_region_typed2 (R := But w3.heap.size (fun q => w.heap.size ≤ q ∧ q < P)) Ext.steady (But.steady _ _) (fun _ _ => But.of_ext) rfl 116 rfl [0, 0, 0, 0, 12, 28, 0, 0, 192, 448, 1020, 2047, 4095] 5120 (by kernel_rfl) ?_
      -- 0: Op.move t10
      apply Stage2.step (Is _) true [] false false (Is.keeps _) (fun _ => Is.keeps _) (by kernel_rfl)
      · intro w1 h1
        have h1 : (But w3.heap.size (fun q => w.heap.size ≤ q ∧ q < P)) _ w1 := h1
        simp only [List.nil_append, List.cons_append, List.map_cons, List.map_nil, Given]
        go_wp2_with fail
        exact Post.isv (Ext.refl _) rfl rfl rfl
      -- 1: Op.move t12
      apply Stage2.step (Is _) true [] false false (Is.keeps _) (fun _ => Is.keeps _) (by kernel_rfl)
      · intro w1 h1
        have h1 : (But w3.heap.size (fun q => w.heap.size ≤ q ∧ q < P)) _ w1 := h1
        simp only [List.nil_append, List.cons_append, List.map_cons, List.map_nil, Given]
        go_wp2_with fail
        exact Post.isv (Ext.refl _) rfl rfl rfl
      -- 2: Op.move t10
      apply Stage2.step (Is _) true [] true false (Is.keeps _) (fun _ => Is.keeps _) (by kernel_rfl)
      · intro w1 h1
        have h1 : Ext _ w1 := h1
        simp only [List.nil_append, List.cons_append, List.map_cons, List.map_nil, Given]
        go_wp2_with fail
        exact Post.isv (Ext.refl _) rfl rfl rfl
      -- 3: Op.move t12
      apply Stage2.step (Is _) true [] true false (Is.keeps _) (fun _ => Is.keeps _) (by kernel_rfl)
      · intro w1 h1
        have h1 : Ext _ w1 := h1
        simp only [List.nil_append, List.cons_append, List.map_cons, List.map_nil, Given]
        go_wp2_with fail
        exact Post.isv (Ext.refl _) rfl rfl rfl
      -- 4: Op.indexAddr 48 t58 t59
      apply Stage2.step (Is _) true [false, false, true, true] true false (Is.keeps _) (fun _ => Is.keeps _) (by kernel_rfl)
      · intro w1 h1
        have h1 : Ext _ w1 := h1
        simp only [List.nil_append, List.cons_append, List.map_cons, List.map_nil, Sp.pr, Given]
        rintro _ rfl
        rintro _ rfl
        go_wp2_with fail
        exact Post.isv (Ext.refl _) rfl rfl rfl
      -- 5: Op.load 22 t60
      apply Stage2.step (Is _) true [false, false, false, false, true] true false (Is.keeps _) (fun _ => Is.keeps _) (by kernel_rfl)
      · intro w1 h1
        have h1 : Ext _ w1 := h1
        simp only [List.nil_append, List.cons_append, List.map_cons, List.map_nil, Sp.pr, Given]
        rintro _ rfl
        have hq := h1.cell c0
        go_wp2_with fail
        exact Post.isv (Ext.refl _) rfl rfl rfl
      -- 6: Op.move t11
      apply Stage2.step (Is _) true [] true false (Is.keeps _) (fun _ => Is.keeps _) (by kernel_rfl)
      · intro w1 h1
        have h1 : Ext _ w1 := h1
        simp only [List.nil_append, List.cons_append, List.map_cons, List.map_nil, Given]
        go_wp2_with fail
        exact Post.isv (Ext.refl _) rfl rfl rfl
      -- 7: Op.move t12
      apply Stage2.step (Is _) true [] true false (Is.keeps _) (fun _ => Is.keeps _) (by kernel_rfl)
      · intro w1 h1
        have h1 : Ext _ w1 := h1
        simp only [List.nil_append, List.cons_append, List.map_cons, List.map_nil, Given]
        go_wp2_with fail
        exact Post.isv (Ext.refl _) rfl rfl rfl
      -- 8: Op.indexAddr 48 t62 t63
      apply Stage2.step (Is _) true [false, false, false, false, false, false, true, true] true false (Is.keeps _) (fun _ => Is.keeps _) (by kernel_rfl)
      · intro w1 h1
        have h1 : Ext _ w1 := h1
        simp only [List.nil_append, List.cons_append, List.map_cons, List.map_nil, Sp.pr, Given]
        rintro _ rfl
        rintro _ rfl
        go_wp2_with fail
        exact Post.isv (Ext.refl _) rfl rfl rfl
      -- 9: Op.load 22 t64
      apply Stage2.step (Is _) true [false, false, false, false, false, false, false, false, true] true false (Is.keeps _) (fun _ => Is.keeps _) (by kernel_rfl)
      · intro w1 h1
        have h1 : Ext _ w1 := h1
        simp only [List.nil_append, List.cons_append, List.map_cons, List.map_nil, Sp.pr, Given]
        rintro _ rfl
        have hq := h1.cell c02
        go_wp2_with fail
        exact Post.isv (Ext.refl _) rfl rfl rfl
      -- 10: Op.call { builtin append, args := #[t61, t65], argTypes := #[22, 22] }
      apply Stage2.step (RAp w.heap.size g N P w3.heap.size i2 (no + n2) (rows.set i2 (r ++ r2))) false [false, false, false, false, false, true, false, false, false, true] true true (RAp.keeps _ _ _ _ _ _ _ _) (no_keeps) (by kernel_rfl)
      · intro w1 h1
        have h1 : Ext _ w1 := h1
        simp only [List.nil_append, List.cons_append, List.map_cons, List.map_nil, Sp.pr, Given]
        rintro _ rfl
        rintro _ rfl
        have hs1 := h1.size
        have hbo3 := hbo.ext h1
        have hbo4 := hbo2.ext h1
        have z0 := h1.cell c0
        have zf : w1.frozen? ⟨g, i2, none⟩ = false := by
          have e : w1.frozen? ⟨g, i2, none⟩ = w5.frozen? ⟨g, i2, none⟩ := Below.frozen h1 hgl
          rw [e]; exact f0
        go_wp2_with (
          at_builtin
          refine wpList_append_mine _ rfl _ _ _ _ rfl w.heap.size U8 iu _ 1 1 under_bytes hiu hu0 hu1 hu2 rfl Ao no co _ rfl hbo3.own _ rfl n2 (r2.map bv) (hbo4.sl.src under_bytes) (by simp only [maxLen]; omega) (by omega) (by have := gxr.size; omega) ?_
          intro A9 c9 w9 hown9 hg9 hr9)
        exact ⟨rfl, rfl, But.grown (But.refl _ _ _) hg9 (fun q hq => by rcases HIN2.out q hq with e | e; exact .inl ⟨HRO1.out q hq, e⟩; exact .inr e), A9, c9, _, _, rfl, (HRW.out.ext h1).grow hlt HV.out hg9 (Byt.more hbo3.len hbo4.len hown9 rfl) hr9, cell_grownW hg9 z0 hng, frozen_grownW hg9 (Nat.lt_of_lt_of_le hgl hs1) hng zf, HIN.out.put (fun q hq => by
          rcases hr9 with e | e
          · exact HIN2.out q (by rw [← e]; exact hq)
          · have e2 := hq
            simp only at e2
            rw [e] at e2
            injection e2 with e2
            omega)⟩
      -- 11: Op.indexAddr 48 t56 t57
      apply Stage2.step (Is _) true [true, true] false false (Is.keeps _) (fun _ => Is.keeps _) (by kernel_rfl)
      · intro w1 h1
        have h1 : (But w3.heap.size (fun q => w.heap.size ≤ q ∧ q < P)) _ w1 := h1
        simp only [List.nil_append, List.cons_append, List.map_cons, List.map_nil, Sp.pr, Given]
        rintro _ rfl
        rintro _ rfl
        go_wp2_with fail
        exact Post.isv (Ext.refl _) rfl rfl rfl
      -- 12: Op.store 22 t67 t66
      apply Stage2.step (REn w.heap.size g N P w3.heap.size (rows.set i2 (r ++ r2))) false [false, false, false, false, false, false, false, false, false, false, true, true] false true (REn.keeps _ _ _ _ _ _) (no_keeps) (by kernel_rfl)
      · intro w1 h1
        have h1 : (But w3.heap.size (fun q => w.heap.size ≤ q ∧ q < P)) _ w1 := h1
        simp only [List.nil_append, List.cons_append, List.map_cons, List.map_nil, Sp.pr, Given]
        rintro _ ⟨A9, c9, V9, u9, rfl, h9, y0, yf, yr⟩
        rintro _ rfl
        go_wp2_with fail
        exact ⟨rfl, rfl, But.setCell (p := ⟨g, i2, none⟩) (But.refl _ _ _) (.inl ⟨hgB, hgP⟩) _, _, h9, yr⟩
      apply Stage2.nil [true, true, true, true, true, true, true, true, true, true, false, true, true] (by kernel_rfl)
      intro w1 h1
      have h1 : (But w3.heap.size (fun q => w.heap.size ≤ q ∧ q < P)) _ w1 := h1
      simp only [List.nil_append, List.cons_append, List.map_cons, List.map_nil, Sp.pr]
      refine Fin2.is_ ?_
      refine Fin2.is_ ?_
      refine Fin2.is_ ?_
      refine Fin2.is_ ?_
      refine Fin2.is_ ?_
      refine Fin2.is_ ?_
      refine Fin2.is_ ?_
      refine Fin2.is_ ?_
      refine Fin2.is_ ?_
      refine Fin2.is_ ?_
      refine Fin2.dead_ ?_
      intro dead10
      refine Fin2.is_ ?_
      refine Fin2.step_ ?_
      rintro _ ⟨V12, h12, hin12⟩
      refine Fin2.nil_ ?_
      go_simp
      obtain ⟨wm, rfl⟩ : ∃ q, q = w1 := ⟨_, rfl⟩
      go_wp2_with fail
      go_roundw
      case rel => exact ⟨i2 + 1, V12, _, by omega, by go_num, h12, hin12, HNX.out, hbut.trans h1⟩
      case measure => simp [intOf]; omega
    · obtain rfl : i2 = N := by omega
      have e := hmix.out
      rw [mixR_all HRL.out HR1L.out] at e
      subst e
      have hlr := hrw.lst (by simp only [maxLen]; omega)
      clear hmix hrw hrw2 hin hbut HMORE HS1 HS2
      go_wp2_with fail
      have hcl := scan_Merge hlr (s := (s : Int)) (by omega) HSH.out (by omega)
      rw [HM1.out] at hcl
      refine hcl.mono ?_
      rintro e u4 ⟨A4, n4, c4, rfl, h4, hx4⟩
      obtain rfl : n4 = k := by rw [← h4.len]; exact HE1.out
      clear hcl h4 HM1
      have gx4 := gxr.trans hx4
      replace hlr := hlr.ext bl_rep hx4
      go_wp2_with fail
      have hcl := scan_Merge hlr (s := (t2 : Int)) (by omega) HSH.out (by omega)
      rw [HM2.out] at hcl
      refine hcl.mono ?_
      rintro e u5 ⟨A5, n5, c5, rfl, h5, hx5⟩
      obtain rfl : n5 = m := by rw [← h5.len]; exact HE2.out
      clear hcl h5 HM2
      have gx5 := gx4.trans hx5
      replace hlr := hlr.ext bl_rep hx5
      go_wp2_with fail
      have hcl := scan_Merge hlr (s := (s : Int) + (n4 : Int)) (by omega) HSH.out (by omega)
      rw [HM3.out] at hcl
      refine hcl.mono ?_
      rintro e u6 ⟨A6, n6, c6, rfl, h6, hx6⟩
      obtain rfl : n6 = 0 := by rw [← h6.len]; rfl
      clear hcl h6 HM3
      have gx6 := gx5.trans hx6
      replace hlr := hlr.ext bl_rep hx6
      go_wp2_with fail
      refine (scan_Torn (last := (s : Int) + (n4 : Int)) hlr (by omega) HSH.out HT).mono ?_
      rintro e u7 ⟨rfl, hx7⟩
      have gx7 := gx6.trans hx7
      by_cases hm0 : 0 < n5
      · have d1 : decide (0 < n5) = true := by simpa using hm0
        have d2 : ((n4 : Int) < (n : Int) - 1) := by omega
        rw [d1]
        go_wp2_with fail
        refine (law11_known u7).mono ?_
        rintro e u8 ⟨rfl, hx8⟩
        go_wp2_with fail
        go_ret
        exact ⟨rfl, gx7.trans hx8⟩
      · have d1 : decide (0 < n5) = false := by simpa using hm0
        have d2 : decide ((n4 : Int) < (n : Int) - 1) = false := by simp; omega
        rw [d1]
        go_wp2_with fail
        refine (law11_known u7).mono ?_
        rintro e u8 ⟨rfl, hx8⟩
        go_wp2_with fail
        go_ret
        exact ⟨rfl, gx7.trans hx8⟩
end Go.Proofs.Ytcchlkialgjamaa
