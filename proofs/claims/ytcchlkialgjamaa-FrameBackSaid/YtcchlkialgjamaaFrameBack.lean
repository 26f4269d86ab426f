/-
  The walk of one statement of chapter 4.
-/
import Derived.Test.YtcchlkialgjamaaFrameBackPlain
import Derived.Test.YtcchlkialgjamaaOpenL
namespace Go.Proofs.Ytcchlkialgjamaa
open Go.RowKit
set_option linter.unusedVariables false
set_option linter.unusedSimpArgs false
set_option linter.unnecessarySimpa false
set_option maxRecDepth 100000

abbrev INT : TypeId := 3
theorem info_int : (Try.prog.info? INT).map (fun i => (i.zero, i.size, i.bytes)) = some (some (.int .i64 0), 1, 8) := by kernel_rfl
theorem under_ints : Try.prog.underlying 46 = some (.slice INT) := by kernel_rfl
/-- two rows of one's own, apart: one grows -/
theorem apart_more {w w' : World} {B : Nat} {e : TypeId} {size n c : Nat} {A : Option Addr} {ys : List Value} (ho : Own w B e size A n c ys) {row row' : Option Nat} (hg : w.grownBy w' row) (hne : ∀ g, rowOf A c = some g → row ≠ some g)
    (hr : row' = row ∨ row' = some w.heap.size) : Own w' B e size A n c ys ∧ ∀ g, rowOf A c = some g → row' ≠ some g := by
  refine ⟨ho.grown hg fun g h e => hne g h e.symm, fun g h => ?_⟩
  rcases hr with rfl | rfl
  · exact hne g h
  · intro e
    injection e with e
    have := (ho.row_ge g h).2
    omega
theorem cut_en {w : World} {A : Option Addr} {n c : Nat} {l : List En} (h : Lst 3 enR w A n c l) (m : Nat) (y : Int) (hy : y = (m : Int)) (hm : m ≤ n) :
    (∀ w', (Instr.slice 32 (.slice A n c) none (some (.int .i64 y)) none).run Try.prog w' = .ok (.slice A m c) w') := by
  subst hy
  have hcap := h.cap
  obtain ⟨i0, hi0, hz0, hz1, hz2⟩ := info_parts info_en
  intro w'
  have e1 : ((m : Nat) : Int) ≤ (c : Int) := by omega
  have e5 : m ≤ c := by omega
  by_cases hc : c = 0
  · have e6 : m = 0 := by omega
    subst hc e6
    cases A <;> simp [Instr.slice, run_underlying under_ens, Instr.sliceBounds, run_sliceBound, sizeOf, typeInfo, hi0, hz1]
  · cases A <;> simp [Instr.slice, run_underlying under_ens, Instr.sliceBounds, run_sliceBound, sizeOf, typeInfo, hi0, hz1, e1, e5, hc, Ne.symm hc, Addr.add]
def endsV (xs : List En) (k : Nat) : List Value := (List.range k).map fun i => .int .i64 (endAt xs (i + 1))
theorem endsV_succ (xs : List En) (k : Nat) : endsV xs (k + 1) = endsV xs k ++ [.int .i64 (endAt xs (k + 1))] := by
  unfold endsV
  rw [List.range_succ, List.map_append]
  rfl
theorem endsV_at {xs : List En} {k i : Nat} (h : i < k) : (endsV xs k)[i]? = some (.int .i64 (endAt xs (i + 1))) := by
  unfold endsV
  simp [h]

set_option maxHeartbeats 2000000 in
theorem law_FrameBack (A : Option Addr) (n c : Nat) (xs : List En) (cu : Int) (w : World) (h : Lst 3 enR w A n c xs) (hq : ∀ x ∈ xs, enB x) (hc0 : -9223372036854775808 ≤ cu) (hc1 : cu ≤ 9223372036854775807) :
    Calls Try.prog 8 #[.slice A n c, .int .i64 cu] w fun e w' => e = .returned (.bool true) ∧ Ext w w' := by
  have h63 := h.n63
  by_cases t1 : 12 < n
  · clear hc0 hc1
    go_enter Try.func8, Try.ntmps8
    go_wp2_with fail
    refine (law4_known _).mono ?_
    rintro e w2 ⟨rfl, hx1⟩
    go_wp2_with fail
    go_ret
    exact ⟨rfl, hx1⟩
  by_cases t3 : cu < 0
  · clear hc0 hc1
    go_enter Try.func8, Try.ntmps8
    go_wp2_with fail
    refine (law4_known _).mono ?_
    rintro e w2 ⟨rfl, hx1⟩
    go_wp2_with fail
    go_ret
    exact ⟨rfl, hx1⟩
  obtain ⟨cu, rfl⟩ := Int.eq_ofNat_of_zero_le (by omega : 0 ≤ cu)
  have hcu : cu ≤ 9223372036854775807 := by omega
  obtain ⟨i0, hi0, hz0, hz1, hz2⟩ := info_parts info_u8
  obtain ⟨j0, hj0, hy0, hy1, hy2⟩ := info_parts info_int
  clear hc0 hc1 t3
  go_enter Try.func8, Try.ntmps8
  go_wp2_with fail
  go_loopw [5, 6, 7] (fun bv ev iv wr => ∃ (k : Nat) (Ab : Option Addr) (m cb : Nat) (G : List UInt8) (Ae : Option Addr) (ce : Nat), k ≤ n ∧ m ≤ k * 112 ∧ bv = .slice Ab m cb ∧ ev = .slice Ae k ce ∧ iv = .int .i64 k ∧ Byt U8 wr w.heap.size Ab m cb G ∧ Hid (rowL (xs.take k) = G) ∧ Own wr w.heap.size INT 1 Ae k ce (endsV xs k) ∧ (∀ g, rowOf Ae ce = some g → rowOf Ab cb ≠ some g) ∧ Hid (∀ x ∈ xs.take k, enOk x = true) ∧ Ext w wr) (fun _ _ i _ => n - (intOf i).toNat)
  case atStart => exact ⟨0, none, 0, 0, [], none, 0, by omega, by omega, rfl, rfl, rfl, ⟨rfl, Own.nil _ _ _ _ _⟩, rfl, Own.nil _ _ _ _ _, by simp [rowOf], by simp [Hid], Ext.refl _⟩
  case round =>
    obtain ⟨k, Ab, m, cb, G, Ae, ce, hk, hm, rfl, rfl, rfl, hbk, hG, hoe, hap, hok, hxr⟩ := hrel
    by_cases hlt : k < n
    · obtain ⟨ga, oa, x, cs, rfl, hx, ⟨Aa, na, ca, rfl, sa0⟩, ha⟩ := h.at2 en_rep (by omega) hlt
      have a0 : wr.cell? ⟨ga, oa + k * 3, none⟩ = _ := hxr.cell (ha 0 _ rfl)
      have a1 := hxr.cell (ha 1 _ rfl)
      have a2 := hxr.cell (ha 2 _ rfl)
      have sa := sa0.ext hxr
      obtain ⟨hqt, hqs⟩ := hq x (List.mem_of_getElem? hx)
      have hnx := rowL_next hx
      have hokx : enOk x = true → ∀ y ∈ xs.take (k + 1), enOk y = true := fun h1 y hy => by
        rw [List.take_add_one, hx] at hy
        rcases List.mem_append.1 hy with hy | hy
        · exact hok.out y hy
        · simp at hy
          exact hy ▸ h1
      obtain ⟨xt, xs', xd⟩ := x
      simp only at a0 a1 a2 sa hqt hqs
      have hxl := sa.len
      have hqt2 := Lib.hid hqt.2
      have hqs2 := Lib.hid hqs.2
      obtain ⟨r, hr⟩ : ∃ q, rightN xt xs' na = q := ⟨_, rfl⟩
      obtain ⟨L, hL⟩ : ∃ q, layL xt xs' na xd = q := ⟨_, rfl⟩
      have hLl := layL_len xt xs' na xd hxl
      unfold layOf at hnx
      unfold enOk at hokx
      simp only at hnx hokx
      rw [hxl, hL, hG.out] at hnx
      rw [hxl, hr] at hokx
      rw [hL] at hLl
      have HR := Lib.hid hr
      have HL := Lib.hid hL
      have HNX := Lib.hid hnx
      have n63 := sa.n63
      cases r with
      | false =>
        have hL0 : L = [] := by
          rw [← hL]
          unfold layL
          rw [hr]
          rfl
        subst hL0
        clear hr hL hnx hx ha sa0 hG hLl hxl hqt hqs hokx
        go_wp2_with fail
        refine (frame_Lay sa hqt2.out hqs2.out HR HL).mono ?_
        rintro e w2 ⟨A2, n2, c2, rfl, hb2, hx2⟩
        obtain rfl : n2 = 0 := hb2.len.symm
        rw [show (if false = true then (0 : Int) else 1) = 1 from rfl]
        replace a0 := hx2.cell a0
        replace a1 := hx2.cell a1
        replace a2 := hx2.cell a2
        go_wp2_with fail
        refine (frame_Right xt xs' Aa na ca _ n63.1 hqt2.out hqs2.out).mono ?_
        rintro e w3 ⟨rfl, hx3⟩
        rw [HR.out]
        go_wp2_with fail
        refine (law4_known _).mono ?_
        rintro e w4 ⟨rfl, hx4⟩
        go_wp2_with fail
        go_ret
        exact ⟨rfl, ((hxr.trans hx2).trans hx3).trans hx4⟩
      | true =>
        have hrn := rightN_iff.1 hr
        have hLn : L.length = 22 + na := by
          rw [← hL]
          unfold layL
          rw [hr, if_pos rfl, layE_length, hxl]
        have HLN := Lib.hid hLn
        have hsz : Hid (sizeI (na : Int) = 22 + (na : Int)) := by
          unfold Hid sizeI
          omega
        have hna : na ≤ 90 := by omega
        have HOK := Lib.hid (hokx rfl)
        clear hr hL hnx hx ha sa0 hLl hxl hqt hqs hokx hrn hLn hok
        go_wp2_with fail
        refine (frame_Lay sa hqt2.out hqs2.out HR HL).mono ?_
        rintro e w2 ⟨A2, n2, c2, rfl, hb2, hx2⟩
        obtain rfl : n2 = 22 + na := by rw [← hb2.len]; exact HLN.out
        rw [show (if true = true then (0 : Int) else 1) = 0 from rfl]
        replace a0 := hx2.cell a0
        replace a1 := hx2.cell a1
        replace a2 := hx2.cell a2
        go_wp2_with fail
        refine (frame_Right xt xs' Aa na ca _ n63.1 hqt2.out hqs2.out).mono ?_
        rintro e w3 ⟨rfl, hx3⟩
        rw [HR.out]
        replace a0 := hx3.cell a0
        replace a1 := hx3.cell a1
        replace a2 := hx3.cell a2
        go_wp2_with fail
        refine (frame_Size _ _).mono ?_
        rintro e _ ⟨rfl, rfl⟩
        rw [hsz.out]
        have hxr3 := (hxr.trans hx2).trans hx3
        have hs3 := hxr3.size
        have hbk3 := (hbk.ext hx2).ext hx3
        have hoe3 := (hoe.ext hx2).ext hx3
        have hb3 := (hb2.ext hx3).sl
        clear a0 a1 a2 hb2 hbk hoe hx2 hx3 hsz
        go_wp2_with (first | (
          at_builtin
          refine wpList_append_mine _ rfl (.tmp 68) (.tmp 69) _ _ rfl w.heap.size U8 i0 _ 1 1 under_bytes hi0 hz0 hz1 hz2 rfl Ab m cb _ rfl hbk3.own _ rfl (22 + na) (L.map bv) (hb3.src under_bytes) (by simp only [maxLen]; omega) (by omega) hs3 ?_
          intro A4 c4 w4 hown4 hg4 hr4
          obtain ⟨hoe4, hap4⟩ := apart_more hoe3 hg4 hap hr4
          have hb4 : Byt U8 w4 w.heap.size A4 (m + (22 + na)) c4 (G ++ L) := Byt.more hbk3.len hb3.len hown4 rfl
          have hx4 : Ext w w4 := below_grown hxr3 hbk3.own hg4 hs3
          obtain ⟨E, hE⟩ : ∃ E, m + (22 + na) = E := ⟨_, rfl⟩
          have hEl : E ≤ (k + 1) * 112 := by omega
          rw [hE] at hb4 ⊢
          have HEA : Hid (endAt xs (k + 1) = E) := by
            unfold Hid endAt
            rw [HNX.out, hb4.len]
          have hs4 := hx4.size
          have hsrc : Src Try.prog 1 46 (.slice (some ⟨w4.heap.size, 0, none⟩) 1 1) 1 [.int .i64 (E : Int)] (w4.alloc (.cells #[.int .i64 (E : Int)] INT)) := src_cells (P := Try.prog) (w := w4) (e := INT) under_ints #[.int .i64 (E : Int)] rfl (by intro u hu; simp at hu; subst hu; rfl)
          clear hE hown4 hg4 hr4 hoe3 hap hbk3 hb3 hxr3 hs3) | (
          at_builtin
          refine wpList_append_mine _ rfl (.tmp 71) (.tmp 74) _ _ rfl w.heap.size INT j0 _ 1 8 under_ints hj0 hy0 hy1 hy2 rfl Ae k ce _ rfl (hoe4.alloc _) _ rfl 1 _ hsrc (by simp only [maxLen]; omega) (by omega) (by simp; omega) ?_
          intro A5 c5 w5 hown5 hg5 hr5
          obtain ⟨hb5, hap5⟩ := apart_more (hb4.own.alloc _) hg5 (fun g h e => hap4 g e h) hr5
          have hx5 : Ext w w5 := below_grown (hx4.allocs _) (hoe4.alloc _) hg5 (by simp; omega)
          clear hsrc hg5 hr5 hoe4 hap4))
        go_roundw
        case rel => exact ⟨k + 1, A4, E, c4, G ++ L, A5, c5, by omega, hEl, rfl, rfl, by go_num, ⟨hb4.len, hb5⟩, HNX, by rw [endsV_succ, HEA.out]; simpa using hown5, fun g h e => hap5 g e h, HOK, hx5⟩
        case measure => simp [intOf]; omega
    · obtain rfl : k = n := by omega
      have hG1 := hG.out
      have hok1 := hok.out
      rw [List.take_of_length_le (by rw [h.len]; exact Nat.le_refl _)] at hG1 hok1
      have HG := Lib.hid hG1
      have hok := Lib.hid hok1
      have hlen := h.len
      have hkm : ((cu % (m + 1) : Nat) : Int) = (cu : Int) % ((m : Int) + 1) := by simp
      have hkl : cu % (m + 1) < m + 1 := Nat.mod_lt _ (by omega)
      obtain ⟨K, hK⟩ : ∃ K, cu % (m + 1) = K := ⟨_, rfl⟩
      rw [hK] at hkm hkl
      have hKm : K ≤ m := by omega
      have hkm2 := hkm.symm
      obtain ⟨hcut, hsK⟩ := cut_upto hbk.sl K (K : Int) rfl hKm
      have hA1 := @frame_All _ _ _ _ wr hsK (by omega)
      obtain ⟨er, her⟩ : ∃ q, enL (allL (G.take K)).1 = q := ⟨_, rfl⟩
      obtain ⟨em, hem⟩ : ∃ q, (allL (G.take K)).2 = q := ⟨_, rfl⟩
      rw [her, hem] at hA1
      have HER := Lib.hid her
      have HEM := Lib.hid hem
      have h63m := hbk.sl.n63
      clear hG1 hok1 hkm hkl hK her hem hG hlt hsK hap hi0 hz0 hz1 hz2 hj0 hy0 hy1 hy2
      go_wp2_with fail
      refine hA1.mono ?_
      rintro e w4 ⟨A4, n4, c4, rfl, ho4, hx4⟩
      have hoe4 := hoe.ext hx4
      have hxr4 := hxr.trans hx4
      clear hA1 hoe hbk
      go_wp2_with fail
      go_loopw [13] (fun v wr' => ∃ j : Nat, j ≤ k ∧ v = .int .i64 j ∧ Hid (endAt xs j ≤ K) ∧ Ext w4 wr') (fun v _ => k - (intOf v).toNat)
      case atStart => exact ⟨0, by omega, rfl, by unfold Hid; rw [endAt_zero]; omega, Ext.refl _⟩
      case round =>
        obtain ⟨j, hj, rfl, hjK, hx6⟩ := hrel
        have hxw := hxr4.trans hx6
        by_cases hjk : j < k
        · obtain ⟨g, rfl, _, _, hcl, _⟩ := hoe4.open_ (by omega)
          have hcl1 := hx6.cell (hcl j _ (endsV_at hjk))
          obtain ⟨E, hE⟩ : ∃ E, endAt xs (j + 1) = E := ⟨_, rfl⟩
          rw [hE] at hcl1
          have HE := Lib.hid hE
          clear hE hcl
          by_cases hEK : E ≤ K
          · go_wp2_with fail
            go_roundw
            case rel => exact ⟨j + 1, by omega, by go_num, by unfold Hid; rw [HE.out]; exact hEK, hx6⟩
            case measure => simp [intOf]; omega
          · skip
            have hac := all_cut xs K j hok.out (by omega) hjK.out (fun _ => by rw [HE.out]; omega)
            rw [HG.out, HER.out, HEM.out] at hac
            obtain ⟨hac1, hac2⟩ := hac
            have hup := (h.ext en_rep hxw).upto en_rep hj
            rw [← hac1] at hup
            have hss := Lib.hid (sameEn_refl er)
            by_cases hj0 : j ≤ 0
            · have hcut2 := cut_en h j (j : Int) rfl hj
              obtain rfl : em = 0 := by
                rw [hac2, show j = 0 by omega, endAt_zero]
              clear hac1 hac2
              go_wp2_with fail
              refine (ref_SameEntries (ho4.lst.ext en_rep hx6) hup).mono ?_
              rintro e w7 ⟨rfl, hx7⟩
              rw [hss.out]
              go_wp2_with fail
              refine (law4_known _).mono ?_
              rintro e w8 ⟨rfl, hx8⟩
              go_wp2_with fail
              go_ret
              exact ⟨rfl, (hxw.trans hx7).trans hx8⟩
            · obtain ⟨g2, hA2, _, _, hcl, _⟩ := hoe4.open_ (by omega)
              first | subst hA2 | (injection hA2 with hA2; injection hA2 with hA2; subst hA2)
              obtain ⟨j', rfl⟩ : ∃ j', j = j' + 1 := ⟨j - 1, by omega⟩
              have hcl1 := hcl j' _ (endsV_at (by omega))
              rw [← hac2] at hcl1
              replace hcl1 := hx6.cell hcl1
              have hcut2 := cut_en h (j' + 1) ((j' : Int) + 1) (by omega) hj
              clear hac1 hac2 hcl
              go_wp2_with fail
              refine (ref_SameEntries (ho4.lst.ext en_rep hx6) hup).mono ?_
              rintro e w7 ⟨rfl, hx7⟩
              rw [hss.out]
              replace hcl1 := hx7.cell hcl1
              go_wp2_with fail
              refine (law4_known _).mono ?_
              rintro e w8 ⟨rfl, hx8⟩
              go_wp2_with fail
              go_ret
              exact ⟨rfl, (hxw.trans hx7).trans hx8⟩
        · skip
          have hac := all_cut xs K j hok.out (by omega) hjK.out (fun h => by omega)
          rw [HG.out, HER.out, HEM.out] at hac
          obtain ⟨hac1, hac2⟩ := hac
          have hup := (h.ext en_rep hxw).upto en_rep hj
          rw [← hac1] at hup
          have hss := Lib.hid (sameEn_refl er)
          by_cases hj0 : j ≤ 0
          · have hcut2 := cut_en h j (j : Int) rfl hj
            obtain rfl : em = 0 := by
              rw [hac2, show j = 0 by omega, endAt_zero]
            clear hac1 hac2
            go_wp2_with fail
            refine (ref_SameEntries (ho4.lst.ext en_rep hx6) hup).mono ?_
            rintro e w7 ⟨rfl, hx7⟩
            rw [hss.out]
            go_wp2_with fail
            refine (law4_known _).mono ?_
            rintro e w8 ⟨rfl, hx8⟩
            go_wp2_with fail
            go_ret
            exact ⟨rfl, (hxw.trans hx7).trans hx8⟩
          · obtain ⟨g2, hA2, _, _, hcl, _⟩ := hoe4.open_ (by omega)
            first | subst hA2 | (injection hA2 with hA2; injection hA2 with hA2; subst hA2)
            obtain ⟨j', rfl⟩ : ∃ j', j = j' + 1 := ⟨j - 1, by omega⟩
            have hcl1 := hcl j' _ (endsV_at (by omega))
            rw [← hac2] at hcl1
            replace hcl1 := hx6.cell hcl1
            have hcut2 := cut_en h (j' + 1) ((j' : Int) + 1) (by omega) hj
            clear hac1 hac2 hcl
            go_wp2_with fail
            refine (ref_SameEntries (ho4.lst.ext en_rep hx6) hup).mono ?_
            rintro e w7 ⟨rfl, hx7⟩
            rw [hss.out]
            replace hcl1 := hx7.cell hcl1
            go_wp2_with fail
            refine (law4_known _).mono ?_
            rintro e w8 ⟨rfl, hx8⟩
            go_wp2_with fail
            go_ret
            exact ⟨rfl, (hxw.trans hx7).trans hx8⟩
end Go.Proofs.Ytcchlkialgjamaa
