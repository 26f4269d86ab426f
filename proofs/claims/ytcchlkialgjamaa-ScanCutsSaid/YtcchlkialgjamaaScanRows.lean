/-
  Chapter 11: the statements' own 'Rows'.
-/
import Derived.Test.YtcchlkialgjamaaDealt
import Derived.Test.YtcchlkialgjamaaRws
import Derived.Test.YtcchlkialgjamaaScanFirst
import Derived.Test.YtcchlkialgjamaaFrameAll
namespace Go.Proofs.Ytcchlkialgjamaa
open Go.RowKit
set_option linter.unusedVariables false
set_option linter.unusedSimpArgs false
set_option linter.unnecessarySimpa false
set_option maxRecDepth 100000

theorem lay_pay {s : Int} {d : List UInt8} (h1 : 1 ≤ s) (h2 : s ≤ 200000) : rightN 3 s (pay d).length = true ∧ layL 3 s (pay d).length (pay d) = frE ⟨3, s, pay d⟩ := by
  have hp := pay_len d
  have hr : rightN 3 s (pay d).length = true := rightN_iff.2 (by omega)
  refine ⟨hr, ?_⟩
  unfold layL
  rw [if_pos hr]
  rfl
theorem ensF_snoc {ds : List (List UInt8)} {s : Int} {k : Nat} {d : List UInt8} (h : ds[k]? = some d) : ensF s (ds.take (k + 1)) = ensF s (ds.take k) ++ [⟨3, s + (k : Nat), pay d⟩] := by
  have hk := (List.getElem?_eq_some_iff.1 h).1
  rw [List.take_add_one, h, ensF_app, List.length_take, Nat.min_eq_left (by omega)]
  rfl
theorem ensF_small {ds : List (List UInt8)} {s : Int} : ∀ x ∈ ensF s ds, x.d.length ≤ 40 := by
  intro x hx
  obtain ⟨i, d, _, rfl⟩ := ensF_mem hx
  exact (pay_len d).2
theorem cell_grownW {w w' : World} {row : Option Nat} (hg : w.grownBy w' row) {p : Addr} {u : Value} (hc : w.cell? p = some u) (hne : row ≠ some p.block) : w'.cell? p = some u := by
  have hb := World.block_lt_of_cell? w p hc
  rw [← hc]
  exact World.cell?_of_block (hg.block p.block hb hne.symm)
theorem frozen_grownW {w w' : World} {row : Option Nat} (hg : w.grownBy w' row) {p : Addr} (hlt : p.block < w.heap.size) (hne : row ≠ some p.block) (hf : w.frozen? p = false) : w'.frozen? p = false := by
  unfold World.frozen? at hf ⊢
  rw [hg.block p.block hlt hne.symm]
  exact hf
set_option maxHeartbeats 2000000 in
theorem law11_Rows {A : Option Addr} {n c : Nat} {data : List (List UInt8)} {s N : Nat} {w : World} (hl : Lst 1 blR w A n c data) (hn : n ≤ 40) (hs1 : 1 ≤ s) (hs2 : s ≤ 100000) (hN1 : 1 ≤ N) (hN4 : N ≤ 4) :
    Calls Try.prog 30 #[.slice A n c, .int .i64 (s : Int), .int .i64 (N : Int)] w fun e w' => ∃ g V, e = .returned (.slice (some ⟨g, 0, none⟩) N N) ∧ Rws w' w.heap.size g N V (rowsOf N (ensF s data)) ∧ Ext w w' := by
  have h63 := hl.n63
  obtain ⟨i0, hi0, hz0, hz1, hz2⟩ := info_parts info_u8
  obtain ⟨C, hC, hmk⟩ := make_rows N N rfl (by omega)
  have hmk1 := hmk w
  have hm0 := Rws.made (w := w) (B := w.heap.size) hC (Nat.le_refl _)
  rw [← rowsOf_nil] at hm0
  have HM0 := Lib.hid hm0
  clear hmk hC hm0
  go_enter Try.func30, Try.ntmps30
  go_wp2_with fail
  go_loopw [8] (fun i wr => ∃ (k : Nat) (V : Spots), k ≤ n ∧ i = .int .i64 k ∧ Hid (Rws wr w.heap.size w.heap.size N V (rowsOf N (ensF s (data.take k)))) ∧ Ext w wr) (fun i _ => n - (intOf i).toNat)
  case atStart => exact ⟨0, _, by omega, rfl, HM0, Ext.alloc _ _⟩
  case round =>
    clear hmk1 HM0
    obtain ⟨k, V, hk, rfl, hrw, hxr⟩ := hrel
    by_cases hlt : k < n
    · obtain ⟨ga, oa, d, Ad, nd, cd, rfl, hd, a0, hsl⟩ := row_at hl hlt
      replace a0 := hxr.cell a0
      replace hsl := hsl.ext hxr
      have hnd := hsl.n63
      obtain ⟨J, hJ0, hJ, hJN⟩ : ∃ J : Nat, (s + k) % N = J ∧ ((s : Int) + (k : Int)) % (N : Int) = (J : Int) ∧ J < N := ⟨(s + k) % N, rfl, by simp, Nat.mod_lt _ (by omega)⟩
      obtain ⟨hlr, hly⟩ := lay_pay (s := (s : Int) + (k : Nat)) (d := d) (by omega) (by omega)
      have hsn := ensF_snoc (s := (s : Int)) hd
      have hnx := rowsOf_next (N := N) (xs := ensF s (data.take k)) (x := ⟨3, (s : Int) + (k : Nat), pay d⟩) (j := J) (by simp only; rw [show ((s : Int) + (k : Nat)).toNat = s + k by omega]; exact hJ0) (by omega)
      rw [← hsn] at hnx
      obtain ⟨Ao, no, co, r, hv, hro, c0, f0, hbo⟩ := hrw.out.at_ hJN
      have hr2 := rowsOf_get hro
      rw [← hr2, ← hly] at hnx
      have hrs := rowsOf_small hro ensF_small
      rw [ensF_len, List.length_take, hbo.len] at hrs
      have hno : no ≤ 2480 := by omega
      obtain ⟨L, hL⟩ : ∃ q, layL 3 ((s : Int) + (k : Nat)) (pay d).length (pay d) = q := ⟨_, rfl⟩
      obtain ⟨RN, hRN⟩ : ∃ q, rowsOf N (ensF s (data.take (k + 1))) = q := ⟨_, rfl⟩
      rw [hRN, hL] at hnx
      have HRN := Lib.hid hRN
      have HNX := Lib.hid hnx
      have HV := Lib.hid hv
      have HJ := Lib.hid hJ
      have hLl : L.length ≤ 112 := by
        rw [← hL]
        unfold layL
        rw [if_pos hlr, layE_length]
        have := pay_len d
        omega
      clear hsn hnx hr2 hRN hv hro hJ0
      by_cases hd0 : d = []
      · have hnd0 : nd = 0 := by rw [← hsl.len, hd0]; rfl
        have hp : pay d = [0] := by unfold pay; rw [if_pos hd0]
        rw [hp] at hlr hL
        have HR1 := Lib.hid hlr
        have HL1 := Lib.hid hL
        subst hnd0
        clear hlr hL hly hp hd hd0 hsl
        go_wp2_with fail
        refine (ref_Lay (sl_new wr _ _ _ [0] rfl (by simp [maxLen])) HR1 HL1).mono ?_
        rintro e w2 ⟨A2, n2, c2, rfl, hb2, hx2⟩
        have hn2 : n2 ≤ 112 := by rw [← hb2.len]; exact hLl
        have hx3 : Ext wr w2 := (Ext.alloc wr _).trans hx2
        have hrw2 := hrw.out.ext hx3
        have hlt2 := hrw2.lt
        have hbo2 := hbo.ext hx3
        have c02 := hx3.cell c0
        have f02 : w2.frozen? ⟨w.heap.size, J, none⟩ = false := by
          have e : w2.frozen? ⟨w.heap.size, J, none⟩ = wr.frozen? ⟨w.heap.size, J, none⟩ := Below.frozen hx3 hrw.out.lt
          rw [e]; exact f0
        have hng : rowOf Ao co ≠ some w.heap.size := fun e => hrw2.notg J _ hJN (by rw [HV.out]; exact e) rfl
        have hxw := hxr.trans hx3
        have hsz := hxw.size
        clear c0 f0 a0 hLl
        go_wp2_with (
          at_builtin
          refine wpList_append_mine _ rfl _ _ _ _ rfl w.heap.size U8 i0 _ 1 1 under_bytes hi0 hz0 hz1 hz2 rfl Ao no co _ rfl hbo2.own _ rfl n2 (L.map bv) (hb2.sl.src under_bytes) (by simp only [maxLen]; omega) (by omega) hsz ?_
          intro A3 c3 w3 hown3 hg3 hr3
          have c03 := cell_grownW hg3 c02 hng
          have f03 := frozen_grownW hg3 hlt2 hng f02)
        have hb3 : Byt U8 w3 w.heap.size A3 (no + n2) c3 (r ++ L) := Byt.more hbo2.len hb2.len hown3 rfl
        have hgr := hrw2.grow hJN HV.out hg3 hb3 hr3
        rw [← HNX.out, ← HRN.out] at hgr
        have HGR := Lib.hid hgr
        have hx4 : Ext w (w3.setCell ⟨w.heap.size, J, none⟩ (.slice A3 (no + n2) c3)) := Ext.sets (show Ext w w3 from below_grown hxw hbo2.own hg3 hsz) (p := ⟨w.heap.size, J, none⟩) (Nat.le_refl _) _
        clear hgr hb3 hown3 hg3 hr3 hrw2 hbo2 hb2 hrw hbo
        go_wp2_with fail
        go_roundw
        case rel => exact ⟨k + 1, _, by omega, by go_num, HGR, hx4⟩
        case measure => simp [intOf]; omega
      · have hnd0 : 0 < nd := by rw [← hsl.len]; exact List.length_pos_iff.2 hd0
        have hp : pay d = d.take 40 := by unfold pay; rw [if_neg hd0]
        rw [hp] at hlr hL
        by_cases h40 : nd ≤ 40
        · obtain ⟨hcut, hs2⟩ := cut_upto hsl nd (nd : Int) rfl (Nat.le_refl _)
          have e40 : d.take 40 = d := List.take_of_length_le (by rw [hsl.len]; exact h40)
          rw [e40, hsl.len] at hlr hL
          have HR1 := Lib.hid hlr
          have HL1 := Lib.hid hL
          clear hlr hL hly hp hd hd0 e40 hs2
          go_wp2_with fail
          refine (ref_Lay hsl HR1 HL1).mono ?_
          rintro e w2 ⟨A2, n2, c2, rfl, hb2, hx2⟩
          have hn2 : n2 ≤ 112 := by rw [← hb2.len]; exact hLl
          have hx3 : Ext wr w2 := hx2
          have hrw2 := hrw.out.ext hx3
          have hlt2 := hrw2.lt
          have hbo2 := hbo.ext hx3
          have c02 := hx3.cell c0
          have f02 : w2.frozen? ⟨w.heap.size, J, none⟩ = false := by
            have e : w2.frozen? ⟨w.heap.size, J, none⟩ = wr.frozen? ⟨w.heap.size, J, none⟩ := Below.frozen hx3 hrw.out.lt
            rw [e]; exact f0
          have hng : rowOf Ao co ≠ some w.heap.size := fun e => hrw2.notg J _ hJN (by rw [HV.out]; exact e) rfl
          have hxw := hxr.trans hx3
          have hsz := hxw.size
          clear c0 f0 a0 hLl
          go_wp2_with (
            at_builtin
            refine wpList_append_mine _ rfl _ _ _ _ rfl w.heap.size U8 i0 _ 1 1 under_bytes hi0 hz0 hz1 hz2 rfl Ao no co _ rfl hbo2.own _ rfl n2 (L.map bv) (hb2.sl.src under_bytes) (by simp only [maxLen]; omega) (by omega) hsz ?_
            intro A3 c3 w3 hown3 hg3 hr3
            have c03 := cell_grownW hg3 c02 hng
            have f03 := frozen_grownW hg3 hlt2 hng f02)
          have hb3 : Byt U8 w3 w.heap.size A3 (no + n2) c3 (r ++ L) := Byt.more hbo2.len hb2.len hown3 rfl
          have hgr := hrw2.grow hJN HV.out hg3 hb3 hr3
          rw [← HNX.out, ← HRN.out] at hgr
          have HGR := Lib.hid hgr
          have hx4 : Ext w (w3.setCell ⟨w.heap.size, J, none⟩ (.slice A3 (no + n2) c3)) := Ext.sets (show Ext w w3 from below_grown hxw hbo2.own hg3 hsz) (p := ⟨w.heap.size, J, none⟩) (Nat.le_refl _) _
          clear hgr hb3 hown3 hg3 hr3 hrw2 hbo2 hb2 hrw hbo
          go_wp2_with fail
          go_roundw
          case rel => exact ⟨k + 1, _, by omega, by go_num, HGR, hx4⟩
          case measure => simp [intOf]; omega
        · obtain ⟨hcut, hs2⟩ := cut_upto hsl 40 (40 : Int) rfl (by omega)
          have e40 : (d.take 40).length = 40 := by rw [List.length_take, hsl.len]; omega
          rw [e40] at hlr hL
          have HR1 := Lib.hid hlr
          have HL1 := Lib.hid hL
          have hmin : min (nd : Int) 40 = 40 := by omega
          clear hlr hL hly hp hd hd0 e40
          go_wp2_with fail
          refine (ref_Lay hs2 HR1 HL1).mono ?_
          rintro e w2 ⟨A2, n2, c2, rfl, hb2, hx2⟩
          have hn2 : n2 ≤ 112 := by rw [← hb2.len]; exact hLl
          have hx3 : Ext wr w2 := hx2
          have hrw2 := hrw.out.ext hx3
          have hlt2 := hrw2.lt
          have hbo2 := hbo.ext hx3
          have c02 := hx3.cell c0
          have f02 : w2.frozen? ⟨w.heap.size, J, none⟩ = false := by
            have e : w2.frozen? ⟨w.heap.size, J, none⟩ = wr.frozen? ⟨w.heap.size, J, none⟩ := Below.frozen hx3 hrw.out.lt
            rw [e]; exact f0
          have hng : rowOf Ao co ≠ some w.heap.size := fun e => hrw2.notg J _ hJN (by rw [HV.out]; exact e) rfl
          have hxw := hxr.trans hx3
          have hsz := hxw.size
          clear c0 f0 a0 hLl
          go_wp2_with (
            at_builtin
            refine wpList_append_mine _ rfl _ _ _ _ rfl w.heap.size U8 i0 _ 1 1 under_bytes hi0 hz0 hz1 hz2 rfl Ao no co _ rfl hbo2.own _ rfl n2 (L.map bv) (hb2.sl.src under_bytes) (by simp only [maxLen]; omega) (by omega) hsz ?_
            intro A3 c3 w3 hown3 hg3 hr3
            have c03 := cell_grownW hg3 c02 hng
            have f03 := frozen_grownW hg3 hlt2 hng f02)
          have hb3 : Byt U8 w3 w.heap.size A3 (no + n2) c3 (r ++ L) := Byt.more hbo2.len hb2.len hown3 rfl
          have hgr := hrw2.grow hJN HV.out hg3 hb3 hr3
          rw [← HNX.out, ← HRN.out] at hgr
          have HGR := Lib.hid hgr
          have hx4 : Ext w (w3.setCell ⟨w.heap.size, J, none⟩ (.slice A3 (no + n2) c3)) := Ext.sets (show Ext w w3 from below_grown hxw hbo2.own hg3 hsz) (p := ⟨w.heap.size, J, none⟩) (Nat.le_refl _) _
          clear hgr hb3 hown3 hg3 hr3 hrw2 hbo2 hb2 hrw hbo
          go_wp2_with fail
          go_roundw
          case rel => exact ⟨k + 1, _, by omega, by go_num, HGR, hx4⟩
          case measure => simp [intOf]; omega
    · obtain rfl : k = n := by omega
      rw [List.take_of_length_le (by rw [hl.len]; exact Nat.le_refl _)] at hrw
      go_wp2_with fail
      go_ret
      exact ⟨_, _, rfl, hrw.out, hxr⟩
end Go.Proofs.Ytcchlkialgjamaa
