/-
  Chapter 9: the statement MsgBack, walked.
-/
import Derived.Test.YtoeknbogaclfdaaZFromMsGetToBackPlain
namespace Go.Proofs.Ytoeknbogaclfdaa
open Go.RowKit
set_option linter.unusedVariables false
set_option linter.unusedSimpArgs false
set_option linter.unnecessarySimpa false
set_option maxRecDepth 100000

theorem putM_open (m : Ms) : crcOpen (putM m) = some (bodyM m) := crcOpen_put _
theorem putM_turned {h : Ms} (hr : rightM h = true) {j : Nat} (hj : j < (putM h).length) {x : UInt8} (hx : x ≠ 0) : crcOpen ((putM h).set j ((putM h).getD j 0 ^^^ x)) = none := by
  have hs : (putM h).drop ((putM h).length - 4) = le 4 (crcOf ((putM h).take ((putM h).length - 4))) := by
    have e : (putM h).length - 4 = (bodyM h).length := by rw [putM_app, List.length_append, le_length]; omega
    rw [e, putM_app, List.drop_left, List.take_left]
  have hl := putM_len hr
  have hu := unle_set_xor (putM h) j x hj
  rw [show (256 : Nat) ^ j = 2 ^ (8 * j) by rw [Nat.pow_mul]] at hu
  have hc := crcOpen_turned (by omega) hs (by simp) hu (by have := x.toNat_lt; omega) (by omega)
  rw [if_neg] at hc
  · exact hc
  · intro e
    exact hx (UInt8.toNat_inj.1 e)
theorem rightM_fit {m : Ms} (hr : rightM m = true) : EnFit m.ents ∧ Shorts m.marks := by
  have hg : getM false (putM m) = some m := getM_iff.2 ⟨hr, rfl⟩
  cases hc : crcOpen (putM m) with
  | none => rw [getM_open hc] at hg; cases hg
  | some c =>
    cases hp : parseM false c with
    | none => rw [getM_form hc hp] at hg; cases hg
    | some m' =>
      rw [getM_at hc hp] at hg
      split at hg
      · injection hg with hg
        subst hg
        obtain ⟨a, b⟩ := parseM_fit hp
        exact ⟨a, fun x hx => by have := b x hx; omega⟩
      · cases hg
set_option maxHeartbeats 8000000 in
theorem law_MsgBack (a0 : Int) (Ai : Option Addr) (n ci : Nat) (l : List Int) (Ap : Option Addr) (np cp : Nat) (pl : List UInt8) (t xi : Int) (w : World) (hi : Lst 1 intR w Ai n ci l) (hp : Sl w Ap np cp pl) (ht1 : t ≤ 9223372036854775807) (hx0 : 0 ≤ xi) (hx1 : xi ≤ 255) :
    Calls Try.prog 3 #[.int .i64 a0, .slice Ai n ci, .slice Ap np cp, .int .i64 t, .int .u8 xi] w fun e w' => e = .returned (.bool true) ∧ Ext w w' := by
  have h63 := hi.n63
  have h63p := hp.n63
  by_cases hn30 : 40 < n
  · clear hx0 hx1 ht1
    go_enter Try.func3, Try.ntmps3
    go_wp2_with fail
    refine (law9_known _).mono ?_
    rintro e wz ⟨rfl, hxz⟩
    go_wp2_with fail
    go_ret
    exact ⟨rfl, hxz⟩
  have d30 : decide ((40 : Int) < (n : Int)) = false := by simp; omega
  by_cases hp30 : 200 < np
  · clear hx0 hx1 ht1
    go_enter Try.func3, Try.ntmps3
    go_wp2_with fail
    refine (law9_known _).mono ?_
    rintro e wz ⟨rfl, hxz⟩
    go_wp2_with fail
    go_ret
    exact ⟨rfl, hxz⟩
  have d31 : decide ((200 : Int) < (np : Int)) = false := by simp; omega
  by_cases htn : t < 0
  · clear hx0 hx1 ht1
    go_enter Try.func3, Try.ntmps3
    go_wp2_with fail
    refine (law9_known _).mono ?_
    rintro e wz ⟨rfl, hxz⟩
    go_wp2_with fail
    go_ret
    exact ⟨rfl, hxz⟩
  obtain ⟨T, rfl⟩ := Int.eq_ofNat_of_zero_le (by omega : 0 ≤ t)
  obtain ⟨x, rfl⟩ : ∃ y : UInt8, xi = (y.toNat : Int) := ⟨UInt8.ofNat xi.toNat, by simp; omega⟩
  clear hx0 hx1 htn
  obtain ⟨i0, hi0, hz0, hz1, hz2⟩ := info_parts info_u8
  obtain ⟨h, hh⟩ : ∃ h, makeM a0 l pl = h := ⟨_, rfl⟩
  have hr : rightM h = true := by rw [← hh]; exact make_rightM a0 l pl (by rw [hi.len]; omega)
  have HH := Lib.hid hh
  have HR := Lib.hid hr
  obtain ⟨L, hL⟩ : ∃ L, putM h = L := ⟨_, rfl⟩
  have HPL : Hid (putMr h true = L) := hL
  have hlen := putM_len hr
  rw [hL] at hlen
  have HG : Hid (getM false L = some h) := getM_iff.2 ⟨hr, hL⟩
  have HY : Hid (whyO (crcOpen L) (some h).isSome = 0) := by unfold Hid; rw [← hL, putM_open]; rfl
  obtain ⟨m, hm⟩ : ∃ m, L.length = m + 1 := ⟨L.length - 1, by omega⟩
  have hm1 : 9 ≤ m ∧ m ≤ 3000 := by omega
  have HM := Lib.hid hm
  obtain ⟨j, hj, hjl⟩ : ∃ j : Nat, (T : Int) % ((m : Int) + 1) = (j : Int) ∧ j < m + 1 := ⟨T % (m + 1), by simp, Nat.mod_lt _ (by omega)⟩
  obtain ⟨y, hy⟩ : ∃ y, L.getD j 0 = y := ⟨_, rfl⟩
  have HYJ := Lib.hid hy
  obtain ⟨C, hC⟩ : ∃ C, L.set j (y ^^^ x) = C := ⟨_, rfl⟩
  have HC := Lib.hid hC
  have hx00 : Hid (x = 0 → getM false C = some h ∧ crcOpen C = some (bodyM h)) := by
    intro e
    subst e
    rw [← hC, ← hy, set_xor0 L j (by omega), ← hL]
    exact ⟨getM_iff.2 ⟨hr, rfl⟩, putM_open h⟩
  have hx01 : Hid (x ≠ 0 → getM false C = none ∧ crcOpen C = none) := by
    intro e
    rw [← hC, ← hy, ← hL]
    have := putM_turned hr (j := j) (by rw [hL]; omega) e
    exact ⟨getM_open this, this⟩
  have hval : bits .xor .u8 (y.toNat : Int) (x.toNat : Int) = ((y ^^^ x).toNat : Int) := by
    rw [u8_xor_nat _ _ y.toNat_lt x.toNat_lt, UInt8.toNat_xor]
  obtain ⟨hf1, hf2⟩ := rightM_fit hr
  have HF := Lib.hid hf1
  have HSH : Hid (Shorts h.marks) := hf2
  have HSS : Hid (sameMs h h = true) := by unfold Hid sameMs; simp
  obtain ⟨q1, q2, q3, q4, q5, q6, qa, qb, qc, qd⟩ := h
  simp only at HSH HF
  clear hh hr hL hlen hm hy hC hf1 hf2
  go_enter Try.func3, Try.ntmps3
  go_wp2_with fail
  refine (law9_Make hi (by omega) hp (by omega) HH).mono ?_
  rintro e w1 ⟨A1, An1, Ac1, A2, An2, Ac2, A3, An3, Ac3, A4, An4, Ac4, rfl, ol, hx1⟩
  have o63 := ol.n63
  have b0 := cell_new w1 #[.int .i64 q1, .int .i64 q2, .int .i64 q3, .int .i64 q4, .int .i64 q5, .int .i64 q6, .slice A1 An1 Ac1, .slice A2 An2 Ac2, .slice A3 An3 Ac3, .slice A4 An4 Ac4] TMs 0
  have b1 := cell_new w1 #[.int .i64 q1, .int .i64 q2, .int .i64 q3, .int .i64 q4, .int .i64 q5, .int .i64 q6, .slice A1 An1 Ac1, .slice A2 An2 Ac2, .slice A3 An3 Ac3, .slice A4 An4 Ac4] TMs 1
  have b2 := cell_new w1 #[.int .i64 q1, .int .i64 q2, .int .i64 q3, .int .i64 q4, .int .i64 q5, .int .i64 q6, .slice A1 An1 Ac1, .slice A2 An2 Ac2, .slice A3 An3 Ac3, .slice A4 An4 Ac4] TMs 2
  have b3 := cell_new w1 #[.int .i64 q1, .int .i64 q2, .int .i64 q3, .int .i64 q4, .int .i64 q5, .int .i64 q6, .slice A1 An1 Ac1, .slice A2 An2 Ac2, .slice A3 An3 Ac3, .slice A4 An4 Ac4] TMs 3
  have b4 := cell_new w1 #[.int .i64 q1, .int .i64 q2, .int .i64 q3, .int .i64 q4, .int .i64 q5, .int .i64 q6, .slice A1 An1 Ac1, .slice A2 An2 Ac2, .slice A3 An3 Ac3, .slice A4 An4 Ac4] TMs 4
  have b5 := cell_new w1 #[.int .i64 q1, .int .i64 q2, .int .i64 q3, .int .i64 q4, .int .i64 q5, .int .i64 q6, .slice A1 An1 Ac1, .slice A2 An2 Ac2, .slice A3 An3 Ac3, .slice A4 An4 Ac4] TMs 5
  have b6 := cell_new w1 #[.int .i64 q1, .int .i64 q2, .int .i64 q3, .int .i64 q4, .int .i64 q5, .int .i64 q6, .slice A1 An1 Ac1, .slice A2 An2 Ac2, .slice A3 An3 Ac3, .slice A4 An4 Ac4] TMs 6
  have b7 := cell_new w1 #[.int .i64 q1, .int .i64 q2, .int .i64 q3, .int .i64 q4, .int .i64 q5, .int .i64 q6, .slice A1 An1 Ac1, .slice A2 An2 Ac2, .slice A3 An3 Ac3, .slice A4 An4 Ac4] TMs 7
  have b8 := cell_new w1 #[.int .i64 q1, .int .i64 q2, .int .i64 q3, .int .i64 q4, .int .i64 q5, .int .i64 q6, .slice A1 An1 Ac1, .slice A2 An2 Ac2, .slice A3 An3 Ac3, .slice A4 An4 Ac4] TMs 8
  have b9 := cell_new w1 #[.int .i64 q1, .int .i64 q2, .int .i64 q3, .int .i64 q4, .int .i64 q5, .int .i64 q6, .slice A1 An1 Ac1, .slice A2 An2 Ac2, .slice A3 An3 Ac3, .slice A4 An4 Ac4] TMs 9
  have gx1 := hx1.allocs (.cells #[.int .i64 q1, .int .i64 q2, .int .i64 q3, .int .i64 q4, .int .i64 q5, .int .i64 q6, .slice A1 An1 Ac1, .slice A2 An2 Ac2, .slice A3 An3 Ac3, .slice A4 An4 Ac4] TMs)
  have l1 := ol.ext (Ext.alloc w1 (.cells #[.int .i64 q1, .int .i64 q2, .int .i64 q3, .int .i64 q4, .int .i64 q5, .int .i64 q6, .slice A1 An1 Ac1, .slice A2 An2 Ac2, .slice A3 An3 Ac3, .slice A4 An4 Ac4] TMs))
  clear hx1 ol
  go_wp2_with fail
  refine (msg_Put l1 HF HSH HR HPL).mono ?_
  rintro e w2 ⟨P2, n2, c2, rfl, hb2, hx2⟩
  have her : (if true = true then (0 : Int) else 1) = 0 := rfl
  rw [her]
  clear her
  obtain rfl : n2 = m + 1 := by rw [← hb2.len]; exact HM.out
  replace b0 := hx2.cell b0
  replace b1 := hx2.cell b1
  replace b2 := hx2.cell b2
  replace b3 := hx2.cell b3
  replace b4 := hx2.cell b4
  replace b5 := hx2.cell b5
  replace b6 := hx2.cell b6
  replace b7 := hx2.cell b7
  replace b8 := hx2.cell b8
  replace b9 := hx2.cell b9
  replace gx1 := gx1.trans hx2
  replace l1 := l1.ext hx2
  have hs2 := hb2.sl
  clear hb2 hx2
  go_wp2_with fail
  have hgc := msg_Get hs2 (by omega) HG HY
  simp only [Option.getD_some] at hgc
  refine hgc.mono ?_
  rintro e w3 ⟨B1, Bn1, Bc1, B2, Bn2, Bc2, B3, Bn3, Bc3, B4, Bn4, Bc4, rfl, l3, hx3⟩
  clear hgc
  have o64 := l3.n63
  have hx4 := hx3.allocs (.cells #[.int .i64 q1, .int .i64 q2, .int .i64 q3, .int .i64 q4, .int .i64 q5, .int .i64 q6, .slice B1 Bn1 Bc1, .slice B2 Bn2 Bc2, .slice B3 Bn3 Bc3, .slice B4 Bn4 Bc4] TMs)
  replace b0 := hx4.cell b0
  replace b1 := hx4.cell b1
  replace b2 := hx4.cell b2
  replace b3 := hx4.cell b3
  replace b4 := hx4.cell b4
  replace b5 := hx4.cell b5
  replace b6 := hx4.cell b6
  replace b7 := hx4.cell b7
  replace b8 := hx4.cell b8
  replace b9 := hx4.cell b9
  have d0 := cell_new w3 #[.int .i64 q1, .int .i64 q2, .int .i64 q3, .int .i64 q4, .int .i64 q5, .int .i64 q6, .slice B1 Bn1 Bc1, .slice B2 Bn2 Bc2, .slice B3 Bn3 Bc3, .slice B4 Bn4 Bc4] TMs 0
  have d1 := cell_new w3 #[.int .i64 q1, .int .i64 q2, .int .i64 q3, .int .i64 q4, .int .i64 q5, .int .i64 q6, .slice B1 Bn1 Bc1, .slice B2 Bn2 Bc2, .slice B3 Bn3 Bc3, .slice B4 Bn4 Bc4] TMs 1
  have d2 := cell_new w3 #[.int .i64 q1, .int .i64 q2, .int .i64 q3, .int .i64 q4, .int .i64 q5, .int .i64 q6, .slice B1 Bn1 Bc1, .slice B2 Bn2 Bc2, .slice B3 Bn3 Bc3, .slice B4 Bn4 Bc4] TMs 2
  have d3 := cell_new w3 #[.int .i64 q1, .int .i64 q2, .int .i64 q3, .int .i64 q4, .int .i64 q5, .int .i64 q6, .slice B1 Bn1 Bc1, .slice B2 Bn2 Bc2, .slice B3 Bn3 Bc3, .slice B4 Bn4 Bc4] TMs 3
  have d4 := cell_new w3 #[.int .i64 q1, .int .i64 q2, .int .i64 q3, .int .i64 q4, .int .i64 q5, .int .i64 q6, .slice B1 Bn1 Bc1, .slice B2 Bn2 Bc2, .slice B3 Bn3 Bc3, .slice B4 Bn4 Bc4] TMs 4
  have d5 := cell_new w3 #[.int .i64 q1, .int .i64 q2, .int .i64 q3, .int .i64 q4, .int .i64 q5, .int .i64 q6, .slice B1 Bn1 Bc1, .slice B2 Bn2 Bc2, .slice B3 Bn3 Bc3, .slice B4 Bn4 Bc4] TMs 5
  have d6 := cell_new w3 #[.int .i64 q1, .int .i64 q2, .int .i64 q3, .int .i64 q4, .int .i64 q5, .int .i64 q6, .slice B1 Bn1 Bc1, .slice B2 Bn2 Bc2, .slice B3 Bn3 Bc3, .slice B4 Bn4 Bc4] TMs 6
  have d7 := cell_new w3 #[.int .i64 q1, .int .i64 q2, .int .i64 q3, .int .i64 q4, .int .i64 q5, .int .i64 q6, .slice B1 Bn1 Bc1, .slice B2 Bn2 Bc2, .slice B3 Bn3 Bc3, .slice B4 Bn4 Bc4] TMs 7
  have d8 := cell_new w3 #[.int .i64 q1, .int .i64 q2, .int .i64 q3, .int .i64 q4, .int .i64 q5, .int .i64 q6, .slice B1 Bn1 Bc1, .slice B2 Bn2 Bc2, .slice B3 Bn3 Bc3, .slice B4 Bn4 Bc4] TMs 8
  have d9 := cell_new w3 #[.int .i64 q1, .int .i64 q2, .int .i64 q3, .int .i64 q4, .int .i64 q5, .int .i64 q6, .slice B1 Bn1 Bc1, .slice B2 Bn2 Bc2, .slice B3 Bn3 Bc3, .slice B4 Bn4 Bc4] TMs 9
  replace gx1 := gx1.trans hx4
  replace hs2 := hs2.ext hx4
  replace l1 := l1.ext hx4
  have l3' := l3.ext (Ext.alloc w3 (.cells #[.int .i64 q1, .int .i64 q2, .int .i64 q3, .int .i64 q4, .int .i64 q5, .int .i64 q6, .slice B1 Bn1 Bc1, .slice B2 Bn2 Bc2, .slice B3 Bn3 Bc3, .slice B4 Bn4 Bc4] TMs))
  clear hx3 hx4 l3
  go_wp2_with fail
  refine (ref_SameMsg l1 l3' HSS).mono ?_
  rintro e w5 ⟨rfl, hx5⟩
  replace gx1 := gx1.trans hx5
  replace hs2 := hs2.ext hx5
  have hcap := hs2.cap
  clear hx5 l1 l3' b0 b1 b2 b3 b4 b5 b6 b7 b8 b9 d0 d1 d2 d3 d4 d5 d6 d7 d8 d9
  have d10 : decide ((m : Int) + 1 < 10) = false := by simp; omega
  have d11 : decide (4096 < (m : Int) + 1) = false := by simp; omega
  go_wp2_with (
    at_builtin
    refine wpList_append_mine _ rfl (.tmp 68) (.tmp 69) _ _ rfl w5.heap.size U8 i0 _ 1 1 under_bytes hi0 hz0 hz1 hz2 rfl _ 0 0 _ rfl (Own.nil _ _ _ _ _) _ rfl (m + 1) (L.map bv) ((hs2.ext (Ext.alloc _ _)).src under_bytes) (by simp only [maxLen]; omega) (by omega) (by simp) ?_
    intro A5 c5 w6 hown hg _
    have hbC : Byt U8 w6 w5.heap.size A5 (m + 1) c5 L := ⟨HM.out, by simpa using hown⟩
    have hx6 : Ext w5 w6 := below_grown (Ext.alloc w5 _) (Own.nil _ _ U8 1 _) hg (by simp)
    clear hown hg
    obtain ⟨gC, rfl, hgB, hgl, hcl⟩ := hbC.open_ (by omega)
    obtain ⟨hcell, hfro⟩ := hcl j hjl
    rw [HYJ.out] at hcell
    clear hcl)
  have hb6 := hbC.set_ hjl (y ^^^ x)
  rw [HC.out] at hb6
  have hgw : w.heap.size ≤ gC := Nat.le_trans gx1.size hgB
  replace gx1 := (gx1.trans hx6).sets (p := ⟨gC, j, none⟩) hgw (bv (y ^^^ x))
  have hsC := hb6.sl
  clear hb6 hbC hx6 hcell hfro hval hs2
  by_cases hx : x = 0
  · obtain ⟨hg2, hc2⟩ := hx00.out hx
    subst hx
    have HG2 := Lib.hid hg2
    have HY2 : Hid (whyO (crcOpen C) (some (⟨q1, q2, q3, q4, q5, q6, qa, qb, qc, qd⟩ : Ms)).isSome = 0) := by unfold Hid; rw [hc2]; rfl
    clear hg2 hc2 hx00 hx01
    have hgc := msg_Get hsC (by omega) HG2 HY2
    simp only [Option.getD_some] at hgc
    refine hgc.mono ?_
    rintro e w7 ⟨D1, Dn1, Dc1, D2, Dn2, Dc2, D3, Dn3, Dc3, D4, Dn4, Dc4, rfl, h7, hx7⟩
    clear hgc
    have q7 := h7.n63
    have z0 : (w7.alloc (.cells #[.int .i64 q1, .int .i64 q2, .int .i64 q3, .int .i64 q4, .int .i64 q5, .int .i64 q6, .slice D1 Dn1 Dc1, .slice D2 Dn2 Dc2, .slice D3 Dn3 Dc3, .slice D4 Dn4 Dc4] TMs)).cell? ⟨w7.heap.size, 0, none⟩ = some (.int .i64 q1) := cell_new _ _ _ 0
    replace gx1 := gx1.trans (hx7.allocs (.cells #[.int .i64 q1, .int .i64 q2, .int .i64 q3, .int .i64 q4, .int .i64 q5, .int .i64 q6, .slice D1 Dn1 Dc1, .slice D2 Dn2 Dc2, .slice D3 Dn3 Dc3, .slice D4 Dn4 Dc4] TMs))
    clear hx7 h7 hsC
    go_wp2_with fail
    refine (law9_known _).mono ?_
    rintro e wz ⟨rfl, hxz⟩
    go_wp2_with fail
    go_ret
    exact ⟨rfl, gx1.trans hxz⟩
  · obtain ⟨hg2, hc2⟩ := hx01.out hx
    have hxb : ((x.toNat : Int) == 0) = false := by
      have : x.toNat ≠ 0 := fun e => hx (UInt8.toNat_inj.1 e)
      simp
      omega
    have HG2 := Lib.hid hg2
    have HY2 : Hid (whyO (crcOpen C) (none : Option Ms).isSome = 13) := by unfold Hid; rw [hc2]; rfl
    clear hg2 hc2 hx00 hx01 hx
    have hgc := msg_Get hsC (by omega) HG2 HY2
    simp only [Option.getD_none] at hgc
    refine hgc.mono ?_
    rintro e w7 ⟨D1, Dn1, Dc1, D2, Dn2, Dc2, D3, Dn3, Dc3, D4, Dn4, Dc4, rfl, h7, hx7⟩
    clear hgc
    have q7 := h7.n63
    have z0 : (w7.alloc (.cells #[.int .i64 0, .int .i64 0, .int .i64 0, .int .i64 0, .int .i64 0, .int .i64 0, .slice D1 Dn1 Dc1, .slice D2 Dn2 Dc2, .slice D3 Dn3 Dc3, .slice D4 Dn4 Dc4] TMs)).cell? ⟨w7.heap.size, 0, none⟩ = some (.int .i64 0) := cell_new _ _ _ 0
    replace gx1 := gx1.trans (hx7.allocs (.cells #[.int .i64 0, .int .i64 0, .int .i64 0, .int .i64 0, .int .i64 0, .int .i64 0, .slice D1 Dn1 Dc1, .slice D2 Dn2 Dc2, .slice D3 Dn3 Dc3, .slice D4 Dn4 Dc4] TMs))
    clear hx7 h7 hsC
    go_wp2_with fail
    refine (law9_known _).mono ?_
    rintro e wz ⟨rfl, hxz⟩
    go_wp2_with fail
    go_ret
    exact ⟨rfl, gx1.trans hxz⟩
end Go.Proofs.Ytoeknbogaclfdaa
