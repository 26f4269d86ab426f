/-
  Chapter 9: the statement MsgBack, walked.
-/
/-
  Arguments of a call opened: bytes, structs whose fields are one cell each. From the kit's reading of Go's data (DataW) to this claim's own words.
-/
/-
  Slices of rows of cells that came in, opened.
-/
/-
  Slices of integers and of tags that came in, opened.
-/
import Derived.Test.YtoeknbogaclfdaaZFromMsGetToBackPlain
import Derived.Test.YtoeknbogaclfdaaZCore
import Derived.ProofKit
import Derived.OpenShut
import Derived.ShutString
import Derived.ChangeOld
import Derived.Below
import Derived.Deep.Slices
import Derived.Deep.Fields
import Derived.ChangeSame
import Derived.Test.YtoeknbogaclfdaaZFromMkToMkSame
import Derived.Test.YtoeknbogaclfdaaZFromTextToChainBytes
namespace Go.Proofs.Ytoeknbogaclfdaa
open Go.RowKit
set_option linter.unusedVariables false
set_option linter.unusedSimpArgs false
set_option linter.unnecessarySimpa false
set_option maxRecDepth 100000

theorem putM_open (m : Ms) : crcOpen (putM m) = some (bodyM m) := crcOpen_put _
theorem putM_turned {h : Ms} (hr : rightM h = true) {j : Nat} (hj : j < (putM h).length) {x : UInt8} (hx : x ≠ 0) : crcOpen ((putM h).set j ((putM h).getD j 0 ^^^ x)) = none := by
  have hs : (putM h).drop ((putM h).length - 4) = le 4 (crcOf ((putM h).take ((putM h).length - 4))) := by
    have e : (putM h).length - 4 = (bodyM h).length := by rw [putM_app, List.length_append, le_length]; omega
    rw [e, putM_app, List.drop_left, List.take_left]
  have hl := putM_len hr
  have hu := unle_set_xor (putM h) j x hj
  rw [show (256 : Nat) ^ j = 2 ^ (8 * j) by rw [Nat.pow_mul]] at hu
  have hc := crcOpen_turned (by omega) hs (by simp) hu (by have := x.toNat_lt; omega) (by omega)
  rw [if_neg] at hc
  · exact hc
  · intro e
    exact hx (UInt8.toNat_inj.1 e)
theorem rightM_fit {m : Ms} (hr : rightM m = true) : EnFit m.ents ∧ Shorts m.marks := by
  have hg : getM false (putM m) = some m := getM_iff.2 ⟨hr, rfl⟩
  cases hc : crcOpen (putM m) with
  | none => rw [getM_open hc] at hg; cases hg
  | some c =>
    cases hp : parseM false c with
    | none => rw [getM_form hc hp] at hg; cases hg
    | some m' =>
      rw [getM_at hc hp] at hg
      split at hg
      · injection hg with hg
        subst hg
        obtain ⟨a, b⟩ := parseM_fit hp
        exact ⟨a, fun x hx => by have := b x hx; omega⟩
      · cases hg
set_option maxHeartbeats 8000000 in
theorem law_MsgBack (a0 : Int) (Ai : Option Addr) (n ci : Nat) (l : List Int) (Ap : Option Addr) (np cp : Nat) (pl : List UInt8) (t xi : Int) (w : World) (hi : Lst 1 intR w Ai n ci l) (hp : Sl w Ap np cp pl) (ht1 : t ≤ 9223372036854775807) (hx0 : 0 ≤ xi) (hx1 : xi ≤ 255) :
    Calls Try.prog 3 #[.int .i64 a0, .slice Ai n ci, .slice Ap np cp, .int .i64 t, .int .u8 xi] w fun e w' => e = .returned (.bool true) ∧ Ext w w' := by
  have h63 := hi.n63
  have h63p := hp.n63
  by_cases hn30 : 40 < n
  · clear hx0 hx1 ht1
    go_enter Try.func3, Try.ntmps3
    go_wp2_with fail
    refine (law9_known _).mono ?_
    rintro e wz ⟨rfl, hxz⟩
    go_wp2_with fail
    go_ret
    exact ⟨rfl, hxz⟩
  have d30 : decide ((40 : Int) < (n : Int)) = false := by simp; omega
  by_cases hp30 : 200 < np
  · clear hx0 hx1 ht1
    go_enter Try.func3, Try.ntmps3
    go_wp2_with fail
    refine (law9_known _).mono ?_
    rintro e wz ⟨rfl, hxz⟩
    go_wp2_with fail
    go_ret
    exact ⟨rfl, hxz⟩
  have d31 : decide ((200 : Int) < (np : Int)) = false := by simp; omega
  by_cases htn : t < 0
  · clear hx0 hx1 ht1
    go_enter Try.func3, Try.ntmps3
    go_wp2_with fail
    refine (law9_known _).mono ?_
    rintro e wz ⟨rfl, hxz⟩
    go_wp2_with fail
    go_ret
    exact ⟨rfl, hxz⟩
  obtain ⟨T, rfl⟩ := Int.eq_ofNat_of_zero_le (by omega : 0 ≤ t)
  obtain ⟨x, rfl⟩ : ∃ y : UInt8, xi = (y.toNat : Int) := ⟨UInt8.ofNat xi.toNat, by simp; omega⟩
  clear hx0 hx1 htn
  obtain ⟨i0, hi0, hz0, hz1, hz2⟩ := info_parts info_u8
  obtain ⟨h, hh⟩ : ∃ h, makeM a0 l pl = h := ⟨_, rfl⟩
  have hr : rightM h = true := by rw [← hh]; exact make_rightM a0 l pl (by rw [hi.len]; omega)
  have HH := Lib.hid hh
  have HR := Lib.hid hr
  obtain ⟨L, hL⟩ : ∃ L, putM h = L := ⟨_, rfl⟩
  have HPL : Hid (putMr h true = L) := hL
  have hlen := putM_len hr
  rw [hL] at hlen
  have HG : Hid (getM false L = some h) := getM_iff.2 ⟨hr, hL⟩
  have HY : Hid (whyO (crcOpen L) (some h).isSome = 0) := by unfold Hid; rw [← hL, putM_open]; rfl
  obtain ⟨m, hm⟩ : ∃ m, L.length = m + 1 := ⟨L.length - 1, by omega⟩
  have hm1 : 9 ≤ m ∧ m ≤ 3000 := by omega
  have HM := Lib.hid hm
  obtain ⟨j, hj, hjl⟩ : ∃ j : Nat, (T : Int) % ((m : Int) + 1) = (j : Int) ∧ j < m + 1 := ⟨T % (m + 1), by simp, Nat.mod_lt _ (by omega)⟩
  obtain ⟨y, hy⟩ : ∃ y, L.getD j 0 = y := ⟨_, rfl⟩
  have HYJ := Lib.hid hy
  obtain ⟨C, hC⟩ : ∃ C, L.set j (y ^^^ x) = C := ⟨_, rfl⟩
  have HC := Lib.hid hC
  have hx00 : Hid (x = 0 → getM false C = some h ∧ crcOpen C = some (bodyM h)) := by
    intro e
    subst e
    rw [← hC, ← hy, set_xor0 L j (by omega), ← hL]
    exact ⟨getM_iff.2 ⟨hr, rfl⟩, putM_open h⟩
  have hx01 : Hid (x ≠ 0 → getM false C = none ∧ crcOpen C = none) := by
    intro e
    rw [← hC, ← hy, ← hL]
    have := putM_turned hr (j := j) (by rw [hL]; omega) e
    exact ⟨getM_open this, this⟩
  have hval : bits .xor .u8 (y.toNat : Int) (x.toNat : Int) = ((y ^^^ x).toNat : Int) := by
    rw [u8_xor_nat _ _ y.toNat_lt x.toNat_lt, UInt8.toNat_xor]
  obtain ⟨hf1, hf2⟩ := rightM_fit hr
  have HF := Lib.hid hf1
  have HSH : Hid (Shorts h.marks) := hf2
  have HSS : Hid (sameMs h h = true) := by unfold Hid sameMs; simp
  obtain ⟨q1, q2, q3, q4, q5, q6, qa, qb, qc, qd⟩ := h
  simp only at HSH HF
  clear hh hr hL hlen hm hy hC hf1 hf2
  go_enter Try.func3, Try.ntmps3
  go_wp2_with fail
  refine (law9_Make hi (by omega) hp (by omega) HH).mono ?_
  rintro e w1 ⟨A1, An1, Ac1, A2, An2, Ac2, A3, An3, Ac3, A4, An4, Ac4, rfl, ol, hx1⟩
  have o63 := ol.n63
  have b0 := cell_new w1 #[.int .i64 q1, .int .i64 q2, .int .i64 q3, .int .i64 q4, .int .i64 q5, .int .i64 q6, .slice A1 An1 Ac1, .slice A2 An2 Ac2, .slice A3 An3 Ac3, .slice A4 An4 Ac4] TMs 0
  have b1 := cell_new w1 #[.int .i64 q1, .int .i64 q2, .int .i64 q3, .int .i64 q4, .int .i64 q5, .int .i64 q6, .slice A1 An1 Ac1, .slice A2 An2 Ac2, .slice A3 An3 Ac3, .slice A4 An4 Ac4] TMs 1
  have b2 := cell_new w1 #[.int .i64 q1, .int .i64 q2, .int .i64 q3, .int .i64 q4, .int .i64 q5, .int .i64 q6, .slice A1 An1 Ac1, .slice A2 An2 Ac2, .slice A3 An3 Ac3, .slice A4 An4 Ac4] TMs 2
  have b3 := cell_new w1 #[.int .i64 q1, .int .i64 q2, .int .i64 q3, .int .i64 q4, .int .i64 q5, .int .i64 q6, .slice A1 An1 Ac1, .slice A2 An2 Ac2, .slice A3 An3 Ac3, .slice A4 An4 Ac4] TMs 3
  have b4 := cell_new w1 #[.int .i64 q1, .int .i64 q2, .int .i64 q3, .int .i64 q4, .int .i64 q5, .int .i64 q6, .slice A1 An1 Ac1, .slice A2 An2 Ac2, .slice A3 An3 Ac3, .slice A4 An4 Ac4] TMs 4
  have b5 := cell_new w1 #[.int .i64 q1, .int .i64 q2, .int .i64 q3, .int .i64 q4, .int .i64 q5, .int .i64 q6, .slice A1 An1 Ac1, .slice A2 An2 Ac2, .slice A3 An3 Ac3, .slice A4 An4 Ac4] TMs 5
  have b6 := cell_new w1 #[.int .i64 q1, .int .i64 q2, .int .i64 q3, .int .i64 q4, .int .i64 q5, .int .i64 q6, .slice A1 An1 Ac1, .slice A2 An2 Ac2, .slice A3 An3 Ac3, .slice A4 An4 Ac4] TMs 6
  have b7 := cell_new w1 #[.int .i64 q1, .int .i64 q2, .int .i64 q3, .int .i64 q4, .int .i64 q5, .int .i64 q6, .slice A1 An1 Ac1, .slice A2 An2 Ac2, .slice A3 An3 Ac3, .slice A4 An4 Ac4] TMs 7
  have b8 := cell_new w1 #[.int .i64 q1, .int .i64 q2, .int .i64 q3, .int .i64 q4, .int .i64 q5, .int .i64 q6, .slice A1 An1 Ac1, .slice A2 An2 Ac2, .slice A3 An3 Ac3, .slice A4 An4 Ac4] TMs 8
  have b9 := cell_new w1 #[.int .i64 q1, .int .i64 q2, .int .i64 q3, .int .i64 q4, .int .i64 q5, .int .i64 q6, .slice A1 An1 Ac1, .slice A2 An2 Ac2, .slice A3 An3 Ac3, .slice A4 An4 Ac4] TMs 9
  have gx1 := hx1.allocs (.cells #[.int .i64 q1, .int .i64 q2, .int .i64 q3, .int .i64 q4, .int .i64 q5, .int .i64 q6, .slice A1 An1 Ac1, .slice A2 An2 Ac2, .slice A3 An3 Ac3, .slice A4 An4 Ac4] TMs)
  have l1 := ol.ext (Ext.alloc w1 (.cells #[.int .i64 q1, .int .i64 q2, .int .i64 q3, .int .i64 q4, .int .i64 q5, .int .i64 q6, .slice A1 An1 Ac1, .slice A2 An2 Ac2, .slice A3 An3 Ac3, .slice A4 An4 Ac4] TMs))
  clear hx1 ol
  go_wp2_with fail
  refine (msg_Put l1 HF HSH HR HPL).mono ?_
  rintro e w2 ⟨P2, n2, c2, rfl, hb2, hx2⟩
  have her : (if true = true then (0 : Int) else 1) = 0 := rfl
  rw [her]
  clear her
  obtain rfl : n2 = m + 1 := by rw [← hb2.len]; exact HM.out
  replace b0 := hx2.cell b0
  replace b1 := hx2.cell b1
  replace b2 := hx2.cell b2
  replace b3 := hx2.cell b3
  replace b4 := hx2.cell b4
  replace b5 := hx2.cell b5
  replace b6 := hx2.cell b6
  replace b7 := hx2.cell b7
  replace b8 := hx2.cell b8
  replace b9 := hx2.cell b9
  replace gx1 := gx1.trans hx2
  replace l1 := l1.ext hx2
  have hs2 := hb2.sl
  clear hb2 hx2
  go_wp2_with fail
  have hgc := msg_Get hs2 (by omega) HG HY
  simp only [Option.getD_some] at hgc
  refine hgc.mono ?_
  rintro e w3 ⟨B1, Bn1, Bc1, B2, Bn2, Bc2, B3, Bn3, Bc3, B4, Bn4, Bc4, rfl, l3, hx3⟩
  clear hgc
  have o64 := l3.n63
  have hx4 := hx3.allocs (.cells #[.int .i64 q1, .int .i64 q2, .int .i64 q3, .int .i64 q4, .int .i64 q5, .int .i64 q6, .slice B1 Bn1 Bc1, .slice B2 Bn2 Bc2, .slice B3 Bn3 Bc3, .slice B4 Bn4 Bc4] TMs)
  replace b0 := hx4.cell b0
  replace b1 := hx4.cell b1
  replace b2 := hx4.cell b2
  replace b3 := hx4.cell b3
  replace b4 := hx4.cell b4
  replace b5 := hx4.cell b5
  replace b6 := hx4.cell b6
  replace b7 := hx4.cell b7
  replace b8 := hx4.cell b8
  replace b9 := hx4.cell b9
  have d0 := cell_new w3 #[.int .i64 q1, .int .i64 q2, .int .i64 q3, .int .i64 q4, .int .i64 q5, .int .i64 q6, .slice B1 Bn1 Bc1, .slice B2 Bn2 Bc2, .slice B3 Bn3 Bc3, .slice B4 Bn4 Bc4] TMs 0
  have d1 := cell_new w3 #[.int .i64 q1, .int .i64 q2, .int .i64 q3, .int .i64 q4, .int .i64 q5, .int .i64 q6, .slice B1 Bn1 Bc1, .slice B2 Bn2 Bc2, .slice B3 Bn3 Bc3, .slice B4 Bn4 Bc4] TMs 1
  have d2 := cell_new w3 #[.int .i64 q1, .int .i64 q2, .int .i64 q3, .int .i64 q4, .int .i64 q5, .int .i64 q6, .slice B1 Bn1 Bc1, .slice B2 Bn2 Bc2, .slice B3 Bn3 Bc3, .slice B4 Bn4 Bc4] TMs 2
  have d3 := cell_new w3 #[.int .i64 q1, .int .i64 q2, .int .i64 q3, .int .i64 q4, .int .i64 q5, .int .i64 q6, .slice B1 Bn1 Bc1, .slice B2 Bn2 Bc2, .slice B3 Bn3 Bc3, .slice B4 Bn4 Bc4] TMs 3
  have d4 := cell_new w3 #[.int .i64 q1, .int .i64 q2, .int .i64 q3, .int .i64 q4, .int .i64 q5, .int .i64 q6, .slice B1 Bn1 Bc1, .slice B2 Bn2 Bc2, .slice B3 Bn3 Bc3, .slice B4 Bn4 Bc4] TMs 4
  have d5 := cell_new w3 #[.int .i64 q1, .int .i64 q2, .int .i64 q3, .int .i64 q4, .int .i64 q5, .int .i64 q6, .slice B1 Bn1 Bc1, .slice B2 Bn2 Bc2, .slice B3 Bn3 Bc3, .slice B4 Bn4 Bc4] TMs 5
  have d6 := cell_new w3 #[.int .i64 q1, .int .i64 q2, .int .i64 q3, .int .i64 q4, .int .i64 q5, .int .i64 q6, .slice B1 Bn1 Bc1, .slice B2 Bn2 Bc2, .slice B3 Bn3 Bc3, .slice B4 Bn4 Bc4] TMs 6
  have d7 := cell_new w3 #[.int .i64 q1, .int .i64 q2, .int .i64 q3, .int .i64 q4, .int .i64 q5, .int .i64 q6, .slice B1 Bn1 Bc1, .slice B2 Bn2 Bc2, .slice B3 Bn3 Bc3, .slice B4 Bn4 Bc4] TMs 7
  have d8 := cell_new w3 #[.int .i64 q1, .int .i64 q2, .int .i64 q3, .int .i64 q4, .int .i64 q5, .int .i64 q6, .slice B1 Bn1 Bc1, .slice B2 Bn2 Bc2, .slice B3 Bn3 Bc3, .slice B4 Bn4 Bc4] TMs 8
  have d9 := cell_new w3 #[.int .i64 q1, .int .i64 q2, .int .i64 q3, .int .i64 q4, .int .i64 q5, .int .i64 q6, .slice B1 Bn1 Bc1, .slice B2 Bn2 Bc2, .slice B3 Bn3 Bc3, .slice B4 Bn4 Bc4] TMs 9
  replace gx1 := gx1.trans hx4
  replace hs2 := hs2.ext hx4
  replace l1 := l1.ext hx4
  have l3' := l3.ext (Ext.alloc w3 (.cells #[.int .i64 q1, .int .i64 q2, .int .i64 q3, .int .i64 q4, .int .i64 q5, .int .i64 q6, .slice B1 Bn1 Bc1, .slice B2 Bn2 Bc2, .slice B3 Bn3 Bc3, .slice B4 Bn4 Bc4] TMs))
  clear hx3 hx4 l3
  go_wp2_with fail
  refine (ref_SameMsg l1 l3' HSS).mono ?_
  rintro e w5 ⟨rfl, hx5⟩
  replace gx1 := gx1.trans hx5
  replace hs2 := hs2.ext hx5
  have hcap := hs2.cap
  clear hx5 l1 l3' b0 b1 b2 b3 b4 b5 b6 b7 b8 b9 d0 d1 d2 d3 d4 d5 d6 d7 d8 d9
  have d10 : decide ((m : Int) + 1 < 10) = false := by simp; omega
  have d11 : decide (4096 < (m : Int) + 1) = false := by simp; omega
  go_wp2_with (
    at_builtin
    refine wpList_append_mine _ rfl (.tmp 68) (.tmp 69) _ _ rfl w5.heap.size U8 i0 _ 1 1 under_bytes hi0 hz0 hz1 hz2 rfl _ 0 0 _ rfl (Own.nil _ _ _ _ _) _ rfl (m + 1) (L.map bv) ((hs2.ext (Ext.alloc _ _)).src under_bytes) (by simp only [maxLen]; omega) (by omega) (by simp) ?_
    intro A5 c5 w6 hown hg _
    have hbC : Byt U8 w6 w5.heap.size A5 (m + 1) c5 L := ⟨HM.out, by simpa using hown⟩
    have hx6 : Ext w5 w6 := below_grown (Ext.alloc w5 _) (Own.nil _ _ U8 1 _) hg (by simp)
    clear hown hg
    obtain ⟨gC, rfl, hgB, hgl, hcl⟩ := hbC.open_ (by omega)
    obtain ⟨hcell, hfro⟩ := hcl j hjl
    rw [HYJ.out] at hcell
    clear hcl)
  have hb6 := hbC.set_ hjl (y ^^^ x)
  rw [HC.out] at hb6
  have hgw : w.heap.size ≤ gC := Nat.le_trans gx1.size hgB
  replace gx1 := (gx1.trans hx6).sets (p := ⟨gC, j, none⟩) hgw (bv (y ^^^ x))
  have hsC := hb6.sl
  clear hb6 hbC hx6 hcell hfro hval hs2
  by_cases hx : x = 0
  · obtain ⟨hg2, hc2⟩ := hx00.out hx
    subst hx
    have HG2 := Lib.hid hg2
    have HY2 : Hid (whyO (crcOpen C) (some (⟨q1, q2, q3, q4, q5, q6, qa, qb, qc, qd⟩ : Ms)).isSome = 0) := by unfold Hid; rw [hc2]; rfl
    clear hg2 hc2 hx00 hx01
    have hgc := msg_Get hsC (by omega) HG2 HY2
    simp only [Option.getD_some] at hgc
    refine hgc.mono ?_
    rintro e w7 ⟨D1, Dn1, Dc1, D2, Dn2, Dc2, D3, Dn3, Dc3, D4, Dn4, Dc4, rfl, h7, hx7⟩
    clear hgc
    have q7 := h7.n63
    have z0 : (w7.alloc (.cells #[.int .i64 q1, .int .i64 q2, .int .i64 q3, .int .i64 q4, .int .i64 q5, .int .i64 q6, .slice D1 Dn1 Dc1, .slice D2 Dn2 Dc2, .slice D3 Dn3 Dc3, .slice D4 Dn4 Dc4] TMs)).cell? ⟨w7.heap.size, 0, none⟩ = some (.int .i64 q1) := cell_new _ _ _ 0
    replace gx1 := gx1.trans (hx7.allocs (.cells #[.int .i64 q1, .int .i64 q2, .int .i64 q3, .int .i64 q4, .int .i64 q5, .int .i64 q6, .slice D1 Dn1 Dc1, .slice D2 Dn2 Dc2, .slice D3 Dn3 Dc3, .slice D4 Dn4 Dc4] TMs))
    clear hx7 h7 hsC
    go_wp2_with fail
    refine (law9_known _).mono ?_
    rintro e wz ⟨rfl, hxz⟩
    go_wp2_with fail
    go_ret
    exact ⟨rfl, gx1.trans hxz⟩
  · obtain ⟨hg2, hc2⟩ := hx01.out hx
    have hxb : ((x.toNat : Int) == 0) = false := by
      have : x.toNat ≠ 0 := fun e => hx (UInt8.toNat_inj.1 e)
      simp
      omega
    have HG2 := Lib.hid hg2
    have HY2 : Hid (whyO (crcOpen C) (none : Option Ms).isSome = 13) := by unfold Hid; rw [hc2]; rfl
    clear hg2 hc2 hx00 hx01 hx
    have hgc := msg_Get hsC (by omega) HG2 HY2
    simp only [Option.getD_none] at hgc
    refine hgc.mono ?_
    rintro e w7 ⟨D1, Dn1, Dc1, D2, Dn2, Dc2, D3, Dn3, Dc3, D4, Dn4, Dc4, rfl, h7, hx7⟩
    clear hgc
    have q7 := h7.n63
    have z0 : (w7.alloc (.cells #[.int .i64 0, .int .i64 0, .int .i64 0, .int .i64 0, .int .i64 0, .int .i64 0, .slice D1 Dn1 Dc1, .slice D2 Dn2 Dc2, .slice D3 Dn3 Dc3, .slice D4 Dn4 Dc4] TMs)).cell? ⟨w7.heap.size, 0, none⟩ = some (.int .i64 0) := cell_new _ _ _ 0
    replace gx1 := gx1.trans (hx7.allocs (.cells #[.int .i64 0, .int .i64 0, .int .i64 0, .int .i64 0, .int .i64 0, .int .i64 0, .slice D1 Dn1 Dc1, .slice D2 Dn2 Dc2, .slice D3 Dn3 Dc3, .slice D4 Dn4 Dc4] TMs))
    clear hx7 h7 hsC
    go_wp2_with fail
    refine (law9_known _).mono ?_
    rintro e wz ⟨rfl, hxz⟩
    go_wp2_with fail
    go_ret
    exact ⟨rfl, gx1.trans hxz⟩
end Go.Proofs.Ytoeknbogaclfdaa

namespace Go.Proofs.Ytoeknbogaclfdaa
open Go.ChangeShapes Go.WideShapes Go.ChangeAt Go.RowKit Go.Deep
set_option linter.unusedVariables false
set_option maxRecDepth 100000

/-- the cells of a slice that came in, as bytes -/
theorem sl_open {w : World} {x : Addr} {len cap : Nat} {zs : List Int} (hl : len ≤ cap) (hm : cap ≤ maxLen) (hz : len ≤ zs.length) (hcell : ∀ i, i < zs.length → w.cell? (x.add i) = some (.int .u8 (zs.getD i 0))) (hwz : ∀ n ∈ zs, (Lit.int .u8 n).wf = true) :
    Sl w (some x) len cap ((zs.take len).map fun z => UInt8.ofNat z.toNat) := by
  refine ⟨by simp; omega, hl, hm, by simp; omega, fun _ => ⟨x, rfl, fun j u hu => ?_⟩⟩
  simp only [List.getElem?_map, List.getElem?_take] at hu
  split at hu
  · rename_i hj
    have hj2 : j < zs.length := by omega
    rw [hcell j hj2]
    rw [List.getElem?_eq_getElem hj2] at hu
    simp only [Option.map_some, Option.some.injEq] at hu
    have hb := bounds_u8 (hwz zs[j] (List.getElem_mem hj2))
    rw [← hu, List.getD_eq_getElem?_getD, List.getElem?_eq_getElem hj2]
    simp only [Option.getD_some, UInt8.toNat_ofNat', Option.some.injEq, Value.int.injEq, true_and]
    omega
  · simp at hu

section
variable {H : Type} {enc : TypeId × Value → H} {w : World} {base : Nat} {spare : Nat → Bool} {held : Bool}
theorem open_bytes {fuel : Nat} {u : Value} {x : DataW H × List MemPlace} (h : DataW.trod enc Try.prog w base spare held fuel 23 [u] = some x) : ∃ A n c l, u = .slice A n c ∧ Sl w A n c l := by
  rcases open_ints under_bytes under_u8 (by kernel_rfl) h with ⟨hcs, _⟩ | ⟨a, len, cap, zs, hcs, _, hl, hm, hz, _, hcell, hwz⟩
  · simp at hcs
    subst hcs
    exact ⟨_, _, _, [], rfl, Sl.nil _⟩
  · simp at hcs
    subst hcs
    exact ⟨_, _, _, _, rfl, sl_open hl hm (by rw [hz]; split <;> omega) hcell hwz⟩
theorem open_i64 {fuel : Nat} {u : Value} {x : DataW H × List MemPlace} {t : TypeId} (ht : Try.prog.underlying t = some (.int .i64)) (h : DataW.trod enc Try.prog w base spare held fuel t [u] = some x) : ∃ k : Int, u = .int .i64 k ∧ -9223372036854775808 ≤ k ∧ k ≤ 9223372036854775807 := by
  obtain ⟨k, hcs, _, hwf⟩ := DataW.trod_int ht h
  simp at hcs
  exact ⟨k, hcs, bounds_i64 hwf⟩
theorem open_str {fuel : Nat} {u : Value} {x : DataW H × List MemPlace} (h : DataW.trod enc Try.prog w base spare held fuel 9 [u] = some x) : ∃ s : ByteArray, u = .string s ∧ s.size ≤ maxLen := by
  obtain ⟨s, hcs, _, hs⟩ := DataW.trod_string under_str h
  simp at hcs
  exact ⟨s, hcs, hs⟩
/-- a struct's cells: each field's own reading -/
theorem open_cells {t : TypeId} {fs : Array Field} {fuel : Nat} {cs : List Value} {x : DataW H × List MemPlace} (hs : Try.prog.underlying t = some (.struct fs)) (hone : oneCellFields Try.prog fs = true)
    (h : DataW.trod enc Try.prog w base spare held fuel t cs = some x) (hC : Try.prog.cellsOf t = fs.size) :
    cs.length = fs.size ∧ ∀ (i : Nat) (f : Field), fs[i]? = some f → ∃ (u : Value) (y : DataW H × List MemPlace) (m : Nat), cs[i]? = some u ∧ DataW.trod enc Try.prog w base spare held m f.type [u] = some y := by
  obtain ⟨xs, n, _, _, hlen, hxl, hf⟩ := DataW.trod_struct hs h
  rw [hC] at hlen
  refine ⟨hlen, fun i f hi => ?_⟩
  obtain ⟨ho, hk⟩ := hone_of hone i f hi
  have hil : i < fs.size := (Array.getElem?_eq_some_iff.1 hi).1
  have h1 := hf i f hi
  rw [ho, hk, List.drop_eq_getElem_cons (by omega), List.take_succ_cons, List.take_zero, List.getElem?_eq_getElem (by omega)] at h1
  exact ⟨_, _, n, List.getElem?_eq_getElem (by omega), h1⟩
def structOk (P : Program) (t : TypeId) (ts : Array TypeId) : Bool := match P.underlying t with
  | some (.struct fs) => (fs.map (·.type) == ts) && (oneCellFields P fs && P.cellsOf t == fs.size)
  | _ => false
theorem structOk_of {P : Program} {t : TypeId} {ts : Array TypeId} (h : structOk P t ts = true) : ∃ fs : Array Field, P.underlying t = some (.struct fs) ∧ fs.map (·.type) = ts ∧ oneCellFields P fs = true ∧ P.cellsOf t = fs.size := by
  unfold structOk at h
  split at h
  · rename_i fs hu
    simp only [Bool.and_eq_true, beq_iff_eq] at h
    exact ⟨fs, hu, h.1, h.2.1, h.2.2⟩
  · cases h
theorem under_i64 : Try.prog.underlying 3 = some (.int .i64) := by kernel_rfl
end
end Go.Proofs.Ytoeknbogaclfdaa

namespace Go.Proofs.Ytoeknbogaclfdaa
open Go.ChangeShapes Go.WideShapes Go.ChangeAt Go.RowKit Go.Deep
set_option linter.unusedVariables false
set_option maxRecDepth 100000
section
variable {H : Type} {enc : TypeId × Value → H} {w : World} {base : Nat} {spare : Nat → Bool} {held : Bool}
theorem open_lst_cells {α : Type} {size : Nat} {R : α → List Value → World → Prop} {Q : α → Prop} {t e : TypeId} (ht : Try.prog.underlying t = some (.slice e)) (hsz : Try.prog.cellsOf e = size) (hR : Rep size R)
    (hel : ∀ (fuel : Nat) (cs : List Value) (x : DataW H × List MemPlace), DataW.trod enc Try.prog w base spare held fuel e cs = some x → ∃ a, R a cs w ∧ Q a)
    {fuel : Nat} {u : Value} {x : DataW H × List MemPlace} (h : DataW.trod enc Try.prog w base spare held fuel t [u] = some x) : ∃ A n c xs, u = .slice A n c ∧ Lst size R w A n c xs ∧ ∀ a ∈ xs, Q a := by
  rcases open_slice ht h with ⟨hcs, _⟩ | ⟨a, len, cap, m, n, D, Pl, hcs, _, hl, hm, hmm, _, hx⟩
  · simp at hcs
    subst hcs
    exact ⟨_, _, _, [], rfl, Lst.nil _, by simp⟩
  · simp at hcs
    subst hcs
    have hlm : len ≤ m := by rw [hmm]; split <;> omega
    have step : ∀ k, k ≤ len → ∃ (xs : List α) (css : List (List Value)), xs.length = k ∧ All2 R w xs css ∧ (∀ x ∈ xs, Q x) ∧ ∀ (j : Nat) (v : Value), css.flatten[j]? = some v → w.cell? (a.add j) = some v := by
      intro k
      induction k with
      | zero => exact fun _ => ⟨[], [], rfl, .nil, by simp, fun j v hv => by simp at hv⟩
      | succ k ih =>
        intro hk
        obtain ⟨xs, css, e1, e2, e3, e4⟩ := ih (by omega)
        obtain ⟨cs, c1, c2⟩ := hx k (by omega)
        obtain ⟨y, hy, hq⟩ := hel _ _ _ c2
        obtain ⟨_, hcl, hcc⟩ := World.cells?_some c1
        rw [hsz] at hcl hcc
        refine ⟨xs ++ [y], css ++ [cs], by simp [e1], e2.append (.cons hy .nil), ?_, ?_⟩
        · intro z hz
          rcases List.mem_append.1 hz with hz | hz
          · exact e3 z hz
          · simp at hz
            exact hz ▸ hq
        · intro j v hv
          have hfl := e2.flat hR
          rw [e1] at hfl
          rw [List.flatten_append, List.flatten_cons, List.flatten_nil, List.append_nil, List.getElem?_append] at hv
          split at hv
          · exact e4 j v hv
          · rename_i hj
            rw [hfl] at hj hv
            have hjl : j - k * size < cs.length := (List.getElem?_eq_some_iff.1 hv).1
            have := hcc (j - k * size) (by omega)
            rw [add_add, show k * size + (j - k * size) = j by omega] at this
            rw [this]
            exact hv
    obtain ⟨xs, css, e1, e2, e3, e4⟩ := step len (Nat.le_refl _)
    exact ⟨some a, len, cap, xs, rfl, ⟨e1, hl, hm, css, e2, by rw [e2.flat hR, e1], fun _ => ⟨a, rfl, e4⟩⟩, e3⟩
theorem open_lst {α : Type} {size : Nat} {R : α → List Value → World → Prop} {Q : α → Prop} {t e : TypeId} (ht : Try.prog.underlying t = some (.slice e)) (hsz : Try.prog.cellsOf e = size) (hR : Rep size R)
    (hel : ∀ (fuel : Nat) (cs : List Value) (x : DataW H × List MemPlace), DataW.trod enc Try.prog w base spare held fuel e cs = some x → ∃ a, R a cs w ∧ Q a)
    {r : Reach} {b0 : Nat} {v : Value} {d : DataW H} {p : List MemPlace} (hv : Value.okWide Try.prog w r b0 t v) (h : DataW.Trod enc Try.prog w base spare held t v d p) :
    ∃ A n c xs, v = .slice A n c ∧ Lst size R w A n c xs ∧ ∀ a ∈ xs, Q a := by
  obtain ⟨a, len, cap, rfl⟩ := okWide_slice ht hv
  obtain ⟨fuel, hf⟩ := h
  exact open_lst_cells ht hsz hR hel hf
end
end Go.Proofs.Ytoeknbogaclfdaa

namespace Go.Proofs.Ytoeknbogaclfdaa
open Go.ChangeShapes Go.WideShapes Go.ChangeAt Go.RowKit Go.Deep
set_option linter.unusedVariables false
set_option maxRecDepth 100000
section
variable {H : Type} {enc : TypeId × Value → H} {w : World} {base : Nat} {spare : Nat → Bool} {held : Bool}
/-- an integer that came in -/
def inB (x : Int) : Prop := -9223372036854775808 ≤ x ∧ x ≤ 9223372036854775807
theorem open_i64s {r : Reach} {b0 : Nat} {v : Value} {d : DataW H} {p : List MemPlace} (hv : Value.okWide Try.prog w r b0 22 v) (h : DataW.Trod enc Try.prog w base spare held 22 v d p) :
    ∃ A n c xs, v = .slice A n c ∧ Lst 1 intR w A n c xs ∧ ∀ a ∈ xs, inB a := by
  refine open_lst (e := 3) (by kernel_rfl) (by kernel_rfl) int_rep (fun fuel cs x hx => ?_) hv h
  obtain ⟨k, hcs, _, hwf⟩ := DataW.trod_int under_i64 hx
  exact ⟨k, hcs, bounds_i64 hwf⟩
theorem under_tag : ∃ fs : Array Field, Try.prog.underlying 104 = some (.struct fs) ∧ fs.map (·.type) = #[3, 3, 3, 3] ∧ oneCellFields Try.prog fs = true ∧ Try.prog.cellsOf 104 = fs.size :=
  structOk_of (by kernel_rfl)
/-- the numbers of a tag that came in -/
def tgB (x : Tg) : Prop := inB x.id ∧ inB x.ow ∧ inB x.he ∧ inB x.pt
theorem tag_cells {fuel : Nat} {cs : List Value} {x : DataW H × List MemPlace} (h : DataW.trod enc Try.prog w base spare held fuel 104 cs = some x) :
    ∃ t : Tg, tgR t cs w ∧ tgB t := by
  obtain ⟨fs, hs, hts, hone, hC⟩ := under_tag
  have hsz : fs.size = 4 := by
    have := congrArg Array.size hts
    simpa using this
  obtain ⟨hl, hf⟩ := open_cells hs hone h hC
  have ty : ∀ (i : Nat) (t : TypeId), #[3, 3, 3, 3][i]? = some t → ∃ f : Field, fs[i]? = some f ∧ f.type = t := by
    intro i t hi
    rw [← hts, Array.getElem?_map, Option.map_eq_some_iff] at hi
    exact hi
  obtain ⟨f0, i0, e0⟩ := ty 0 _ rfl
  obtain ⟨f1, i1, e1⟩ := ty 1 _ rfl
  obtain ⟨f2, i2, e2⟩ := ty 2 _ rfl
  obtain ⟨f3, i3, e3⟩ := ty 3 _ rfl
  obtain ⟨u0, y0, m0, c0, t0⟩ := hf 0 f0 i0
  obtain ⟨u1, y1, m1, c1, t1⟩ := hf 1 f1 i1
  obtain ⟨u2, y2, m2, c2, t2⟩ := hf 2 f2 i2
  obtain ⟨u3, y3, m3, c3, t3⟩ := hf 3 f3 i3
  rw [e0] at t0
  rw [e1] at t1
  rw [e2] at t2
  rw [e3] at t3
  obtain ⟨a, rfl, b0⟩ := open_i64 under_i64 t0
  obtain ⟨b, rfl, b1⟩ := open_i64 under_i64 t1
  obtain ⟨c, rfl, b2⟩ := open_i64 under_i64 t2
  obtain ⟨d, rfl, b3⟩ := open_i64 under_i64 t3
  refine ⟨⟨a, b, c, d⟩, ?_, b0, b1, b2, b3⟩
  apply List.ext_getElem?
  intro i
  match i with
  | 0 => rw [c0]; rfl
  | 1 => rw [c1]; rfl
  | 2 => rw [c2]; rfl
  | 3 => rw [c3]; rfl
  | i + 4 => rw [List.getElem?_eq_none (by omega)]; rfl
theorem open_tags {r : Reach} {b0 : Nat} {v : Value} {d : DataW H} {p : List MemPlace} (hv : Value.okWide Try.prog w r b0 25 v) (h : DataW.Trod enc Try.prog w base spare held 25 v d p) :
    ∃ A n c xs, v = .slice A n c ∧ Lst 4 tgR w A n c xs ∧ ∀ a ∈ xs, tgB a :=
  open_lst (e := 104) (by kernel_rfl) (by kernel_rfl) tg_rep (fun fuel cs x hx => tag_cells hx) hv h
end
end Go.Proofs.Ytoeknbogaclfdaa
