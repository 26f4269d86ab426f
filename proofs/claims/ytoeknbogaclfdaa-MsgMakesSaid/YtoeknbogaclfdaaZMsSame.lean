/-
  Messages alike: contracts of the program's same and Same, of slices.EqualFunc of entries.
-/
import Derived.Test.YtoeknbogaclfdaaZFromTagSameToTagRight
import Derived.Test.YtoeknbogaclfdaaZFromMsBareToTagEq
namespace Go.Proofs.Ytoeknbogaclfdaa
open Go.RowKit
set_option linter.unusedVariables false
set_option linter.unusedSimpArgs false
set_option linter.unnecessarySimpa false
set_option maxRecDepth 100000
theorem msg_same {t s : Int} {A : Option Addr} {n c : Nat} {l : List UInt8} {t' s' : Int} {A' : Option Addr} {n' c' : Nat} {l' : List UInt8} {w : World} (h1 : Sl w A n c l) (h2 : Sl w A' n' c' l') {b : Bool} (hb : Hid (decide ((⟨t, s, l⟩ : En) = ⟨t', s', l'⟩) = b)) :
    Calls Try.prog 78 #[enV t s A n c, enV t' s' A' n' c'] w fun e w' => e = .returned (.bool b) ∧ Ext w w' := by
  by_cases e1 : t = t'
  case neg =>
    obtain rfl : false = b := by rw [← hb.out]; symm; rw [decide_eq_false_iff_not]; intro e; injection e with e; exact e1 e
    have d1 : (t == t') = false := by simpa using e1
    clear hb e1
    go_enter Try.func78, Try.ntmps78
    go_wp2_with fail
    go_ret
    exact ⟨rfl, (Ext.alloc _ _).allocs _⟩
  subst e1
  by_cases e2 : s = s'
  case neg =>
    obtain rfl : false = b := by rw [← hb.out]; symm; rw [decide_eq_false_iff_not]; intro e; injection e with _ e; exact e2 e
    have d1 : (s == s') = false := by simpa using e2
    clear hb e2
    go_enter Try.func78, Try.ntmps78
    go_wp2_with fail
    go_ret
    exact ⟨rfl, (Ext.alloc _ _).allocs _⟩
  subst e2
  obtain rfl : (l == l') = b := by
    rw [← hb.out, Bool.eq_iff_iff]
    simp
  clear hb
  go_enter Try.func78, Try.ntmps78
  go_wp2_with fail
  refine (bytes_Equal A n c l A' n' c' l' _ (h1.ext ((Ext.alloc _ _).allocs _)) (h2.ext ((Ext.alloc _ _).allocs _))).mono ?_
  rintro e _ ⟨rfl, rfl⟩
  go_wp2_with fail
  go_ret
  exact ⟨rfl, (Ext.alloc _ _).allocs _⟩
set_option maxHeartbeats 1000000 in
theorem equal_ens {A : Option Addr} {n c : Nat} {xs : List En} {A' : Option Addr} {n' c' : Nat} {ys : List En} {w : World} (h1 : Lst 3 enR w A n c xs) (h2 : Lst 3 enR w A' n' c' ys) {b : Bool} (hb : Hid (sameEn xs ys = b)) :
    Calls Try.prog 77 #[.slice A n c, .slice A' n' c', .func (.func 78) #[] #[]] w fun e w' => e = .returned (.bool b) ∧ Ext w w' := by
  have h63 := h1.n63
  have h63' := h2.n63
  by_cases hn : n = n'
  case neg =>
    have hne : b = false := by
      rw [← hb.out]
      unfold sameEn
      rw [decide_eq_false_iff_not]
      rintro rfl
      exact hn (h1.len.symm.trans h2.len)
    subst hne
    have hnn : ((n : Int) != (n' : Int)) = true := by simp; omega
    clear hn hb
    go_enter Try.func77, Try.ntmps77
    go_wp2_with fail
    go_ret
    exact ⟨rfl, Ext.refl _⟩
  subst hn
  go_enter Try.func77, Try.ntmps77
  go_wp2_with fail
  go_loopw [17] (fun i wr => ∃ k : Nat, k ≤ n ∧ i = .int .i64 k ∧ Hid (xs.take k = ys.take k) ∧ Ext w wr) (fun i _ => n - (intOf i).toNat)
  case atStart => exact ⟨0, by omega, rfl, rfl, Ext.refl _⟩
  case round =>
    obtain ⟨k, hk, rfl, ht, hxr⟩ := hrel
    by_cases hlt : k < n
    · obtain ⟨ga, oa, x, cs, rfl, hx, ⟨Aa, na, ca, rfl, sa0⟩, ha⟩ := h1.at2 en_rep (by omega) hlt
      obtain ⟨gb, ob, y, ds, rfl, hy, ⟨Ab, nb, cb, rfl, sb0⟩, hd⟩ := h2.at2 en_rep (by omega) hlt
      have a0 : wr.cell? ⟨ga, oa + k * 3, none⟩ = _ := hxr.cell (ha 0 _ rfl)
      have a1 := hxr.cell (ha 1 _ rfl)
      have a2 := hxr.cell (ha 2 _ rfl)
      have sa := sa0.ext hxr
      have sb := sb0.ext hxr
      obtain ⟨xt, xs', xd⟩ := x
      obtain ⟨yt, ys', yd⟩ := y
      simp only at a0 a1 a2 sa sb
      have hx2 := hxr.allocs (.cells #[.int .i64 xt, .int .i64 xs', .slice Aa na ca] TEn)
      have hx3 := hx2.allocs (.cells #[.int .i64 yt, .int .i64 ys', .slice Ab nb cb] TEn)
      have b0 : (wr.alloc (.cells #[.int .i64 xt, .int .i64 xs', .slice Aa na ca] TEn)).cell? ⟨gb, ob + k * 3, none⟩ = _ := hx2.cell (hd 0 _ rfl)
      have b1 := hx2.cell (hd 1 _ rfl)
      have b2 := hx2.cell (hd 2 _ rfl)
      obtain ⟨q, hq⟩ : ∃ q, decide ((⟨xt, xs', xd⟩ : En) = ⟨yt, ys', yd⟩) = q := ⟨_, rfl⟩
      have HQ := Lib.hid hq
      have hca := sa.ext (((Ext.alloc wr (.cells #[.int .i64 xt, .int .i64 xs', .slice Aa na ca] TEn))).allocs (.cells #[.int .i64 yt, .int .i64 ys', .slice Ab nb cb] TEn))
      have hcb := sb.ext (((Ext.alloc wr (.cells #[.int .i64 xt, .int .i64 xs', .slice Aa na ca] TEn))).allocs (.cells #[.int .i64 yt, .int .i64 ys', .slice Ab nb cb] TEn))
      have hnx : Hid (if q = true then xs.take (k + 1) = ys.take (k + 1) else b = false) := by
        unfold Hid
        cases q with
        | true => exact take_next ht.out hx hy (of_decide_eq_true hq)
        | false =>
          show b = false
          rw [← hb.out]
          exact sameEn_no hx hy (of_decide_eq_false hq)
      clear ha hd hx hy hq ht sa sb sa0 sb0
      go_wp2_with fail
      refine (msg_same hca hcb HQ).mono ?_
      rintro e w4 ⟨rfl, hx4⟩
      have gx4 := hx3.trans hx4
      cases q with
      | true =>
        have HN : Hid (xs.take (k + 1) = ys.take (k + 1)) := hnx.out
        clear hnx hx2 hx3 hx4 hca hcb
        go_wp2_with fail
        go_roundw
        case rel => exact ⟨k + 1, by omega, by go_num, HN, gx4⟩
        case measure => simp [intOf]; omega
      | false =>
        obtain rfl : b = false := hnx.out
        clear hnx hx2 hx3 hx4 hca hcb
        go_wp2_with fail
        go_ret
        exact ⟨rfl, gx4⟩
    · have hn : b = true := by
        rw [← hb.out]
        unfold sameEn
        rw [decide_eq_true_eq]
        have := ht.out
        rwa [List.take_of_length_le (by rw [h1.len]; omega), List.take_of_length_le (by rw [h2.len]; omega)] at this
      subst hn
      clear ht hb
      go_wp2_with fail
      go_ret
      exact ⟨rfl, hxr⟩
theorem ref_SameEntries_h {A : Option Addr} {n c : Nat} {xs : List En} {A' : Option Addr} {n' c' : Nat} {ys : List En} {w : World} (h1 : Lst 3 enR w A n c xs) (h2 : Lst 3 enR w A' n' c' ys) {b : Bool} (hb : Hid (sameEn xs ys = b)) :
    Calls Try.prog 52 #[.slice A n c, .slice A' n' c'] w fun e w' => e = .returned (.bool b) ∧ Ext w w' := by
  have := ref_SameEntries h1 h2
  rwa [hb.out] at this
theorem sameMs_no {a b : Ms} {r : Bool} (h : Hid (sameMs a b = r)) (e : ¬ a = b) : false = r := by
  rw [← h.out]
  unfold sameMs
  rw [decide_eq_false e]
set_option maxHeartbeats 4000000 in
theorem msg_Same {m m' : Ms} {A1 : Option Addr} {An1 Ac1 : Nat} {A2 : Option Addr} {An2 Ac2 : Nat} {A3 : Option Addr} {An3 Ac3 : Nat} {A4 : Option Addr} {An4 Ac4 : Nat} {B1 : Option Addr} {Bn1 Bc1 : Nat} {B2 : Option Addr} {Bn2 Bc2 : Nat} {B3 : Option Addr} {Bn3 Bc3 : Nat} {B4 : Option Addr} {Bn4 Bc4 : Nat} {w : World} (h1 : MsR w m A1 An1 Ac1 A2 An2 Ac2 A3 An3 Ac3 A4 An4 Ac4) (h2 : MsR w m' B1 Bn1 Bc1 B2 Bn2 Bc2 B3 Bn3 Bc3 B4 Bn4 Bc4) {b : Bool} (hb : Hid (sameMs m m' = b)) :
    Calls Try.prog 40 #[msV m A1 An1 Ac1 A2 An2 Ac2 A3 An3 Ac3 A4 An4 Ac4, msV m' B1 Bn1 Bc1 B2 Bn2 Bc2 B3 Bn3 Bc3 B4 Bn4 Bc4] w fun e w' => e = .returned (.bool b) ∧ Ext w w' := by
  have gx : Ext w ((w.alloc (.cells (msC m A1 An1 Ac1 A2 An2 Ac2 A3 An3 Ac3 A4 An4 Ac4) TMs)).alloc (.cells (msC m' B1 Bn1 Bc1 B2 Bn2 Bc2 B3 Bn3 Bc3 B4 Bn4 Bc4) TMs)) := (Ext.alloc _ _).allocs _
  obtain ⟨k1, k2, k3, k4, k5, k6, ch, en, mk, da⟩ := m
  obtain ⟨j1, j2, j3, j4, j5, j6, ch', en', mk', da'⟩ := m'
  replace h1 := h1.ext gx
  replace h2 := h2.ext gx
  by_cases e1 : k1 = j1
  case neg =>
    obtain rfl := sameMs_no hb (by intro e; injection e; contradiction)
    have d1 : (k1 == j1) = false := by simpa using e1
    clear hb e1
    go_enter Try.func40, Try.ntmps40
    go_wp2_with fail
    go_ret
    exact ⟨rfl, gx⟩
  subst e1
  by_cases e1 : k2 = j2
  case neg =>
    obtain rfl := sameMs_no hb (by intro e; injection e; contradiction)
    have d1 : (k2 == j2) = false := by simpa using e1
    clear hb e1
    go_enter Try.func40, Try.ntmps40
    go_wp2_with fail
    go_ret
    exact ⟨rfl, gx⟩
  subst e1
  by_cases e1 : k3 = j3
  case neg =>
    obtain rfl := sameMs_no hb (by intro e; injection e; contradiction)
    have d1 : (k3 == j3) = false := by simpa using e1
    clear hb e1
    go_enter Try.func40, Try.ntmps40
    go_wp2_with fail
    go_ret
    exact ⟨rfl, gx⟩
  subst e1
  by_cases e1 : k4 = j4
  case neg =>
    obtain rfl := sameMs_no hb (by intro e; injection e; contradiction)
    have d1 : (k4 == j4) = false := by simpa using e1
    clear hb e1
    go_enter Try.func40, Try.ntmps40
    go_wp2_with fail
    go_ret
    exact ⟨rfl, gx⟩
  subst e1
  by_cases e1 : k5 = j5
  case neg =>
    obtain rfl := sameMs_no hb (by intro e; injection e; contradiction)
    have d1 : (k5 == j5) = false := by simpa using e1
    clear hb e1
    go_enter Try.func40, Try.ntmps40
    go_wp2_with fail
    go_ret
    exact ⟨rfl, gx⟩
  subst e1
  by_cases e1 : k6 = j6
  case neg =>
    obtain rfl := sameMs_no hb (by intro e; injection e; contradiction)
    have d1 : (k6 == j6) = false := by simpa using e1
    clear hb e1
    go_enter Try.func40, Try.ntmps40
    go_wp2_with fail
    go_ret
    exact ⟨rfl, gx⟩
  subst e1
  obtain ⟨qt, hqt⟩ : ∃ q, sameT ch ch' = q := ⟨_, rfl⟩
  obtain ⟨qe, hqe⟩ : ∃ q, sameEn en en' = q := ⟨_, rfl⟩
  obtain ⟨qm, hqm⟩ : ∃ q, sameMk mk mk' = q := ⟨_, rfl⟩
  obtain ⟨qd, hqd⟩ : ∃ q, (da == da') = q := ⟨_, rfl⟩
  have HT := Lib.hid hqt
  have HE := Lib.hid hqe
  have HM := Lib.hid hqm
  have hqd2 := Lib.hid hqd
  have HB : Hid ((qt && (qe && (qm && qd))) = b) := by
    unfold Hid
    rw [← hb.out, ← hqt, ← hqe, ← hqm, ← hqd]
    unfold sameMs sameT sameEn sameMk
    rw [Bool.eq_iff_iff]
    simp
  clear hb hqt hqe hqm hqd
  have a0 : ((w.alloc (.cells (msC ⟨k1, k2, k3, k4, k5, k6, ch, en, mk, da⟩ A1 An1 Ac1 A2 An2 Ac2 A3 An3 Ac3 A4 An4 Ac4) TMs)).alloc (.cells (msC ⟨k1, k2, k3, k4, k5, k6, ch', en', mk', da'⟩ B1 Bn1 Bc1 B2 Bn2 Bc2 B3 Bn3 Bc3 B4 Bn4 Bc4) TMs)).cell? ⟨w.heap.size, 0, none⟩ = some (.int .i64 k1) := (Ext.alloc _ _).cell (cell_new _ _ _ 0)
  have a1 : ((w.alloc (.cells (msC ⟨k1, k2, k3, k4, k5, k6, ch, en, mk, da⟩ A1 An1 Ac1 A2 An2 Ac2 A3 An3 Ac3 A4 An4 Ac4) TMs)).alloc (.cells (msC ⟨k1, k2, k3, k4, k5, k6, ch', en', mk', da'⟩ B1 Bn1 Bc1 B2 Bn2 Bc2 B3 Bn3 Bc3 B4 Bn4 Bc4) TMs)).cell? ⟨w.heap.size, 1, none⟩ = some (.int .i64 k2) := (Ext.alloc _ _).cell (cell_new _ _ _ 1)
  have a2 : ((w.alloc (.cells (msC ⟨k1, k2, k3, k4, k5, k6, ch, en, mk, da⟩ A1 An1 Ac1 A2 An2 Ac2 A3 An3 Ac3 A4 An4 Ac4) TMs)).alloc (.cells (msC ⟨k1, k2, k3, k4, k5, k6, ch', en', mk', da'⟩ B1 Bn1 Bc1 B2 Bn2 Bc2 B3 Bn3 Bc3 B4 Bn4 Bc4) TMs)).cell? ⟨w.heap.size, 2, none⟩ = some (.int .i64 k3) := (Ext.alloc _ _).cell (cell_new _ _ _ 2)
  have a3 : ((w.alloc (.cells (msC ⟨k1, k2, k3, k4, k5, k6, ch, en, mk, da⟩ A1 An1 Ac1 A2 An2 Ac2 A3 An3 Ac3 A4 An4 Ac4) TMs)).alloc (.cells (msC ⟨k1, k2, k3, k4, k5, k6, ch', en', mk', da'⟩ B1 Bn1 Bc1 B2 Bn2 Bc2 B3 Bn3 Bc3 B4 Bn4 Bc4) TMs)).cell? ⟨w.heap.size, 3, none⟩ = some (.int .i64 k4) := (Ext.alloc _ _).cell (cell_new _ _ _ 3)
  have a4 : ((w.alloc (.cells (msC ⟨k1, k2, k3, k4, k5, k6, ch, en, mk, da⟩ A1 An1 Ac1 A2 An2 Ac2 A3 An3 Ac3 A4 An4 Ac4) TMs)).alloc (.cells (msC ⟨k1, k2, k3, k4, k5, k6, ch', en', mk', da'⟩ B1 Bn1 Bc1 B2 Bn2 Bc2 B3 Bn3 Bc3 B4 Bn4 Bc4) TMs)).cell? ⟨w.heap.size, 4, none⟩ = some (.int .i64 k5) := (Ext.alloc _ _).cell (cell_new _ _ _ 4)
  have a5 : ((w.alloc (.cells (msC ⟨k1, k2, k3, k4, k5, k6, ch, en, mk, da⟩ A1 An1 Ac1 A2 An2 Ac2 A3 An3 Ac3 A4 An4 Ac4) TMs)).alloc (.cells (msC ⟨k1, k2, k3, k4, k5, k6, ch', en', mk', da'⟩ B1 Bn1 Bc1 B2 Bn2 Bc2 B3 Bn3 Bc3 B4 Bn4 Bc4) TMs)).cell? ⟨w.heap.size, 5, none⟩ = some (.int .i64 k6) := (Ext.alloc _ _).cell (cell_new _ _ _ 5)
  have a6 : ((w.alloc (.cells (msC ⟨k1, k2, k3, k4, k5, k6, ch, en, mk, da⟩ A1 An1 Ac1 A2 An2 Ac2 A3 An3 Ac3 A4 An4 Ac4) TMs)).alloc (.cells (msC ⟨k1, k2, k3, k4, k5, k6, ch', en', mk', da'⟩ B1 Bn1 Bc1 B2 Bn2 Bc2 B3 Bn3 Bc3 B4 Bn4 Bc4) TMs)).cell? ⟨w.heap.size, 6, none⟩ = some (.slice A1 An1 Ac1) := (Ext.alloc _ _).cell (cell_new _ _ _ 6)
  have a7 : ((w.alloc (.cells (msC ⟨k1, k2, k3, k4, k5, k6, ch, en, mk, da⟩ A1 An1 Ac1 A2 An2 Ac2 A3 An3 Ac3 A4 An4 Ac4) TMs)).alloc (.cells (msC ⟨k1, k2, k3, k4, k5, k6, ch', en', mk', da'⟩ B1 Bn1 Bc1 B2 Bn2 Bc2 B3 Bn3 Bc3 B4 Bn4 Bc4) TMs)).cell? ⟨w.heap.size, 7, none⟩ = some (.slice A2 An2 Ac2) := (Ext.alloc _ _).cell (cell_new _ _ _ 7)
  have a8 : ((w.alloc (.cells (msC ⟨k1, k2, k3, k4, k5, k6, ch, en, mk, da⟩ A1 An1 Ac1 A2 An2 Ac2 A3 An3 Ac3 A4 An4 Ac4) TMs)).alloc (.cells (msC ⟨k1, k2, k3, k4, k5, k6, ch', en', mk', da'⟩ B1 Bn1 Bc1 B2 Bn2 Bc2 B3 Bn3 Bc3 B4 Bn4 Bc4) TMs)).cell? ⟨w.heap.size, 8, none⟩ = some (.slice A3 An3 Ac3) := (Ext.alloc _ _).cell (cell_new _ _ _ 8)
  have a9 : ((w.alloc (.cells (msC ⟨k1, k2, k3, k4, k5, k6, ch, en, mk, da⟩ A1 An1 Ac1 A2 An2 Ac2 A3 An3 Ac3 A4 An4 Ac4) TMs)).alloc (.cells (msC ⟨k1, k2, k3, k4, k5, k6, ch', en', mk', da'⟩ B1 Bn1 Bc1 B2 Bn2 Bc2 B3 Bn3 Bc3 B4 Bn4 Bc4) TMs)).cell? ⟨w.heap.size, 9, none⟩ = some (.slice A4 An4 Ac4) := (Ext.alloc _ _).cell (cell_new _ _ _ 9)
  have b0 : ((w.alloc (.cells (msC ⟨k1, k2, k3, k4, k5, k6, ch, en, mk, da⟩ A1 An1 Ac1 A2 An2 Ac2 A3 An3 Ac3 A4 An4 Ac4) TMs)).alloc (.cells (msC ⟨k1, k2, k3, k4, k5, k6, ch', en', mk', da'⟩ B1 Bn1 Bc1 B2 Bn2 Bc2 B3 Bn3 Bc3 B4 Bn4 Bc4) TMs)).cell? ⟨w.heap.size + 1, 0, none⟩ = some (.int .i64 k1) := by
    have := cell_new (w.alloc (.cells (msC ⟨k1, k2, k3, k4, k5, k6, ch, en, mk, da⟩ A1 An1 Ac1 A2 An2 Ac2 A3 An3 Ac3 A4 An4 Ac4) TMs)) (msC ⟨k1, k2, k3, k4, k5, k6, ch', en', mk', da'⟩ B1 Bn1 Bc1 B2 Bn2 Bc2 B3 Bn3 Bc3 B4 Bn4 Bc4) TMs 0
    simpa using this
  have b1 : ((w.alloc (.cells (msC ⟨k1, k2, k3, k4, k5, k6, ch, en, mk, da⟩ A1 An1 Ac1 A2 An2 Ac2 A3 An3 Ac3 A4 An4 Ac4) TMs)).alloc (.cells (msC ⟨k1, k2, k3, k4, k5, k6, ch', en', mk', da'⟩ B1 Bn1 Bc1 B2 Bn2 Bc2 B3 Bn3 Bc3 B4 Bn4 Bc4) TMs)).cell? ⟨w.heap.size + 1, 1, none⟩ = some (.int .i64 k2) := by
    have := cell_new (w.alloc (.cells (msC ⟨k1, k2, k3, k4, k5, k6, ch, en, mk, da⟩ A1 An1 Ac1 A2 An2 Ac2 A3 An3 Ac3 A4 An4 Ac4) TMs)) (msC ⟨k1, k2, k3, k4, k5, k6, ch', en', mk', da'⟩ B1 Bn1 Bc1 B2 Bn2 Bc2 B3 Bn3 Bc3 B4 Bn4 Bc4) TMs 1
    simpa using this
  have b2 : ((w.alloc (.cells (msC ⟨k1, k2, k3, k4, k5, k6, ch, en, mk, da⟩ A1 An1 Ac1 A2 An2 Ac2 A3 An3 Ac3 A4 An4 Ac4) TMs)).alloc (.cells (msC ⟨k1, k2, k3, k4, k5, k6, ch', en', mk', da'⟩ B1 Bn1 Bc1 B2 Bn2 Bc2 B3 Bn3 Bc3 B4 Bn4 Bc4) TMs)).cell? ⟨w.heap.size + 1, 2, none⟩ = some (.int .i64 k3) := by
    have := cell_new (w.alloc (.cells (msC ⟨k1, k2, k3, k4, k5, k6, ch, en, mk, da⟩ A1 An1 Ac1 A2 An2 Ac2 A3 An3 Ac3 A4 An4 Ac4) TMs)) (msC ⟨k1, k2, k3, k4, k5, k6, ch', en', mk', da'⟩ B1 Bn1 Bc1 B2 Bn2 Bc2 B3 Bn3 Bc3 B4 Bn4 Bc4) TMs 2
    simpa using this
  have b3 : ((w.alloc (.cells (msC ⟨k1, k2, k3, k4, k5, k6, ch, en, mk, da⟩ A1 An1 Ac1 A2 An2 Ac2 A3 An3 Ac3 A4 An4 Ac4) TMs)).alloc (.cells (msC ⟨k1, k2, k3, k4, k5, k6, ch', en', mk', da'⟩ B1 Bn1 Bc1 B2 Bn2 Bc2 B3 Bn3 Bc3 B4 Bn4 Bc4) TMs)).cell? ⟨w.heap.size + 1, 3, none⟩ = some (.int .i64 k4) := by
    have := cell_new (w.alloc (.cells (msC ⟨k1, k2, k3, k4, k5, k6, ch, en, mk, da⟩ A1 An1 Ac1 A2 An2 Ac2 A3 An3 Ac3 A4 An4 Ac4) TMs)) (msC ⟨k1, k2, k3, k4, k5, k6, ch', en', mk', da'⟩ B1 Bn1 Bc1 B2 Bn2 Bc2 B3 Bn3 Bc3 B4 Bn4 Bc4) TMs 3
    simpa using this
  have b4 : ((w.alloc (.cells (msC ⟨k1, k2, k3, k4, k5, k6, ch, en, mk, da⟩ A1 An1 Ac1 A2 An2 Ac2 A3 An3 Ac3 A4 An4 Ac4) TMs)).alloc (.cells (msC ⟨k1, k2, k3, k4, k5, k6, ch', en', mk', da'⟩ B1 Bn1 Bc1 B2 Bn2 Bc2 B3 Bn3 Bc3 B4 Bn4 Bc4) TMs)).cell? ⟨w.heap.size + 1, 4, none⟩ = some (.int .i64 k5) := by
    have := cell_new (w.alloc (.cells (msC ⟨k1, k2, k3, k4, k5, k6, ch, en, mk, da⟩ A1 An1 Ac1 A2 An2 Ac2 A3 An3 Ac3 A4 An4 Ac4) TMs)) (msC ⟨k1, k2, k3, k4, k5, k6, ch', en', mk', da'⟩ B1 Bn1 Bc1 B2 Bn2 Bc2 B3 Bn3 Bc3 B4 Bn4 Bc4) TMs 4
    simpa using this
  have b5 : ((w.alloc (.cells (msC ⟨k1, k2, k3, k4, k5, k6, ch, en, mk, da⟩ A1 An1 Ac1 A2 An2 Ac2 A3 An3 Ac3 A4 An4 Ac4) TMs)).alloc (.cells (msC ⟨k1, k2, k3, k4, k5, k6, ch', en', mk', da'⟩ B1 Bn1 Bc1 B2 Bn2 Bc2 B3 Bn3 Bc3 B4 Bn4 Bc4) TMs)).cell? ⟨w.heap.size + 1, 5, none⟩ = some (.int .i64 k6) := by
    have := cell_new (w.alloc (.cells (msC ⟨k1, k2, k3, k4, k5, k6, ch, en, mk, da⟩ A1 An1 Ac1 A2 An2 Ac2 A3 An3 Ac3 A4 An4 Ac4) TMs)) (msC ⟨k1, k2, k3, k4, k5, k6, ch', en', mk', da'⟩ B1 Bn1 Bc1 B2 Bn2 Bc2 B3 Bn3 Bc3 B4 Bn4 Bc4) TMs 5
    simpa using this
  have b6 : ((w.alloc (.cells (msC ⟨k1, k2, k3, k4, k5, k6, ch, en, mk, da⟩ A1 An1 Ac1 A2 An2 Ac2 A3 An3 Ac3 A4 An4 Ac4) TMs)).alloc (.cells (msC ⟨k1, k2, k3, k4, k5, k6, ch', en', mk', da'⟩ B1 Bn1 Bc1 B2 Bn2 Bc2 B3 Bn3 Bc3 B4 Bn4 Bc4) TMs)).cell? ⟨w.heap.size + 1, 6, none⟩ = some (.slice B1 Bn1 Bc1) := by
    have := cell_new (w.alloc (.cells (msC ⟨k1, k2, k3, k4, k5, k6, ch, en, mk, da⟩ A1 An1 Ac1 A2 An2 Ac2 A3 An3 Ac3 A4 An4 Ac4) TMs)) (msC ⟨k1, k2, k3, k4, k5, k6, ch', en', mk', da'⟩ B1 Bn1 Bc1 B2 Bn2 Bc2 B3 Bn3 Bc3 B4 Bn4 Bc4) TMs 6
    simpa using this
  have b7 : ((w.alloc (.cells (msC ⟨k1, k2, k3, k4, k5, k6, ch, en, mk, da⟩ A1 An1 Ac1 A2 An2 Ac2 A3 An3 Ac3 A4 An4 Ac4) TMs)).alloc (.cells (msC ⟨k1, k2, k3, k4, k5, k6, ch', en', mk', da'⟩ B1 Bn1 Bc1 B2 Bn2 Bc2 B3 Bn3 Bc3 B4 Bn4 Bc4) TMs)).cell? ⟨w.heap.size + 1, 7, none⟩ = some (.slice B2 Bn2 Bc2) := by
    have := cell_new (w.alloc (.cells (msC ⟨k1, k2, k3, k4, k5, k6, ch, en, mk, da⟩ A1 An1 Ac1 A2 An2 Ac2 A3 An3 Ac3 A4 An4 Ac4) TMs)) (msC ⟨k1, k2, k3, k4, k5, k6, ch', en', mk', da'⟩ B1 Bn1 Bc1 B2 Bn2 Bc2 B3 Bn3 Bc3 B4 Bn4 Bc4) TMs 7
    simpa using this
  have b8 : ((w.alloc (.cells (msC ⟨k1, k2, k3, k4, k5, k6, ch, en, mk, da⟩ A1 An1 Ac1 A2 An2 Ac2 A3 An3 Ac3 A4 An4 Ac4) TMs)).alloc (.cells (msC ⟨k1, k2, k3, k4, k5, k6, ch', en', mk', da'⟩ B1 Bn1 Bc1 B2 Bn2 Bc2 B3 Bn3 Bc3 B4 Bn4 Bc4) TMs)).cell? ⟨w.heap.size + 1, 8, none⟩ = some (.slice B3 Bn3 Bc3) := by
    have := cell_new (w.alloc (.cells (msC ⟨k1, k2, k3, k4, k5, k6, ch, en, mk, da⟩ A1 An1 Ac1 A2 An2 Ac2 A3 An3 Ac3 A4 An4 Ac4) TMs)) (msC ⟨k1, k2, k3, k4, k5, k6, ch', en', mk', da'⟩ B1 Bn1 Bc1 B2 Bn2 Bc2 B3 Bn3 Bc3 B4 Bn4 Bc4) TMs 8
    simpa using this
  have b9 : ((w.alloc (.cells (msC ⟨k1, k2, k3, k4, k5, k6, ch, en, mk, da⟩ A1 An1 Ac1 A2 An2 Ac2 A3 An3 Ac3 A4 An4 Ac4) TMs)).alloc (.cells (msC ⟨k1, k2, k3, k4, k5, k6, ch', en', mk', da'⟩ B1 Bn1 Bc1 B2 Bn2 Bc2 B3 Bn3 Bc3 B4 Bn4 Bc4) TMs)).cell? ⟨w.heap.size + 1, 9, none⟩ = some (.slice B4 Bn4 Bc4) := by
    have := cell_new (w.alloc (.cells (msC ⟨k1, k2, k3, k4, k5, k6, ch, en, mk, da⟩ A1 An1 Ac1 A2 An2 Ac2 A3 An3 Ac3 A4 An4 Ac4) TMs)) (msC ⟨k1, k2, k3, k4, k5, k6, ch', en', mk', da'⟩ B1 Bn1 Bc1 B2 Bn2 Bc2 B3 Bn3 Bc3 B4 Bn4 Bc4) TMs 9
    simpa using this
  obtain ⟨wa, hwa⟩ : ∃ q, q = ((w.alloc (.cells (msC ⟨k1, k2, k3, k4, k5, k6, ch, en, mk, da⟩ A1 An1 Ac1 A2 An2 Ac2 A3 An3 Ac3 A4 An4 Ac4) TMs)).alloc (.cells (msC ⟨k1, k2, k3, k4, k5, k6, ch', en', mk', da'⟩ B1 Bn1 Bc1 B2 Bn2 Bc2 B3 Bn3 Bc3 B4 Bn4 Bc4) TMs)) := ⟨_, rfl⟩
  rw [← hwa] at a0 a1 a2 a3 a4 a5 a6 a7 a8 a9 b0 b1 b2 b3 b4 b5 b6 b7 b8 b9 h1 h2 gx
  skip
  go_enter Try.func40, Try.ntmps40
  go_wp2_with fail
  rw [← hwa]
  clear hwa
  refine (equal_tags h1.ch h2.ch HT).mono ?_
  rintro e w2 ⟨rfl, hx2⟩
  cases qt with
  | false =>
    obtain rfl : false = b := HB.out
    go_wp2_with fail
    go_ret
    exact ⟨rfl, gx.trans hx2⟩
  | true =>
  replace gx := gx.trans hx2
  replace h1 := h1.ext hx2
  replace h2 := h2.ext hx2
  replace a0 := hx2.cell a0
  replace b0 := hx2.cell b0
  replace a1 := hx2.cell a1
  replace b1 := hx2.cell b1
  replace a2 := hx2.cell a2
  replace b2 := hx2.cell b2
  replace a3 := hx2.cell a3
  replace b3 := hx2.cell b3
  replace a4 := hx2.cell a4
  replace b4 := hx2.cell b4
  replace a5 := hx2.cell a5
  replace b5 := hx2.cell b5
  replace a6 := hx2.cell a6
  replace b6 := hx2.cell b6
  replace a7 := hx2.cell a7
  replace b7 := hx2.cell b7
  replace a8 := hx2.cell a8
  replace b8 := hx2.cell b8
  replace a9 := hx2.cell a9
  replace b9 := hx2.cell b9
  clear hx2
  go_wp2_with fail
  refine (equal_ens h1.en h2.en HE).mono ?_
  rintro e w3 ⟨rfl, hx3⟩
  cases qe with
  | false =>
    obtain rfl : false = b := HB.out
    go_wp2_with fail
    go_ret
    exact ⟨rfl, gx.trans hx3⟩
  | true =>
  replace gx := gx.trans hx3
  replace h1 := h1.ext hx3
  replace h2 := h2.ext hx3
  replace a0 := hx3.cell a0
  replace b0 := hx3.cell b0
  replace a1 := hx3.cell a1
  replace b1 := hx3.cell b1
  replace a2 := hx3.cell a2
  replace b2 := hx3.cell b2
  replace a3 := hx3.cell a3
  replace b3 := hx3.cell b3
  replace a4 := hx3.cell a4
  replace b4 := hx3.cell b4
  replace a5 := hx3.cell a5
  replace b5 := hx3.cell b5
  replace a6 := hx3.cell a6
  replace b6 := hx3.cell b6
  replace a7 := hx3.cell a7
  replace b7 := hx3.cell b7
  replace a8 := hx3.cell a8
  replace b8 := hx3.cell b8
  replace a9 := hx3.cell a9
  replace b9 := hx3.cell b9
  clear hx3
  go_wp2_with fail
  refine (equal_marks h1.ms h2.ms HM).mono ?_
  rintro e w4 ⟨rfl, hx4⟩
  cases qm with
  | false =>
    obtain rfl : false = b := HB.out
    go_wp2_with fail
    go_ret
    exact ⟨rfl, gx.trans hx4⟩
  | true =>
  replace gx := gx.trans hx4
  replace h1 := h1.ext hx4
  replace h2 := h2.ext hx4
  replace a0 := hx4.cell a0
  replace b0 := hx4.cell b0
  replace a1 := hx4.cell a1
  replace b1 := hx4.cell b1
  replace a2 := hx4.cell a2
  replace b2 := hx4.cell b2
  replace a3 := hx4.cell a3
  replace b3 := hx4.cell b3
  replace a4 := hx4.cell a4
  replace b4 := hx4.cell b4
  replace a5 := hx4.cell a5
  replace b5 := hx4.cell b5
  replace a6 := hx4.cell a6
  replace b6 := hx4.cell b6
  replace a7 := hx4.cell a7
  replace b7 := hx4.cell b7
  replace a8 := hx4.cell a8
  replace b8 := hx4.cell b8
  replace a9 := hx4.cell a9
  replace b9 := hx4.cell b9
  clear hx4
  obtain rfl : qd = b := HB.out
  have hbe := bytes_Equal _ _ _ da _ _ _ da' w4 h1.da h2.da; rw [hqd2.out] at hbe; clear HB hqd2 HT HE HM; go_wp2_with fail; refine hbe.mono ?_; rintro e _ ⟨rfl, rfl⟩; go_wp2_with fail; go_ret; exact ⟨rfl, gx⟩
set_option maxHeartbeats 4000000 in
theorem ref_SameMsg {m m' : Ms} {A1 : Option Addr} {An1 Ac1 : Nat} {A2 : Option Addr} {An2 Ac2 : Nat} {A3 : Option Addr} {An3 Ac3 : Nat} {A4 : Option Addr} {An4 Ac4 : Nat} {B1 : Option Addr} {Bn1 Bc1 : Nat} {B2 : Option Addr} {Bn2 Bc2 : Nat} {B3 : Option Addr} {Bn3 Bc3 : Nat} {B4 : Option Addr} {Bn4 Bc4 : Nat} {w : World} (h1 : MsR w m A1 An1 Ac1 A2 An2 Ac2 A3 An3 Ac3 A4 An4 Ac4) (h2 : MsR w m' B1 Bn1 Bc1 B2 Bn2 Bc2 B3 Bn3 Bc3 B4 Bn4 Bc4) {b : Bool} (hb : Hid (sameMs m m' = b)) :
    Calls Try.prog 15 #[msV m A1 An1 Ac1 A2 An2 Ac2 A3 An3 Ac3 A4 An4 Ac4, msV m' B1 Bn1 Bc1 B2 Bn2 Bc2 B3 Bn3 Bc3 B4 Bn4 Bc4] w fun e w' => e = .returned (.bool b) ∧ Ext w w' := by
  have gx : Ext w ((w.alloc (.cells (msC m A1 An1 Ac1 A2 An2 Ac2 A3 An3 Ac3 A4 An4 Ac4) TMs)).alloc (.cells (msC m' B1 Bn1 Bc1 B2 Bn2 Bc2 B3 Bn3 Bc3 B4 Bn4 Bc4) TMs)) := (Ext.alloc _ _).allocs _
  obtain ⟨k1, k2, k3, k4, k5, k6, ch, en, mk, da⟩ := m
  obtain ⟨j1, j2, j3, j4, j5, j6, ch', en', mk', da'⟩ := m'
  replace h1 := h1.ext gx
  replace h2 := h2.ext gx
  by_cases e1 : k1 = j1
  case neg =>
    obtain rfl := sameMs_no hb (by intro e; injection e; contradiction)
    have d1 : (k1 == j1) = false := by simpa using e1
    clear hb e1
    go_enter Try.func15, Try.ntmps15
    go_wp2_with fail
    go_ret
    exact ⟨rfl, gx⟩
  subst e1
  by_cases e1 : k2 = j2
  case neg =>
    obtain rfl := sameMs_no hb (by intro e; injection e; contradiction)
    have d1 : (k2 == j2) = false := by simpa using e1
    clear hb e1
    go_enter Try.func15, Try.ntmps15
    go_wp2_with fail
    go_ret
    exact ⟨rfl, gx⟩
  subst e1
  by_cases e1 : k3 = j3
  case neg =>
    obtain rfl := sameMs_no hb (by intro e; injection e; contradiction)
    have d1 : (k3 == j3) = false := by simpa using e1
    clear hb e1
    go_enter Try.func15, Try.ntmps15
    go_wp2_with fail
    go_ret
    exact ⟨rfl, gx⟩
  subst e1
  by_cases e1 : k4 = j4
  case neg =>
    obtain rfl := sameMs_no hb (by intro e; injection e; contradiction)
    have d1 : (k4 == j4) = false := by simpa using e1
    clear hb e1
    go_enter Try.func15, Try.ntmps15
    go_wp2_with fail
    go_ret
    exact ⟨rfl, gx⟩
  subst e1
  by_cases e1 : k5 = j5
  case neg =>
    obtain rfl := sameMs_no hb (by intro e; injection e; contradiction)
    have d1 : (k5 == j5) = false := by simpa using e1
    clear hb e1
    go_enter Try.func15, Try.ntmps15
    go_wp2_with fail
    go_ret
    exact ⟨rfl, gx⟩
  subst e1
  by_cases e1 : k6 = j6
  case neg =>
    obtain rfl := sameMs_no hb (by intro e; injection e; contradiction)
    have d1 : (k6 == j6) = false := by simpa using e1
    clear hb e1
    go_enter Try.func15, Try.ntmps15
    go_wp2_with fail
    go_ret
    exact ⟨rfl, gx⟩
  subst e1
  obtain ⟨qt, hqt⟩ : ∃ q, sameT ch ch' = q := ⟨_, rfl⟩
  obtain ⟨qe, hqe⟩ : ∃ q, sameEn en en' = q := ⟨_, rfl⟩
  obtain ⟨qm, hqm⟩ : ∃ q, sameMk mk mk' = q := ⟨_, rfl⟩
  obtain ⟨qd, hqd⟩ : ∃ q, (da == da') = q := ⟨_, rfl⟩
  have HT := Lib.hid hqt
  have HE := Lib.hid hqe
  have HM := Lib.hid hqm
  have hqd2 := Lib.hid hqd
  have HB : Hid ((qt && (qe && (qm && qd))) = b) := by
    unfold Hid
    rw [← hb.out, ← hqt, ← hqe, ← hqm, ← hqd]
    unfold sameMs sameT sameEn sameMk
    rw [Bool.eq_iff_iff]
    simp
  clear hb hqt hqe hqm hqd
  have a0 : ((w.alloc (.cells (msC ⟨k1, k2, k3, k4, k5, k6, ch, en, mk, da⟩ A1 An1 Ac1 A2 An2 Ac2 A3 An3 Ac3 A4 An4 Ac4) TMs)).alloc (.cells (msC ⟨k1, k2, k3, k4, k5, k6, ch', en', mk', da'⟩ B1 Bn1 Bc1 B2 Bn2 Bc2 B3 Bn3 Bc3 B4 Bn4 Bc4) TMs)).cell? ⟨w.heap.size, 0, none⟩ = some (.int .i64 k1) := (Ext.alloc _ _).cell (cell_new _ _ _ 0)
  have a1 : ((w.alloc (.cells (msC ⟨k1, k2, k3, k4, k5, k6, ch, en, mk, da⟩ A1 An1 Ac1 A2 An2 Ac2 A3 An3 Ac3 A4 An4 Ac4) TMs)).alloc (.cells (msC ⟨k1, k2, k3, k4, k5, k6, ch', en', mk', da'⟩ B1 Bn1 Bc1 B2 Bn2 Bc2 B3 Bn3 Bc3 B4 Bn4 Bc4) TMs)).cell? ⟨w.heap.size, 1, none⟩ = some (.int .i64 k2) := (Ext.alloc _ _).cell (cell_new _ _ _ 1)
  have a2 : ((w.alloc (.cells (msC ⟨k1, k2, k3, k4, k5, k6, ch, en, mk, da⟩ A1 An1 Ac1 A2 An2 Ac2 A3 An3 Ac3 A4 An4 Ac4) TMs)).alloc (.cells (msC ⟨k1, k2, k3, k4, k5, k6, ch', en', mk', da'⟩ B1 Bn1 Bc1 B2 Bn2 Bc2 B3 Bn3 Bc3 B4 Bn4 Bc4) TMs)).cell? ⟨w.heap.size, 2, none⟩ = some (.int .i64 k3) := (Ext.alloc _ _).cell (cell_new _ _ _ 2)
  have a3 : ((w.alloc (.cells (msC ⟨k1, k2, k3, k4, k5, k6, ch, en, mk, da⟩ A1 An1 Ac1 A2 An2 Ac2 A3 An3 Ac3 A4 An4 Ac4) TMs)).alloc (.cells (msC ⟨k1, k2, k3, k4, k5, k6, ch', en', mk', da'⟩ B1 Bn1 Bc1 B2 Bn2 Bc2 B3 Bn3 Bc3 B4 Bn4 Bc4) TMs)).cell? ⟨w.heap.size, 3, none⟩ = some (.int .i64 k4) := (Ext.alloc _ _).cell (cell_new _ _ _ 3)
  have a4 : ((w.alloc (.cells (msC ⟨k1, k2, k3, k4, k5, k6, ch, en, mk, da⟩ A1 An1 Ac1 A2 An2 Ac2 A3 An3 Ac3 A4 An4 Ac4) TMs)).alloc (.cells (msC ⟨k1, k2, k3, k4, k5, k6, ch', en', mk', da'⟩ B1 Bn1 Bc1 B2 Bn2 Bc2 B3 Bn3 Bc3 B4 Bn4 Bc4) TMs)).cell? ⟨w.heap.size, 4, none⟩ = some (.int .i64 k5) := (Ext.alloc _ _).cell (cell_new _ _ _ 4)
  have a5 : ((w.alloc (.cells (msC ⟨k1, k2, k3, k4, k5, k6, ch, en, mk, da⟩ A1 An1 Ac1 A2 An2 Ac2 A3 An3 Ac3 A4 An4 Ac4) TMs)).alloc (.cells (msC ⟨k1, k2, k3, k4, k5, k6, ch', en', mk', da'⟩ B1 Bn1 Bc1 B2 Bn2 Bc2 B3 Bn3 Bc3 B4 Bn4 Bc4) TMs)).cell? ⟨w.heap.size, 5, none⟩ = some (.int .i64 k6) := (Ext.alloc _ _).cell (cell_new _ _ _ 5)
  have a6 : ((w.alloc (.cells (msC ⟨k1, k2, k3, k4, k5, k6, ch, en, mk, da⟩ A1 An1 Ac1 A2 An2 Ac2 A3 An3 Ac3 A4 An4 Ac4) TMs)).alloc (.cells (msC ⟨k1, k2, k3, k4, k5, k6, ch', en', mk', da'⟩ B1 Bn1 Bc1 B2 Bn2 Bc2 B3 Bn3 Bc3 B4 Bn4 Bc4) TMs)).cell? ⟨w.heap.size, 6, none⟩ = some (.slice A1 An1 Ac1) := (Ext.alloc _ _).cell (cell_new _ _ _ 6)
  have a7 : ((w.alloc (.cells (msC ⟨k1, k2, k3, k4, k5, k6, ch, en, mk, da⟩ A1 An1 Ac1 A2 An2 Ac2 A3 An3 Ac3 A4 An4 Ac4) TMs)).alloc (.cells (msC ⟨k1, k2, k3, k4, k5, k6, ch', en', mk', da'⟩ B1 Bn1 Bc1 B2 Bn2 Bc2 B3 Bn3 Bc3 B4 Bn4 Bc4) TMs)).cell? ⟨w.heap.size, 7, none⟩ = some (.slice A2 An2 Ac2) := (Ext.alloc _ _).cell (cell_new _ _ _ 7)
  have a8 : ((w.alloc (.cells (msC ⟨k1, k2, k3, k4, k5, k6, ch, en, mk, da⟩ A1 An1 Ac1 A2 An2 Ac2 A3 An3 Ac3 A4 An4 Ac4) TMs)).alloc (.cells (msC ⟨k1, k2, k3, k4, k5, k6, ch', en', mk', da'⟩ B1 Bn1 Bc1 B2 Bn2 Bc2 B3 Bn3 Bc3 B4 Bn4 Bc4) TMs)).cell? ⟨w.heap.size, 8, none⟩ = some (.slice A3 An3 Ac3) := (Ext.alloc _ _).cell (cell_new _ _ _ 8)
  have a9 : ((w.alloc (.cells (msC ⟨k1, k2, k3, k4, k5, k6, ch, en, mk, da⟩ A1 An1 Ac1 A2 An2 Ac2 A3 An3 Ac3 A4 An4 Ac4) TMs)).alloc (.cells (msC ⟨k1, k2, k3, k4, k5, k6, ch', en', mk', da'⟩ B1 Bn1 Bc1 B2 Bn2 Bc2 B3 Bn3 Bc3 B4 Bn4 Bc4) TMs)).cell? ⟨w.heap.size, 9, none⟩ = some (.slice A4 An4 Ac4) := (Ext.alloc _ _).cell (cell_new _ _ _ 9)
  have b0 : ((w.alloc (.cells (msC ⟨k1, k2, k3, k4, k5, k6, ch, en, mk, da⟩ A1 An1 Ac1 A2 An2 Ac2 A3 An3 Ac3 A4 An4 Ac4) TMs)).alloc (.cells (msC ⟨k1, k2, k3, k4, k5, k6, ch', en', mk', da'⟩ B1 Bn1 Bc1 B2 Bn2 Bc2 B3 Bn3 Bc3 B4 Bn4 Bc4) TMs)).cell? ⟨w.heap.size + 1, 0, none⟩ = some (.int .i64 k1) := by
    have := cell_new (w.alloc (.cells (msC ⟨k1, k2, k3, k4, k5, k6, ch, en, mk, da⟩ A1 An1 Ac1 A2 An2 Ac2 A3 An3 Ac3 A4 An4 Ac4) TMs)) (msC ⟨k1, k2, k3, k4, k5, k6, ch', en', mk', da'⟩ B1 Bn1 Bc1 B2 Bn2 Bc2 B3 Bn3 Bc3 B4 Bn4 Bc4) TMs 0
    simpa using this
  have b1 : ((w.alloc (.cells (msC ⟨k1, k2, k3, k4, k5, k6, ch, en, mk, da⟩ A1 An1 Ac1 A2 An2 Ac2 A3 An3 Ac3 A4 An4 Ac4) TMs)).alloc (.cells (msC ⟨k1, k2, k3, k4, k5, k6, ch', en', mk', da'⟩ B1 Bn1 Bc1 B2 Bn2 Bc2 B3 Bn3 Bc3 B4 Bn4 Bc4) TMs)).cell? ⟨w.heap.size + 1, 1, none⟩ = some (.int .i64 k2) := by
    have := cell_new (w.alloc (.cells (msC ⟨k1, k2, k3, k4, k5, k6, ch, en, mk, da⟩ A1 An1 Ac1 A2 An2 Ac2 A3 An3 Ac3 A4 An4 Ac4) TMs)) (msC ⟨k1, k2, k3, k4, k5, k6, ch', en', mk', da'⟩ B1 Bn1 Bc1 B2 Bn2 Bc2 B3 Bn3 Bc3 B4 Bn4 Bc4) TMs 1
    simpa using this
  have b2 : ((w.alloc (.cells (msC ⟨k1, k2, k3, k4, k5, k6, ch, en, mk, da⟩ A1 An1 Ac1 A2 An2 Ac2 A3 An3 Ac3 A4 An4 Ac4) TMs)).alloc (.cells (msC ⟨k1, k2, k3, k4, k5, k6, ch', en', mk', da'⟩ B1 Bn1 Bc1 B2 Bn2 Bc2 B3 Bn3 Bc3 B4 Bn4 Bc4) TMs)).cell? ⟨w.heap.size + 1, 2, none⟩ = some (.int .i64 k3) := by
    have := cell_new (w.alloc (.cells (msC ⟨k1, k2, k3, k4, k5, k6, ch, en, mk, da⟩ A1 An1 Ac1 A2 An2 Ac2 A3 An3 Ac3 A4 An4 Ac4) TMs)) (msC ⟨k1, k2, k3, k4, k5, k6, ch', en', mk', da'⟩ B1 Bn1 Bc1 B2 Bn2 Bc2 B3 Bn3 Bc3 B4 Bn4 Bc4) TMs 2
    simpa using this
  have b3 : ((w.alloc (.cells (msC ⟨k1, k2, k3, k4, k5, k6, ch, en, mk, da⟩ A1 An1 Ac1 A2 An2 Ac2 A3 An3 Ac3 A4 An4 Ac4) TMs)).alloc (.cells (msC ⟨k1, k2, k3, k4, k5, k6, ch', en', mk', da'⟩ B1 Bn1 Bc1 B2 Bn2 Bc2 B3 Bn3 Bc3 B4 Bn4 Bc4) TMs)).cell? ⟨w.heap.size + 1, 3, none⟩ = some (.int .i64 k4) := by
    have := cell_new (w.alloc (.cells (msC ⟨k1, k2, k3, k4, k5, k6, ch, en, mk, da⟩ A1 An1 Ac1 A2 An2 Ac2 A3 An3 Ac3 A4 An4 Ac4) TMs)) (msC ⟨k1, k2, k3, k4, k5, k6, ch', en', mk', da'⟩ B1 Bn1 Bc1 B2 Bn2 Bc2 B3 Bn3 Bc3 B4 Bn4 Bc4) TMs 3
    simpa using this
  have b4 : ((w.alloc (.cells (msC ⟨k1, k2, k3, k4, k5, k6, ch, en, mk, da⟩ A1 An1 Ac1 A2 An2 Ac2 A3 An3 Ac3 A4 An4 Ac4) TMs)).alloc (.cells (msC ⟨k1, k2, k3, k4, k5, k6, ch', en', mk', da'⟩ B1 Bn1 Bc1 B2 Bn2 Bc2 B3 Bn3 Bc3 B4 Bn4 Bc4) TMs)).cell? ⟨w.heap.size + 1, 4, none⟩ = some (.int .i64 k5) := by
    have := cell_new (w.alloc (.cells (msC ⟨k1, k2, k3, k4, k5, k6, ch, en, mk, da⟩ A1 An1 Ac1 A2 An2 Ac2 A3 An3 Ac3 A4 An4 Ac4) TMs)) (msC ⟨k1, k2, k3, k4, k5, k6, ch', en', mk', da'⟩ B1 Bn1 Bc1 B2 Bn2 Bc2 B3 Bn3 Bc3 B4 Bn4 Bc4) TMs 4
    simpa using this
  have b5 : ((w.alloc (.cells (msC ⟨k1, k2, k3, k4, k5, k6, ch, en, mk, da⟩ A1 An1 Ac1 A2 An2 Ac2 A3 An3 Ac3 A4 An4 Ac4) TMs)).alloc (.cells (msC ⟨k1, k2, k3, k4, k5, k6, ch', en', mk', da'⟩ B1 Bn1 Bc1 B2 Bn2 Bc2 B3 Bn3 Bc3 B4 Bn4 Bc4) TMs)).cell? ⟨w.heap.size + 1, 5, none⟩ = some (.int .i64 k6) := by
    have := cell_new (w.alloc (.cells (msC ⟨k1, k2, k3, k4, k5, k6, ch, en, mk, da⟩ A1 An1 Ac1 A2 An2 Ac2 A3 An3 Ac3 A4 An4 Ac4) TMs)) (msC ⟨k1, k2, k3, k4, k5, k6, ch', en', mk', da'⟩ B1 Bn1 Bc1 B2 Bn2 Bc2 B3 Bn3 Bc3 B4 Bn4 Bc4) TMs 5
    simpa using this
  have b6 : ((w.alloc (.cells (msC ⟨k1, k2, k3, k4, k5, k6, ch, en, mk, da⟩ A1 An1 Ac1 A2 An2 Ac2 A3 An3 Ac3 A4 An4 Ac4) TMs)).alloc (.cells (msC ⟨k1, k2, k3, k4, k5, k6, ch', en', mk', da'⟩ B1 Bn1 Bc1 B2 Bn2 Bc2 B3 Bn3 Bc3 B4 Bn4 Bc4) TMs)).cell? ⟨w.heap.size + 1, 6, none⟩ = some (.slice B1 Bn1 Bc1) := by
    have := cell_new (w.alloc (.cells (msC ⟨k1, k2, k3, k4, k5, k6, ch, en, mk, da⟩ A1 An1 Ac1 A2 An2 Ac2 A3 An3 Ac3 A4 An4 Ac4) TMs)) (msC ⟨k1, k2, k3, k4, k5, k6, ch', en', mk', da'⟩ B1 Bn1 Bc1 B2 Bn2 Bc2 B3 Bn3 Bc3 B4 Bn4 Bc4) TMs 6
    simpa using this
  have b7 : ((w.alloc (.cells (msC ⟨k1, k2, k3, k4, k5, k6, ch, en, mk, da⟩ A1 An1 Ac1 A2 An2 Ac2 A3 An3 Ac3 A4 An4 Ac4) TMs)).alloc (.cells (msC ⟨k1, k2, k3, k4, k5, k6, ch', en', mk', da'⟩ B1 Bn1 Bc1 B2 Bn2 Bc2 B3 Bn3 Bc3 B4 Bn4 Bc4) TMs)).cell? ⟨w.heap.size + 1, 7, none⟩ = some (.slice B2 Bn2 Bc2) := by
    have := cell_new (w.alloc (.cells (msC ⟨k1, k2, k3, k4, k5, k6, ch, en, mk, da⟩ A1 An1 Ac1 A2 An2 Ac2 A3 An3 Ac3 A4 An4 Ac4) TMs)) (msC ⟨k1, k2, k3, k4, k5, k6, ch', en', mk', da'⟩ B1 Bn1 Bc1 B2 Bn2 Bc2 B3 Bn3 Bc3 B4 Bn4 Bc4) TMs 7
    simpa using this
  have b8 : ((w.alloc (.cells (msC ⟨k1, k2, k3, k4, k5, k6, ch, en, mk, da⟩ A1 An1 Ac1 A2 An2 Ac2 A3 An3 Ac3 A4 An4 Ac4) TMs)).alloc (.cells (msC ⟨k1, k2, k3, k4, k5, k6, ch', en', mk', da'⟩ B1 Bn1 Bc1 B2 Bn2 Bc2 B3 Bn3 Bc3 B4 Bn4 Bc4) TMs)).cell? ⟨w.heap.size + 1, 8, none⟩ = some (.slice B3 Bn3 Bc3) := by
    have := cell_new (w.alloc (.cells (msC ⟨k1, k2, k3, k4, k5, k6, ch, en, mk, da⟩ A1 An1 Ac1 A2 An2 Ac2 A3 An3 Ac3 A4 An4 Ac4) TMs)) (msC ⟨k1, k2, k3, k4, k5, k6, ch', en', mk', da'⟩ B1 Bn1 Bc1 B2 Bn2 Bc2 B3 Bn3 Bc3 B4 Bn4 Bc4) TMs 8
    simpa using this
  have b9 : ((w.alloc (.cells (msC ⟨k1, k2, k3, k4, k5, k6, ch, en, mk, da⟩ A1 An1 Ac1 A2 An2 Ac2 A3 An3 Ac3 A4 An4 Ac4) TMs)).alloc (.cells (msC ⟨k1, k2, k3, k4, k5, k6, ch', en', mk', da'⟩ B1 Bn1 Bc1 B2 Bn2 Bc2 B3 Bn3 Bc3 B4 Bn4 Bc4) TMs)).cell? ⟨w.heap.size + 1, 9, none⟩ = some (.slice B4 Bn4 Bc4) := by
    have := cell_new (w.alloc (.cells (msC ⟨k1, k2, k3, k4, k5, k6, ch, en, mk, da⟩ A1 An1 Ac1 A2 An2 Ac2 A3 An3 Ac3 A4 An4 Ac4) TMs)) (msC ⟨k1, k2, k3, k4, k5, k6, ch', en', mk', da'⟩ B1 Bn1 Bc1 B2 Bn2 Bc2 B3 Bn3 Bc3 B4 Bn4 Bc4) TMs 9
    simpa using this
  obtain ⟨wa, hwa⟩ : ∃ q, q = ((w.alloc (.cells (msC ⟨k1, k2, k3, k4, k5, k6, ch, en, mk, da⟩ A1 An1 Ac1 A2 An2 Ac2 A3 An3 Ac3 A4 An4 Ac4) TMs)).alloc (.cells (msC ⟨k1, k2, k3, k4, k5, k6, ch', en', mk', da'⟩ B1 Bn1 Bc1 B2 Bn2 Bc2 B3 Bn3 Bc3 B4 Bn4 Bc4) TMs)) := ⟨_, rfl⟩
  rw [← hwa] at a0 a1 a2 a3 a4 a5 a6 a7 a8 a9 b0 b1 b2 b3 b4 b5 b6 b7 b8 b9 h1 h2 gx
  skip
  go_enter Try.func15, Try.ntmps15
  go_wp2_with fail
  rw [← hwa]
  clear hwa
  refine (ref_SameTags h1.ch h2.ch HT).mono ?_
  rintro e w2 ⟨rfl, hx2⟩
  cases qt with
  | false =>
    obtain rfl : false = b := HB.out
    go_wp2_with fail
    go_ret
    exact ⟨rfl, gx.trans hx2⟩
  | true =>
  replace gx := gx.trans hx2
  replace h1 := h1.ext hx2
  replace h2 := h2.ext hx2
  replace a0 := hx2.cell a0
  replace b0 := hx2.cell b0
  replace a1 := hx2.cell a1
  replace b1 := hx2.cell b1
  replace a2 := hx2.cell a2
  replace b2 := hx2.cell b2
  replace a3 := hx2.cell a3
  replace b3 := hx2.cell b3
  replace a4 := hx2.cell a4
  replace b4 := hx2.cell b4
  replace a5 := hx2.cell a5
  replace b5 := hx2.cell b5
  replace a6 := hx2.cell a6
  replace b6 := hx2.cell b6
  replace a7 := hx2.cell a7
  replace b7 := hx2.cell b7
  replace a8 := hx2.cell a8
  replace b8 := hx2.cell b8
  replace a9 := hx2.cell a9
  replace b9 := hx2.cell b9
  clear hx2
  go_wp2_with fail
  refine (ref_SameEntries_h h1.en h2.en HE).mono ?_
  rintro e w3 ⟨rfl, hx3⟩
  cases qe with
  | false =>
    obtain rfl : false = b := HB.out
    go_wp2_with fail
    go_ret
    exact ⟨rfl, gx.trans hx3⟩
  | true =>
  replace gx := gx.trans hx3
  replace h1 := h1.ext hx3
  replace h2 := h2.ext hx3
  replace a0 := hx3.cell a0
  replace b0 := hx3.cell b0
  replace a1 := hx3.cell a1
  replace b1 := hx3.cell b1
  replace a2 := hx3.cell a2
  replace b2 := hx3.cell b2
  replace a3 := hx3.cell a3
  replace b3 := hx3.cell b3
  replace a4 := hx3.cell a4
  replace b4 := hx3.cell b4
  replace a5 := hx3.cell a5
  replace b5 := hx3.cell b5
  replace a6 := hx3.cell a6
  replace b6 := hx3.cell b6
  replace a7 := hx3.cell a7
  replace b7 := hx3.cell b7
  replace a8 := hx3.cell a8
  replace b8 := hx3.cell b8
  replace a9 := hx3.cell a9
  replace b9 := hx3.cell b9
  clear hx3
  go_wp2_with fail
  refine (ref_SameMarks h1.ms h2.ms HM).mono ?_
  rintro e w4 ⟨rfl, hx4⟩
  cases qm with
  | false =>
    obtain rfl : false = b := HB.out
    go_wp2_with fail
    go_ret
    exact ⟨rfl, gx.trans hx4⟩
  | true =>
  replace gx := gx.trans hx4
  replace h1 := h1.ext hx4
  replace h2 := h2.ext hx4
  replace a0 := hx4.cell a0
  replace b0 := hx4.cell b0
  replace a1 := hx4.cell a1
  replace b1 := hx4.cell b1
  replace a2 := hx4.cell a2
  replace b2 := hx4.cell b2
  replace a3 := hx4.cell a3
  replace b3 := hx4.cell b3
  replace a4 := hx4.cell a4
  replace b4 := hx4.cell b4
  replace a5 := hx4.cell a5
  replace b5 := hx4.cell b5
  replace a6 := hx4.cell a6
  replace b6 := hx4.cell b6
  replace a7 := hx4.cell a7
  replace b7 := hx4.cell b7
  replace a8 := hx4.cell a8
  replace b8 := hx4.cell b8
  replace a9 := hx4.cell a9
  replace b9 := hx4.cell b9
  clear hx4
  obtain rfl : qd = b := HB.out
  have t1 := run_text_u8 h1.da; have t2 := run_text_u8 h2.da; have hqd := hqd2.out; clear HB hqd2 HT HE HM; go_wp2_with fail; go_ret; exact ⟨rfl, gx⟩
end Go.Proofs.Ytoeknbogaclfdaa
