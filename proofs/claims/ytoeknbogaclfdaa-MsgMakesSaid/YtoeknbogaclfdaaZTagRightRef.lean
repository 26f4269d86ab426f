/-
  Chains: which may be: contract of the reference RightChain.
-/
import Derived.Test.YtoeknbogaclfdaaZFromTagSameToTagRight
import Derived.Deep.QuietTactic
namespace Go.Proofs.Ytoeknbogaclfdaa
open Go.RowKit
set_option linter.unusedVariables false
set_option linter.unusedSimpArgs false
set_option linter.unnecessarySimpa false
set_option maxRecDepth 100000
theorem Ext.drewN {a w : World} (h : Ext a w) (n : Nat) : Ext a (w.drewN n) := Ext.trans h ⟨rfl, rfl, rfl, Nat.le_refl _, fun _ _ => rfl⟩
set_option maxHeartbeats 2000000 in
theorem ref_RightChain {A : Option Addr} {n c : Nat} {xs : List Tg} {w : World} (l1 : Lst 4 tgR w A n c xs) {r : Bool} (hr : Hid (rightL xs = r)) :
    Calls Try.prog 98 #[.slice A n c] w fun e w' => e = .returned (.bool r) ∧ Ext w w' := by
  have h63 := l1.n63
  have hlen := l1.len
  by_cases h0 : n < 1
  · obtain rfl : r = false := by rw [← hr.out]; exact rightL_no fun h => by have := h.1; omega
    go_enter Try.func98, Try.ntmps98
    go_wp2_with fail
    go_ret
    exact ⟨rfl, Ext.refl _⟩
  by_cases h32 : 32 < n
  · obtain rfl : r = false := by rw [← hr.out]; exact rightL_no fun h => by have := h.2.1; omega
    go_enter Try.func98, Try.ntmps98
    go_wp2_with fail
    go_ret
    exact ⟨rfl, Ext.refl _⟩
  obtain ⟨g0, o0, z, cs0, rfl, hz, rfl, hb⟩ := l1.at2 tg_rep (by omega) (show 0 < n by omega)
  have z3 := hb 3 _ rfl
  rw [show o0 + 0 * 4 + 3 = o0 + 3 by omega] at z3
  have hz0 := ok_next hz
  obtain ⟨z1, z2, z4, z5⟩ := z
  simp only at z3
  clear hb
  by_cases hp0 : z5 = 0
  case neg =>
    obtain rfl := right_no hr.out (k := 0) (by omega) (by rw [hz0]; unfold tagB; simp [hp0])
    have hpb : (z5 != 0) = true := by simpa using hp0
    clear hz0 hz hlen hp0
    go_enter Try.func98, Try.ntmps98
    go_wp2_with fail
    go_ret
    exact ⟨rfl, Ext.refl _⟩
  have HLEN := Lib.hid hlen
  subst hp0
  clear hlen hz0
  have HZ := Lib.hid hz
  clear hz
  go_enter Try.func98, Try.ntmps98
  go_wp2_with fail
  go_loopw [3] (fun i wr => ∃ k : Nat, k ≤ n ∧ i = .int .i64 k ∧ Hid (∀ i, i < k → okAt xs i = true) ∧ Ext w wr) (fun i _ => n - (intOf i).toNat)
  case atStart => exact ⟨0, by omega, rfl, fun i hi => by omega, Ext.refl _⟩
  case round =>
    obtain ⟨k, hk, rfl, hok, hxr⟩ := hrel
    clear z3
    by_cases hlt : k < n
    · obtain ⟨ga, oa, x, cs, hA, hx, rfl, ha⟩ := l1.at2 tg_rep (by omega) hlt
      injection hA with hA
      injection hA with hA1 hA2
      subst hA1 hA2
      have a0 : wr.cell? ⟨g0, o0 + k * 4, none⟩ = _ := hxr.cell (ha 0 _ rfl)
      have a1 := hxr.cell (ha 1 _ rfl)
      have a2 := hxr.cell (ha 2 _ rfl)
      have a3 := hxr.cell (ha 3 _ rfl)
      obtain ⟨x1, x2, x3, x4⟩ := x
      simp only at a0 a1 a2 a3
      clear ha
      obtain ⟨w2, hw2⟩ : ∃ q, q = wr.alloc (.cells #[.int .i64 x1, .int .i64 x2, .int .i64 x3, .int .i64 x4] 104) := ⟨_, rfl⟩
      have hx2 : Ext w w2 := by rw [hw2]; exact hxr.allocs _
      have b0 : w2.cell? ⟨wr.heap.size, 0, none⟩ = some (.int .i64 x1) := by rw [hw2]; exact cell_new _ _ _ 0
      have b1 : w2.cell? ⟨wr.heap.size, 1, none⟩ = some (.int .i64 x2) := by rw [hw2]; exact cell_new _ _ _ 1
      have b2 : w2.cell? ⟨wr.heap.size, 2, none⟩ = some (.int .i64 x3) := by rw [hw2]; exact cell_new _ _ _ 2
      have b3 : w2.cell? ⟨wr.heap.size, 3, none⟩ = some (.int .i64 x4) := by rw [hw2]; exact cell_new _ _ _ 3
      by_cases c1 : x1 < 1
      · skip
        skip
        obtain rfl := right_no hr.out (by rw [HLEN.out]; exact hlt) (by rw [ok_next hx]; unfold tagB tgOk; simp; omega)
        clear hx hok hr
        go_wp2_with fail
        rw [← hw2]
        clear hw2
        go_quiet (fail)
        go_wp2_with fail
        go_ret
        exact ⟨rfl, hx2.drewN _⟩
      by_cases c2 : 1073741824 < x1
      · skip
        have d1 : decide (x1 < 1) = false := decide_eq_false (by omega)
        skip
        obtain rfl := right_no hr.out (by rw [HLEN.out]; exact hlt) (by rw [ok_next hx]; unfold tagB tgOk; simp; omega)
        clear hx hok hr
        go_wp2_with fail
        rw [← hw2]
        clear hw2
        go_quiet (fail)
        go_wp2_with fail
        go_ret
        exact ⟨rfl, hx2.drewN _⟩
      by_cases c3 : x2 < 0
      · skip
        have d1 : decide (x1 < 1) = false := decide_eq_false (by omega)
        have d2 : decide (1073741824 < x1) = false := decide_eq_false (by omega)
        skip
        obtain rfl := right_no hr.out (by rw [HLEN.out]; exact hlt) (by rw [ok_next hx]; unfold tagB tgOk; simp; omega)
        clear hx hok hr
        go_wp2_with fail
        rw [← hw2]
        clear hw2
        go_quiet (fail)
        go_wp2_with fail
        go_ret
        exact ⟨rfl, hx2.drewN _⟩
      by_cases c4 : 2 < x2
      · skip
        have d1 : decide (x1 < 1) = false := decide_eq_false (by omega)
        have d2 : decide (1073741824 < x1) = false := decide_eq_false (by omega)
        have d3 : decide (x2 < 0) = false := decide_eq_false (by omega)
        skip
        obtain rfl := right_no hr.out (by rw [HLEN.out]; exact hlt) (by rw [ok_next hx]; unfold tagB tgOk; simp; omega)
        clear hx hok hr
        go_wp2_with fail
        rw [← hw2]
        clear hw2
        go_quiet (fail)
        go_wp2_with fail
        go_ret
        exact ⟨rfl, hx2.drewN _⟩
      by_cases c5 : x3 < 0
      · skip
        have d1 : decide (x1 < 1) = false := decide_eq_false (by omega)
        have d2 : decide (1073741824 < x1) = false := decide_eq_false (by omega)
        have d3 : decide (x2 < 0) = false := decide_eq_false (by omega)
        have d4 : decide (2 < x2) = false := decide_eq_false (by omega)
        skip
        obtain rfl := right_no hr.out (by rw [HLEN.out]; exact hlt) (by rw [ok_next hx]; unfold tagB tgOk; simp; omega)
        clear hx hok hr
        go_wp2_with fail
        rw [← hw2]
        clear hw2
        go_quiet (fail)
        go_wp2_with fail
        go_ret
        exact ⟨rfl, hx2.drewN _⟩
      by_cases c6 : 2 < x3
      · skip
        have d1 : decide (x1 < 1) = false := decide_eq_false (by omega)
        have d2 : decide (1073741824 < x1) = false := decide_eq_false (by omega)
        have d3 : decide (x2 < 0) = false := decide_eq_false (by omega)
        have d4 : decide (2 < x2) = false := decide_eq_false (by omega)
        have d5 : decide (x3 < 0) = false := decide_eq_false (by omega)
        skip
        obtain rfl := right_no hr.out (by rw [HLEN.out]; exact hlt) (by rw [ok_next hx]; unfold tagB tgOk; simp; omega)
        clear hx hok hr
        go_wp2_with fail
        rw [← hw2]
        clear hw2
        go_quiet (fail)
        go_wp2_with fail
        go_ret
        exact ⟨rfl, hx2.drewN _⟩
      have d1 : decide (x1 < 1) = false := decide_eq_false (by omega)
      have d2 : decide (1073741824 < x1) = false := decide_eq_false (by omega)
      have d3 : decide (x2 < 0) = false := decide_eq_false (by omega)
      have d4 : decide (2 < x2) = false := decide_eq_false (by omega)
      have d5 : decide (x3 < 0) = false := decide_eq_false (by omega)
      have d6 : decide (2 < x3) = false := decide_eq_false (by omega)
      by_cases e : x2 = 0
      · subst e
        by_cases hz : 0 < x3
        · have dz : decide (0 < x3) = true := decide_eq_true hz
          by_cases c8 : 1099511627776 < x4
          · skip
            skip
            obtain rfl := right_no hr.out (by rw [HLEN.out]; exact hlt) (by rw [ok_next hx]; unfold tagB tgOk; simp; omega)
            clear hx hok hr
            go_wp2_with fail
            rw [← hw2]
            clear hw2
            go_quiet (fail)
            go_wp2_with fail
            go_ret
            exact ⟨rfl, hx2.drewN _⟩
          have d8 : decide (1099511627776 < x4) = false := decide_eq_false c8
          by_cases hk0 : k = 0
          · have dk : decide ((0 : Int) < (k : Int)) = false := decide_eq_false (by omega)
            have dkn : decide (0 < k) = false := decide_eq_false (by omega)
            have hx4 : x4 = 0 := by
              have := HZ.out
              rw [hk0] at hx
              rw [hx] at this
              injection this with this
              injection this
            have HN : Hid ((∀ z ∈ xs.take k, z.id ≠ x1) → ∀ i, i < k + 1 → okAt xs i = true) := fun hids i hi => by
              have : i = k := by omega
              subst this
              rw [ok_next hx, tagB_of hids]
              simp only [decide_eq_true_eq]
              unfold tagP
              rw [hk0]
              simp [lastPt]
              omega
            have HX := Lib.hid hx
            clear hx hx4 hk0
            go_wp2_with fail
            rw [← hw2]
            clear hw2
            go_quiet (fail)
            go_wp2_with fail
            go_loopw [5] (fun i wr => ∃ q : Nat, q ≤ k ∧ i = .int .i64 q ∧ Hid (∀ z ∈ xs.take q, z.id ≠ x1) ∧ Ext w2 wr) (fun i _ => k - (intOf i).toNat)
            case atStart => exact ⟨0, by omega, rfl, by simp [Hid], (Ext.refl _).drewN _⟩
            case round =>
              obtain ⟨q, hq, rfl, hids, hxq⟩ := hrel
              by_cases hlt2 : q < k
              · obtain ⟨gz, oz, z, cz, hA, hzz, rfl, haz⟩ := l1.at2 tg_rep (by omega) (show q < n by omega)
                injection hA with hA
                injection hA with hA1 hA2
                subst hA1 hA2
                have q0 : wr.cell? ⟨g0, o0 + q * 4, none⟩ = _ := (hx2.trans hxq).cell (haz 0 _ rfl)
                have q1 := hxq.cell b0
                clear haz
                by_cases hne : z.id = x1
                · have hmem : z ∈ xs.take k := List.mem_iff_getElem?.2 ⟨q, by rw [List.getElem?_take, if_pos (by omega)]; exact hzz⟩
                  obtain rfl := right_no hr.out (by rw [HLEN.out]; exact hlt) (by rw [ok_next HX.out]; exact tagB_no hmem hne)
                  clear hok hr HN HX hzz hids hmem
                  obtain ⟨f1, f2, f3, f4⟩ := z
                  simp only at q0 hne
                  subst hne
                  go_wp2_with fail
                  go_quiet (fail)
                  go_wp2_with fail
                  go_ret
                  exact ⟨rfl, (hx2.trans hxq).drewN _⟩
                · have HI := Lib.hid (ids_next (y := ⟨x1, 0, 0, 0⟩) hzz hids.out hne)
                  have hnb : (z.id == x1) = false := by simpa using hne
                  obtain ⟨f1, f2, f3, f4⟩ := z
                  simp only at q0 hnb
                  clear hzz hids hne
                  go_wp2_with fail
                  go_quiet (fail)
                  go_wp2_with fail
                  go_roundw
                  case rel => exact ⟨q + 1, by omega, by go_num, HI, hxq.drewN _⟩
                  case measure => simp [intOf]; omega
              · have HK := Lib.hid (HN.out (by rw [show k = q by omega]; exact hids.out))
                clear HN hids HX hok
                go_wp2_with fail
                go_roundw
                case rel => exact ⟨k + 1, by omega, by go_num, HK, hx2.trans hxq⟩
                case measure => simp [intOf]; omega
          · obtain ⟨j, rfl⟩ : ∃ j, k = j + 1 := ⟨k - 1, by omega⟩
            have dk : decide ((0 : Int) < ((j + 1 : Nat) : Int)) = true := decide_eq_true (by omega)
            obtain ⟨gy, oy, y, cy, hA, hy, rfl, hay⟩ := l1.at2 tg_rep (by omega) (show j < n by omega)
            injection hA with hA
            injection hA with hA1 hA2
            subst hA1 hA2
            have p3 := hx2.cell (hay 3 _ rfl)
            have hly := lastPt_next hy 0
            obtain ⟨y1, y2, y3, y4⟩ := y
            simp only at p3 hly
            clear hay
            by_cases c9 : x4 < y4
            · obtain rfl := right_no hr.out (by rw [HLEN.out]; exact hlt) (by rw [ok_next hx]; unfold tagB tgOk; rw [hly]; simp; omega)
              clear hx hok hr hy hly
              go_wp2_with fail
              rw [← hw2]
              clear hw2
              go_quiet (fail)
              go_wp2_with fail
              go_ret
              exact ⟨rfl, hx2.drewN _⟩
            · have d9 : decide (x4 < y4) = false := decide_eq_false c9
              have HN : Hid ((∀ z ∈ xs.take (j + 1), z.id ≠ x1) → ∀ i, i < j + 1 + 1 → okAt xs i = true) := fun hids i hi => by
                by_cases e : i = j + 1
                · subst e
                  rw [ok_next hx, tagB_of hids, hly]
                  simp only [decide_eq_true_eq]
                  unfold tagP
                  have hl : (xs.take (j + 1)).length = j + 1 := by rw [List.length_take, HLEN.out]; omega
                  simp [hl]
                  omega
                · exact hok.out i (by omega)
              clear hy hly
              have HX := Lib.hid hx
              clear hx
              go_wp2_with fail
              rw [← hw2]
              clear hw2
              go_quiet (fail)
              go_wp2_with fail
              go_loopw [5] (fun i wr => ∃ q : Nat, q ≤ (j + 1) ∧ i = .int .i64 q ∧ Hid (∀ z ∈ xs.take q, z.id ≠ x1) ∧ Ext w2 wr) (fun i _ => (j + 1) - (intOf i).toNat)
              case atStart => exact ⟨0, by omega, rfl, by simp [Hid], (Ext.refl _).drewN _⟩
              case round =>
                obtain ⟨q, hq, rfl, hids, hxq⟩ := hrel
                by_cases hlt2 : q < (j + 1)
                · obtain ⟨gz, oz, z, cz, hA, hzz, rfl, haz⟩ := l1.at2 tg_rep (by omega) (show q < n by omega)
                  injection hA with hA
                  injection hA with hA1 hA2
                  subst hA1 hA2
                  have q0 : wr.cell? ⟨g0, o0 + q * 4, none⟩ = _ := (hx2.trans hxq).cell (haz 0 _ rfl)
                  have q1 := hxq.cell b0
                  clear haz
                  by_cases hne : z.id = x1
                  · have hmem : z ∈ xs.take (j + 1) := List.mem_iff_getElem?.2 ⟨q, by rw [List.getElem?_take, if_pos (by omega)]; exact hzz⟩
                    obtain rfl := right_no hr.out (by rw [HLEN.out]; exact hlt) (by rw [ok_next HX.out]; exact tagB_no hmem hne)
                    clear hok hr HN HX hzz hids hmem
                    obtain ⟨f1, f2, f3, f4⟩ := z
                    simp only at q0 hne
                    subst hne
                    go_wp2_with fail
                    go_quiet (fail)
                    go_wp2_with fail
                    go_ret
                    exact ⟨rfl, (hx2.trans hxq).drewN _⟩
                  · have HI := Lib.hid (ids_next (y := ⟨x1, 0, 0, 0⟩) hzz hids.out hne)
                    have hnb : (z.id == x1) = false := by simpa using hne
                    obtain ⟨f1, f2, f3, f4⟩ := z
                    simp only at q0 hnb
                    clear hzz hids hne
                    go_wp2_with fail
                    go_quiet (fail)
                    go_wp2_with fail
                    go_roundw
                    case rel => exact ⟨q + 1, by omega, by go_num, HI, hxq.drewN _⟩
                    case measure => simp [intOf]; omega
                · have HK := Lib.hid (HN.out (by rw [show (j + 1) = q by omega]; exact hids.out))
                  clear HN hids HX hok
                  go_wp2_with fail
                  go_roundw
                  case rel => exact ⟨(j + 1) + 1, by omega, by go_num, HK, hx2.trans hxq⟩
                  case measure => simp [intOf]; omega
        · have dz : decide (0 < x3) = false := decide_eq_false hz
          skip
          obtain rfl := right_no hr.out (by rw [HLEN.out]; exact hlt) (by rw [ok_next hx]; unfold tagB tgOk; simp; omega)
          clear hx hok hr
          go_wp2_with fail
          rw [← hw2]
          clear hw2
          go_quiet (fail)
          go_wp2_with fail
          go_ret
          exact ⟨rfl, hx2.drewN _⟩
      · have qe : (x2 == 0) = false := by simpa using e
        by_cases hz : 0 < x3
        · have dz : decide (0 < x3) = true := decide_eq_true hz
          skip
          obtain rfl := right_no hr.out (by rw [HLEN.out]; exact hlt) (by rw [ok_next hx]; unfold tagB tgOk; simp; omega)
          clear hx hok hr
          go_wp2_with fail
          rw [← hw2]
          clear hw2
          go_quiet (fail)
          go_wp2_with fail
          go_ret
          exact ⟨rfl, hx2.drewN _⟩
        · have dz : decide (0 < x3) = false := decide_eq_false hz
          by_cases c8 : 1099511627776 < x4
          · skip
            skip
            obtain rfl := right_no hr.out (by rw [HLEN.out]; exact hlt) (by rw [ok_next hx]; unfold tagB tgOk; simp; omega)
            clear hx hok hr
            go_wp2_with fail
            rw [← hw2]
            clear hw2
            go_quiet (fail)
            go_wp2_with fail
            go_ret
            exact ⟨rfl, hx2.drewN _⟩
          have d8 : decide (1099511627776 < x4) = false := decide_eq_false c8
          by_cases hk0 : k = 0
          · have dk : decide ((0 : Int) < (k : Int)) = false := decide_eq_false (by omega)
            have dkn : decide (0 < k) = false := decide_eq_false (by omega)
            have hx4 : x4 = 0 := by
              have := HZ.out
              rw [hk0] at hx
              rw [hx] at this
              injection this with this
              injection this
            have HN : Hid ((∀ z ∈ xs.take k, z.id ≠ x1) → ∀ i, i < k + 1 → okAt xs i = true) := fun hids i hi => by
              have : i = k := by omega
              subst this
              rw [ok_next hx, tagB_of hids]
              simp only [decide_eq_true_eq]
              unfold tagP
              rw [hk0]
              simp [lastPt]
              omega
            have HX := Lib.hid hx
            clear hx hx4 hk0
            go_wp2_with fail
            rw [← hw2]
            clear hw2
            go_quiet (fail)
            go_wp2_with fail
            go_loopw [5] (fun i wr => ∃ q : Nat, q ≤ k ∧ i = .int .i64 q ∧ Hid (∀ z ∈ xs.take q, z.id ≠ x1) ∧ Ext w2 wr) (fun i _ => k - (intOf i).toNat)
            case atStart => exact ⟨0, by omega, rfl, by simp [Hid], (Ext.refl _).drewN _⟩
            case round =>
              obtain ⟨q, hq, rfl, hids, hxq⟩ := hrel
              by_cases hlt2 : q < k
              · obtain ⟨gz, oz, z, cz, hA, hzz, rfl, haz⟩ := l1.at2 tg_rep (by omega) (show q < n by omega)
                injection hA with hA
                injection hA with hA1 hA2
                subst hA1 hA2
                have q0 : wr.cell? ⟨g0, o0 + q * 4, none⟩ = _ := (hx2.trans hxq).cell (haz 0 _ rfl)
                have q1 := hxq.cell b0
                clear haz
                by_cases hne : z.id = x1
                · have hmem : z ∈ xs.take k := List.mem_iff_getElem?.2 ⟨q, by rw [List.getElem?_take, if_pos (by omega)]; exact hzz⟩
                  obtain rfl := right_no hr.out (by rw [HLEN.out]; exact hlt) (by rw [ok_next HX.out]; exact tagB_no hmem hne)
                  clear hok hr HN HX hzz hids hmem
                  obtain ⟨f1, f2, f3, f4⟩ := z
                  simp only at q0 hne
                  subst hne
                  go_wp2_with fail
                  go_quiet (fail)
                  go_wp2_with fail
                  go_ret
                  exact ⟨rfl, (hx2.trans hxq).drewN _⟩
                · have HI := Lib.hid (ids_next (y := ⟨x1, 0, 0, 0⟩) hzz hids.out hne)
                  have hnb : (z.id == x1) = false := by simpa using hne
                  obtain ⟨f1, f2, f3, f4⟩ := z
                  simp only at q0 hnb
                  clear hzz hids hne
                  go_wp2_with fail
                  go_quiet (fail)
                  go_wp2_with fail
                  go_roundw
                  case rel => exact ⟨q + 1, by omega, by go_num, HI, hxq.drewN _⟩
                  case measure => simp [intOf]; omega
              · have HK := Lib.hid (HN.out (by rw [show k = q by omega]; exact hids.out))
                clear HN hids HX hok
                go_wp2_with fail
                go_roundw
                case rel => exact ⟨k + 1, by omega, by go_num, HK, hx2.trans hxq⟩
                case measure => simp [intOf]; omega
          · obtain ⟨j, rfl⟩ : ∃ j, k = j + 1 := ⟨k - 1, by omega⟩
            have dk : decide ((0 : Int) < ((j + 1 : Nat) : Int)) = true := decide_eq_true (by omega)
            obtain ⟨gy, oy, y, cy, hA, hy, rfl, hay⟩ := l1.at2 tg_rep (by omega) (show j < n by omega)
            injection hA with hA
            injection hA with hA1 hA2
            subst hA1 hA2
            have p3 := hx2.cell (hay 3 _ rfl)
            have hly := lastPt_next hy 0
            obtain ⟨y1, y2, y3, y4⟩ := y
            simp only at p3 hly
            clear hay
            by_cases c9 : x4 < y4
            · obtain rfl := right_no hr.out (by rw [HLEN.out]; exact hlt) (by rw [ok_next hx]; unfold tagB tgOk; rw [hly]; simp; omega)
              clear hx hok hr hy hly
              go_wp2_with fail
              rw [← hw2]
              clear hw2
              go_quiet (fail)
              go_wp2_with fail
              go_ret
              exact ⟨rfl, hx2.drewN _⟩
            · have d9 : decide (x4 < y4) = false := decide_eq_false c9
              have HN : Hid ((∀ z ∈ xs.take (j + 1), z.id ≠ x1) → ∀ i, i < j + 1 + 1 → okAt xs i = true) := fun hids i hi => by
                by_cases e : i = j + 1
                · subst e
                  rw [ok_next hx, tagB_of hids, hly]
                  simp only [decide_eq_true_eq]
                  unfold tagP
                  have hl : (xs.take (j + 1)).length = j + 1 := by rw [List.length_take, HLEN.out]; omega
                  simp [hl]
                  omega
                · exact hok.out i (by omega)
              clear hy hly
              have HX := Lib.hid hx
              clear hx
              go_wp2_with fail
              rw [← hw2]
              clear hw2
              go_quiet (fail)
              go_wp2_with fail
              go_loopw [5] (fun i wr => ∃ q : Nat, q ≤ (j + 1) ∧ i = .int .i64 q ∧ Hid (∀ z ∈ xs.take q, z.id ≠ x1) ∧ Ext w2 wr) (fun i _ => (j + 1) - (intOf i).toNat)
              case atStart => exact ⟨0, by omega, rfl, by simp [Hid], (Ext.refl _).drewN _⟩
              case round =>
                obtain ⟨q, hq, rfl, hids, hxq⟩ := hrel
                by_cases hlt2 : q < (j + 1)
                · obtain ⟨gz, oz, z, cz, hA, hzz, rfl, haz⟩ := l1.at2 tg_rep (by omega) (show q < n by omega)
                  injection hA with hA
                  injection hA with hA1 hA2
                  subst hA1 hA2
                  have q0 : wr.cell? ⟨g0, o0 + q * 4, none⟩ = _ := (hx2.trans hxq).cell (haz 0 _ rfl)
                  have q1 := hxq.cell b0
                  clear haz
                  by_cases hne : z.id = x1
                  · have hmem : z ∈ xs.take (j + 1) := List.mem_iff_getElem?.2 ⟨q, by rw [List.getElem?_take, if_pos (by omega)]; exact hzz⟩
                    obtain rfl := right_no hr.out (by rw [HLEN.out]; exact hlt) (by rw [ok_next HX.out]; exact tagB_no hmem hne)
                    clear hok hr HN HX hzz hids hmem
                    obtain ⟨f1, f2, f3, f4⟩ := z
                    simp only at q0 hne
                    subst hne
                    go_wp2_with fail
                    go_quiet (fail)
                    go_wp2_with fail
                    go_ret
                    exact ⟨rfl, (hx2.trans hxq).drewN _⟩
                  · have HI := Lib.hid (ids_next (y := ⟨x1, 0, 0, 0⟩) hzz hids.out hne)
                    have hnb : (z.id == x1) = false := by simpa using hne
                    obtain ⟨f1, f2, f3, f4⟩ := z
                    simp only at q0 hnb
                    clear hzz hids hne
                    go_wp2_with fail
                    go_quiet (fail)
                    go_wp2_with fail
                    go_roundw
                    case rel => exact ⟨q + 1, by omega, by go_num, HI, hxq.drewN _⟩
                    case measure => simp [intOf]; omega
                · have HK := Lib.hid (HN.out (by rw [show (j + 1) = q by omega]; exact hids.out))
                  clear HN hids HX hok
                  go_wp2_with fail
                  go_roundw
                  case rel => exact ⟨(j + 1) + 1, by omega, by go_num, HK, hx2.trans hxq⟩
                  case measure => simp [intOf]; omega
    · obtain rfl : k = n := by omega
      obtain rfl := right_yes hr.out (by rw [HLEN.out]; omega) (by rw [HLEN.out]; omega) (by rw [HLEN.out]; exact hok.out)
      clear hok hr
      go_wp2_with fail
      go_ret
      exact ⟨rfl, hxr⟩
end Go.Proofs.Ytoeknbogaclfdaa
