/-
  Messages: contracts of the program's entries and marks, of the reference's between.
-/
/-
  Messages: contract of the program's Right.
-/
import Derived.Test.YtoeknbogaclfdaaZFromTagSameToTagRight
import Derived.Test.YtoeknbogaclfdaaZFromMsBareToTagEq
import Derived.Test.YtoeknbogaclfdaaZMsSame
namespace Go.Proofs.Ytoeknbogaclfdaa
open Go.RowKit
set_option linter.unusedVariables false
set_option linter.unusedSimpArgs false
set_option linter.unnecessarySimpa false
set_option maxRecDepth 100000
theorem ref_between (n lo hi : Int) (w : World) {b : Bool} (hb : Hid (decide (lo ≤ n ∧ n ≤ hi) = b)) :
    Calls Try.prog 73 #[.int .i64 n, .int .i64 lo, .int .i64 hi] w fun e w' => e = .returned (.bool b) ∧ w = w' := by
  have h1 := hb.out
  by_cases c1 : lo ≤ n
  · by_cases c2 : n ≤ hi
    · obtain rfl : true = b := by rw [← h1, decide_eq_true ⟨c1, c2⟩]
      clear hb h1
      go_enter Try.func73, Try.ntmps73
      go_wp2_with fail
      go_ret
      exact ⟨rfl, rfl⟩
    · obtain rfl : false = b := by rw [← h1, decide_eq_false (by omega)]
      have d2 : decide (n ≤ hi) = false := decide_eq_false c2
      clear hb h1 c2
      go_enter Try.func73, Try.ntmps73
      go_wp2_with fail
      go_ret
      exact ⟨rfl, rfl⟩
  · obtain rfl : false = b := by rw [← h1, decide_eq_false (by omega)]
    have d2 : decide (lo ≤ n) = false := decide_eq_false c1
    clear hb h1 c1
    go_enter Try.func73, Try.ntmps73
    go_wp2_with fail
    go_ret
    exact ⟨rfl, rfl⟩
def EnFit (l : List En) : Prop := ∀ x ∈ l, x.t ≤ 9223372036854775807 ∧ x.s ≤ 9223372036854775807
theorem entsF_step {xs : List En} {k : Nat} {x : En} {p : Int} (h : xs[k]? = some x) : entsF p (xs.drop k) = ((rightN x.t x.s x.d.length && decide (x.s = p + 1)) && entsF (p + 1) (xs.drop (k + 1))) := by
  obtain ⟨hl, rfl⟩ := List.getElem?_eq_some_iff.1 h
  rw [List.drop_eq_getElem_cons hl, entsF]
theorem allM_step {xs : List Mk} {k : Nat} {x : Mk} (h : xs[k]? = some x) : (xs.drop k).all markT = (markT x && (xs.drop (k + 1)).all markT) := by
  obtain ⟨hl, rfl⟩ := List.getElem?_eq_some_iff.1 h
  rw [List.drop_eq_getElem_cons hl, List.all_cons]
set_option maxHeartbeats 1000000 in
theorem msg_entries {A : Option Addr} {n c : Nat} {xs : List En} {p : Int} {w : World} (hl : Lst 3 enR w A n c xs) (hf : Hid (EnFit xs)) (hp : 0 ≤ p) (hp2 : p ≤ 1099511627776) {r : Bool} (hr : Hid (entsB p xs = r)) :
    Calls Try.prog 71 #[.slice A n c, .int .i64 p] w fun e w' => e = .returned (.bool r) ∧ Ext w w' := by
  have h63 := hl.n63
  by_cases hn : n ≤ 4
  case neg =>
    obtain rfl : false = r := by
      rw [← hr.out]
      unfold entsB
      rw [hl.len, decide_eq_false hn]
      rfl
    have d4 : decide ((4 : Int) < (n : Int)) = true := by simp; omega
    clear hr hf
    go_enter Try.func71, Try.ntmps71
    go_wp2_with fail
    go_ret
    exact ⟨rfl, Ext.refl _⟩
  have d4 : decide ((4 : Int) < (n : Int)) = false := by simp; omega
  have HR : Hid (entsF p xs = r) := by
    unfold Hid
    rw [← hr.out]
    unfold entsB
    rw [hl.len, decide_eq_true hn, Bool.true_and]
  obtain ⟨P, hP⟩ : ∃ P : Nat, p = (P : Int) := ⟨p.toNat, by omega⟩
  subst hP
  clear hr
  go_enter Try.func71, Try.ntmps71
  go_wp2_with fail
  go_loopw [1, 12] (fun pv i wr => ∃ (k : Nat) (d : Nat), k ≤ n ∧ d = P + k ∧ pv = .int .i64 (d : Int) ∧ i = .int .i64 k ∧ Hid (entsF (d : Int) (xs.drop k) = r) ∧ Ext w wr) (fun _ i _ => n - (intOf i).toNat)
  case atStart => exact ⟨0, P, by omega, rfl, rfl, rfl, HR, Ext.refl _⟩
  case round =>
    clear HR
    obtain ⟨k, d, hk, hd, rfl, rfl, hrk, hxr⟩ := hrel
    by_cases hlt : k < n
    · obtain ⟨ga, oa, x, cs, rfl, hx, ⟨Aa, na, ca, rfl, sa0⟩, ha⟩ := hl.at2 en_rep (by omega) hlt
      have a0 : wr.cell? ⟨ga, oa + k * 3, none⟩ = _ := hxr.cell (ha 0 _ rfl)
      have a1 := hxr.cell (ha 1 _ rfl)
      have a2 := hxr.cell (ha 2 _ rfl)
      have hst := entsF_step (p := (d : Int)) hx
      rw [hrk.out] at hst
      have hfx := hf.out x (List.mem_of_getElem? hx)
      have h63a := sa0.n63
      have hsl := sa0.len
      obtain ⟨xt, xs', xd⟩ := x
      simp only at a0 a1 a2 hst hfx hsl
      rw [hsl] at hst
      obtain ⟨q, hq⟩ : ∃ q, rightN xt xs' na = q := ⟨_, rfl⟩
      rw [hq] at hst
      have hcl := fun u => frame_Right xt xs' Aa na ca u h63a.1 hfx.1 hfx.2
      rw [hq] at hcl
      have HST := Lib.hid hst
      have hd2 : (d : Int) + 1 = ((d + 1 : Nat) : Int) := by push_cast; rfl
      have HD2 := Lib.hid hd2
      clear hx ha hst hq hrk sa0 hsl hd2
      cases q with
      | false =>
        obtain rfl : false = r := by rw [HST.out]; rfl
        clear HST
        go_wp2_with fail
        refine (hcl _).mono ?_
        rintro e w2 ⟨rfl, hx2⟩
        go_wp2_with fail
        go_ret
        exact ⟨rfl, (hxr.allocs _).trans hx2⟩
      | true =>
        by_cases he : xs' = (d : Int) + 1
        · have HN : Hid (entsF ((d + 1 : Nat) : Int) (xs.drop (k + 1)) = r) := by
            unfold Hid
            rw [HST.out, decide_eq_true he, ← HD2.out]
            rfl
          have db : (xs' != (d : Int) + 1) = false := by simpa using he
          clear HST he
          go_wp2_with fail
          refine (hcl _).mono ?_
          rintro e w2 ⟨rfl, hx2⟩
          have c1 := hx2.cell (cell_new wr #[.int .i64 xt, .int .i64 xs', .slice Aa na ca] TEn 1)
          have gx := (hxr.allocs (.cells #[.int .i64 xt, .int .i64 xs', .slice Aa na ca] TEn)).trans hx2
          clear hx2 hcl
          go_wp2_with fail
          go_roundw
          case rel => exact ⟨k + 1, d + 1, by omega, by omega, by go_num, by go_num, HN, gx⟩
          case measure => simp [intOf]; omega
        · obtain rfl : false = r := by rw [HST.out, decide_eq_false he]; rfl
          have db : (xs' != (d : Int) + 1) = true := by simpa using he
          clear HST he
          go_wp2_with fail
          refine (hcl _).mono ?_
          rintro e w2 ⟨rfl, hx2⟩
          have c1 := hx2.cell (cell_new wr #[.int .i64 xt, .int .i64 xs', .slice Aa na ca] TEn 1)
          have gx := (hxr.allocs (.cells #[.int .i64 xt, .int .i64 xs', .slice Aa na ca] TEn)).trans hx2
          clear hx2 hcl
          go_wp2_with fail
          go_ret
          exact ⟨rfl, gx⟩
    · obtain rfl : k = n := by omega
      have hr1 := hrk.out
      rw [List.drop_of_length_le (by rw [hl.len]; exact Nat.le_refl _)] at hr1
      obtain rfl : true = r := hr1
      clear hrk
      go_wp2_with fail
      go_ret
      exact ⟨rfl, hxr⟩
theorem markT_no {x : Mk} (h : ¬ (1 ≤ x.id ∧ x.id ≤ 1073741824 ∧ 0 ≤ x.sz ∧ x.sz ≤ 512)) : markT x = false := by
  unfold markT
  rw [decide_eq_false h]
  rfl
theorem markT_in {x : Mk} (h : 1 ≤ x.id ∧ x.id ≤ 1073741824 ∧ 0 ≤ x.sz ∧ x.sz ≤ 512) : markT x = nameM x.nm := by
  unfold markT
  rw [decide_eq_true h, Bool.true_and]
set_option maxHeartbeats 4000000 in
theorem msg_marks {A : Option Addr} {n c : Nat} {xs : List Mk} {w : World} (hl : Lst 4 mkR w A n c xs) (hs : Hid (Shorts xs)) {r : Bool} (hr : Hid (marksT xs = r)) :
    Calls Try.prog 72 #[.slice A n c] w fun e w' => e = .returned (.bool r) ∧ Ext w w' := by
  have h63 := hl.n63
  by_cases hn1 : 1 ≤ n
  case neg =>
    obtain rfl : false = r := by
      rw [← hr.out]
      unfold marksT
      rw [hl.len, decide_eq_false (by omega)]
      rfl
    have d4 : decide ((n : Int) < 1) = true := by simp; omega
    clear hr hs
    go_enter Try.func72, Try.ntmps72
    go_wp2_with fail
    go_ret
    exact ⟨rfl, Ext.refl _⟩
  have d1 : decide ((n : Int) < 1) = false := by simp; omega
  by_cases hn17 : n ≤ 17
  case neg =>
    obtain rfl : false = r := by
      rw [← hr.out]
      unfold marksT
      rw [hl.len, decide_eq_false (by omega)]
      rfl
    have d4 : decide ((17 : Int) < (n : Int)) = true := by simp; omega
    clear hr hs
    go_enter Try.func72, Try.ntmps72
    go_wp2_with fail
    go_ret
    exact ⟨rfl, Ext.refl _⟩
  have d17 : decide ((17 : Int) < (n : Int)) = false := by simp; omega
  have HR : Hid (xs.all markT = r) := by
    unfold Hid
    rw [← hr.out]
    unfold marksT
    rw [hl.len, decide_eq_true ⟨hn1, hn17⟩, Bool.true_and]
  clear hr
  go_enter Try.func72, Try.ntmps72
  go_wp2_with fail
  go_loopw [16] (fun i wr => ∃ (k : Nat), k ≤ n ∧ i = .int .i64 k ∧ Hid ((xs.drop k).all markT = r) ∧ Ext w wr) (fun i _ => n - (intOf i).toNat)
  case atStart => exact ⟨0, by omega, rfl, HR, Ext.refl _⟩
  case round =>
    clear HR
    obtain ⟨k, hk, rfl, hrk, hxr⟩ := hrel
    by_cases hlt : k < n
    · obtain ⟨ga, oa, x, cs, rfl, hx, rfl, ha⟩ := hl.at2 mk_rep (by omega) hlt
      have a0 : wr.cell? ⟨ga, oa + k * 4, none⟩ = _ := hxr.cell (ha 0 _ rfl)
      have a1 := hxr.cell (ha 1 _ rfl)
      have a2 := hxr.cell (ha 2 _ rfl)
      have a3 := hxr.cell (ha 3 _ rfl)
      have hst0 := allM_step hx
      rw [hrk.out] at hst0
      have hst := Lib.hid hst0
      have hsz := hs.out.at_ hx
      clear hst0 hrk hx ha
      obtain ⟨x1, x2, x3, x4⟩ := x
      simp only at a0 a1 a2 a3 hsz
      have hm : x2.size ≤ maxLen := by unfold maxLen; omega
      obtain ⟨b, hb⟩ : ∃ b, nameM x2 = b := ⟨_, rfl⟩
      have hnm := Lib.hid hb
      obtain ⟨q, hq⟩ : ∃ q, tildeB x2 = q := ⟨_, rfl⟩
      have hb1 := hb
      unfold nameM at hb1
      rw [hq] at hb1
      by_cases h0 : 0 < x2.size
      · have h1 := tilde_at h0
        rw [hq] at h1
        cases q with
        | false =>
          have hbt : (((x2[0]).toNat : Int) == 126) = false := by
            have := h1.symm
            simp only [decide_eq_false_iff_not] at this
            simp
            omega
          have hcl := fun w => event_Name x2 w hm
          rw [show nameB x2 = b from hb1] at hcl
          clear h1 hb hb1 hq hm
          by_cases c1 : x1 < 1
          · skip
            obtain rfl : false = r := by rw [hst.out, markT_no (by simp only; omega)]; rfl
            clear hst
            go_wp2_with fail
            go_ret
            exact ⟨rfl, hxr.allocs _⟩
          have d1 : decide (x1 < 1) = false := decide_eq_false c1
          by_cases c2 : 1073741824 < x1
          · skip
            obtain rfl : false = r := by rw [hst.out, markT_no (by simp only; omega)]; rfl
            clear hst
            go_wp2_with fail
            go_ret
            exact ⟨rfl, hxr.allocs _⟩
          have d2 : decide (1073741824 < x1) = false := decide_eq_false c2
          by_cases c3 : x3 < 0
          · skip
            obtain rfl : false = r := by rw [hst.out, markT_no (by simp only; omega)]; rfl
            clear hst
            go_wp2_with fail
            go_ret
            exact ⟨rfl, hxr.allocs _⟩
          have d3 : decide (x3 < 0) = false := decide_eq_false c3
          by_cases c4 : 512 < x3
          · skip
            obtain rfl : false = r := by rw [hst.out, markT_no (by simp only; omega)]; rfl
            clear hst
            go_wp2_with fail
            go_ret
            exact ⟨rfl, hxr.allocs _⟩
          have d4 : decide (512 < x3) = false := decide_eq_false c4
          have hin := markT_in (x := ⟨x1, x2, x3, x4⟩) ⟨by simp only; omega, by simp only; omega, by simp only; omega, by simp only; omega⟩
          simp only at hin
          rw [hnm.out] at hin
          have HST2 : Hid (r = (b && (xs.drop (k + 1)).all markT)) := by
            unfold Hid
            rw [hst.out, hin]
          clear hst hin c1 c2 c3 c4 hnm
          cases b with
          | false =>
            obtain rfl : false = r := by rw [HST2.out]; rfl
            clear HST2
            go_wp2_with fail
            refine (hcl _).mono ?_
            rintro e _ ⟨rfl, rfl⟩
            go_wp2_with fail
            go_ret
            exact ⟨rfl, hxr.allocs _⟩
          | true =>
            have HN : Hid ((xs.drop (k + 1)).all markT = r) := by
              unfold Hid
              rw [HST2.out, Bool.true_and]
            clear HST2
            go_wp2_with fail
            refine (hcl _).mono ?_
            rintro e _ ⟨rfl, rfl⟩
            go_wp2_with fail
            go_roundw
            case rel => exact ⟨k + 1, by omega, by go_num, HN, hxr.allocs _⟩
            case measure => simp [intOf]; omega
        | true =>
          have hbt : (((x2[0]).toNat : Int) == 126) = true := by
            have := h1.symm
            simp only [decide_eq_true_eq] at this
            simp
            omega
          have hcl := fun w => event_Name (tailS x2) w (tail_size (by omega))
          rw [show nameB (tailS x2) = b from hb1] at hcl
          unfold tailS at hcl
          clear h1 hb hb1 hq hm
          by_cases c1 : x1 < 1
          · skip
            obtain rfl : false = r := by rw [hst.out, markT_no (by simp only; omega)]; rfl
            clear hst
            go_wp2_with fail
            go_ret
            exact ⟨rfl, hxr.allocs _⟩
          have d1 : decide (x1 < 1) = false := decide_eq_false c1
          by_cases c2 : 1073741824 < x1
          · skip
            obtain rfl : false = r := by rw [hst.out, markT_no (by simp only; omega)]; rfl
            clear hst
            go_wp2_with fail
            go_ret
            exact ⟨rfl, hxr.allocs _⟩
          have d2 : decide (1073741824 < x1) = false := decide_eq_false c2
          by_cases c3 : x3 < 0
          · skip
            obtain rfl : false = r := by rw [hst.out, markT_no (by simp only; omega)]; rfl
            clear hst
            go_wp2_with fail
            go_ret
            exact ⟨rfl, hxr.allocs _⟩
          have d3 : decide (x3 < 0) = false := decide_eq_false c3
          by_cases c4 : 512 < x3
          · skip
            obtain rfl : false = r := by rw [hst.out, markT_no (by simp only; omega)]; rfl
            clear hst
            go_wp2_with fail
            go_ret
            exact ⟨rfl, hxr.allocs _⟩
          have d4 : decide (512 < x3) = false := decide_eq_false c4
          have hin := markT_in (x := ⟨x1, x2, x3, x4⟩) ⟨by simp only; omega, by simp only; omega, by simp only; omega, by simp only; omega⟩
          simp only at hin
          rw [hnm.out] at hin
          have HST2 : Hid (r = (b && (xs.drop (k + 1)).all markT)) := by
            unfold Hid
            rw [hst.out, hin]
          clear hst hin c1 c2 c3 c4 hnm
          cases b with
          | false =>
            obtain rfl : false = r := by rw [HST2.out]; rfl
            clear HST2
            go_wp2_with fail
            refine (hcl _).mono ?_
            rintro e _ ⟨rfl, rfl⟩
            go_wp2_with fail
            go_ret
            exact ⟨rfl, hxr.allocs _⟩
          | true =>
            have HN : Hid ((xs.drop (k + 1)).all markT = r) := by
              unfold Hid
              rw [HST2.out, Bool.true_and]
            clear HST2
            go_wp2_with fail
            refine (hcl _).mono ?_
            rintro e _ ⟨rfl, rfl⟩
            go_wp2_with fail
            go_roundw
            case rel => exact ⟨k + 1, by omega, by go_num, HN, hxr.allocs _⟩
            case measure => simp [intOf]; omega
      · have hq0 := hq
        rw [tilde_nil h0] at hq0
        subst hq0
        have hcl := fun w => event_Name x2 w hm
        rw [show nameB x2 = b from hb1] at hcl
        clear hb hb1 hq hm
        by_cases c1 : x1 < 1
        · skip
          obtain rfl : false = r := by rw [hst.out, markT_no (by simp only; omega)]; rfl
          clear hst
          go_wp2_with fail
          go_ret
          exact ⟨rfl, hxr.allocs _⟩
        have d1 : decide (x1 < 1) = false := decide_eq_false c1
        by_cases c2 : 1073741824 < x1
        · skip
          obtain rfl : false = r := by rw [hst.out, markT_no (by simp only; omega)]; rfl
          clear hst
          go_wp2_with fail
          go_ret
          exact ⟨rfl, hxr.allocs _⟩
        have d2 : decide (1073741824 < x1) = false := decide_eq_false c2
        by_cases c3 : x3 < 0
        · skip
          obtain rfl : false = r := by rw [hst.out, markT_no (by simp only; omega)]; rfl
          clear hst
          go_wp2_with fail
          go_ret
          exact ⟨rfl, hxr.allocs _⟩
        have d3 : decide (x3 < 0) = false := decide_eq_false c3
        by_cases c4 : 512 < x3
        · skip
          obtain rfl : false = r := by rw [hst.out, markT_no (by simp only; omega)]; rfl
          clear hst
          go_wp2_with fail
          go_ret
          exact ⟨rfl, hxr.allocs _⟩
        have d4 : decide (512 < x3) = false := decide_eq_false c4
        have hin := markT_in (x := ⟨x1, x2, x3, x4⟩) ⟨by simp only; omega, by simp only; omega, by simp only; omega, by simp only; omega⟩
        simp only at hin
        rw [hnm.out] at hin
        have HST2 : Hid (r = (b && (xs.drop (k + 1)).all markT)) := by
          unfold Hid
          rw [hst.out, hin]
        clear hst hin c1 c2 c3 c4 hnm
        cases b with
        | false =>
          obtain rfl : false = r := by rw [HST2.out]; rfl
          clear HST2
          go_wp2_with fail
          refine (hcl _).mono ?_
          rintro e _ ⟨rfl, rfl⟩
          go_wp2_with fail
          go_ret
          exact ⟨rfl, hxr.allocs _⟩
        | true =>
          have HN : Hid ((xs.drop (k + 1)).all markT = r) := by
            unfold Hid
            rw [HST2.out, Bool.true_and]
          clear HST2
          go_wp2_with fail
          refine (hcl _).mono ?_
          rintro e _ ⟨rfl, rfl⟩
          go_wp2_with fail
          go_roundw
          case rel => exact ⟨k + 1, by omega, by go_num, HN, hxr.allocs _⟩
          case measure => simp [intOf]; omega
    · obtain rfl : k = n := by omega
      have hr1 := hrk.out
      rw [List.drop_of_length_le (by rw [hl.len]; exact Nat.le_refl _)] at hr1
      obtain rfl : true = r := hr1
      clear hrk
      go_wp2_with fail
      go_ret
      exact ⟨rfl, hxr⟩
end Go.Proofs.Ytoeknbogaclfdaa

namespace Go.Proofs.Ytoeknbogaclfdaa
open Go.RowKit
set_option linter.unusedVariables false
set_option linter.unusedSimpArgs false
set_option linter.unnecessarySimpa false
set_option maxRecDepth 100000
theorem rightM_no {m : Ms} {r : Bool} (hr : Hid (rightM m = r)) (h : ¬ ((1 ≤ m.kind ∧ m.kind ≤ 9) ∧ bareM m = m ∧ ((1 ≤ m.nonce ∧ m.nonce ≤ 1099511627776) ∧ (0 ≤ m.pos ∧ m.pos ≤ 1099511627776) ∧ (0 ≤ m.en ∧ m.en ≤ 1099511627776) ∧ (0 ≤ m.stage ∧ m.stage ≤ 16) ∧ (0 ≤ m.num ∧ m.num ≤ 512)) ∧ m.data.length ≤ 64)) : false = r := by
  rw [← hr.out]
  symm
  rw [Bool.eq_false_iff]
  intro e
  unfold rightM at e
  rw [Bool.and_eq_true] at e
  exact h (headM_iff.1 e.1)
theorem rightM_tail {m : Ms} {r : Bool} (hr : Hid (rightM m = r)) (h : ((1 ≤ m.kind ∧ m.kind ≤ 9) ∧ bareM m = m ∧ ((1 ≤ m.nonce ∧ m.nonce ≤ 1099511627776) ∧ (0 ≤ m.pos ∧ m.pos ≤ 1099511627776) ∧ (0 ≤ m.en ∧ m.en ≤ 1099511627776) ∧ (0 ≤ m.stage ∧ m.stage ≤ 16) ∧ (0 ≤ m.num ∧ m.num ≤ 512)) ∧ m.data.length ≤ 64)) : tailM m = r := by
  rw [← hr.out]
  unfold rightM
  rw [headM_iff.2 h, Bool.true_and]
theorem tail2 {n p e s q : Int} {ch : List Tg} {en : List En} {mk : List Mk} {da : List UInt8} : tailM ⟨2, n, p, e, s, q, ch, en, mk, da⟩ = (rightL ch && entsB p en) := rfl
theorem tail4 {n p e s q : Int} {ch : List Tg} {en : List En} {mk : List Mk} {da : List UInt8} : tailM ⟨4, n, p, e, s, q, ch, en, mk, da⟩ = (rightL ch && marksT mk) := rfl
theorem tail9 {n p e s q : Int} {ch : List Tg} {en : List En} {mk : List Mk} {da : List UInt8} : tailM ⟨9, n, p, e, s, q, ch, en, mk, da⟩ = decide (1 ≤ q ∧ q ≤ 13) := rfl
theorem tail0 {k n p e s q : Int} {ch : List Tg} {en : List En} {mk : List Mk} {da : List UInt8} (h : ¬ (k = 2 ∨ k = 4 ∨ k = 9)) : tailM ⟨k, n, p, e, s, q, ch, en, mk, da⟩ = true := by
  unfold tailM
  rw [if_neg (show ¬ k = 2 by omega), if_neg (show ¬ k = 4 by omega), if_neg (show ¬ k = 9 by omega)]
set_option maxHeartbeats 8000000 in
theorem msg_Right {m : Ms} {A1 : Option Addr} {An1 Ac1 : Nat} {A2 : Option Addr} {An2 Ac2 : Nat} {A3 : Option Addr} {An3 Ac3 : Nat} {A4 : Option Addr} {An4 Ac4 : Nat} {w : World} (h : MsR w m A1 An1 Ac1 A2 An2 Ac2 A3 An3 Ac3 A4 An4 Ac4) (hf : Hid (EnFit m.ents)) (hs : Hid (Shorts m.marks)) {r : Bool} (hr : Hid (rightM m = r)) :
    Calls Try.prog 38 #[msV m A1 An1 Ac1 A2 An2 Ac2 A3 An3 Ac3 A4 An4 Ac4] w fun e w' => e = .returned (.bool r) ∧ Ext w w' := by
  have h63 := h.da.n63
  have hdl := h.da.len
  obtain ⟨x, hx⟩ : ∃ x, bareM m = x := ⟨_, rfl⟩
  have HX0 := Lib.hid hx
  obtain ⟨b, hb⟩ : ∃ b, decide (1 ≤ m.kind ∧ m.kind ≤ 9) = b := ⟨_, rfl⟩
  have HB := Lib.hid hb
  obtain ⟨qs, hqs⟩ : ∃ b, sameMs x m = b := ⟨_, rfl⟩
  have HS := Lib.hid hqs
  obtain ⟨k, n, p, e', s, q, ch, en, mk, da⟩ := m
  obtain ⟨y1, y2, y3, y4, y5, y6, y7, y8, y9, y10⟩ := x
  simp only at hf hs hdl
  clear hx hb hqs
  go_enter Try.func38, Try.ntmps38
  go_wp2_with fail
  refine (msg_bare (h.ext (Ext.alloc _ _)) HX0 HB).mono ?_
  rintro e w2 ⟨B1, Bn1, Bc1, B2, Bn2, Bc2, B3, Bn3, Bc3, B4, Bn4, Bc4, rfl, hB2, hx2⟩
  have b0 : w2.cell? ⟨w.heap.size, 0, none⟩ = some (.int .i64 k) := hx2.cell (cell_new w (msC ⟨k, n, p, e', s, q, ch, en, mk, da⟩ A1 An1 Ac1 A2 An2 Ac2 A3 An3 Ac3 A4 An4 Ac4) TMs 0)
  have b1 : w2.cell? ⟨w.heap.size, 1, none⟩ = some (.int .i64 n) := hx2.cell (cell_new w (msC ⟨k, n, p, e', s, q, ch, en, mk, da⟩ A1 An1 Ac1 A2 An2 Ac2 A3 An3 Ac3 A4 An4 Ac4) TMs 1)
  have b2 : w2.cell? ⟨w.heap.size, 2, none⟩ = some (.int .i64 p) := hx2.cell (cell_new w (msC ⟨k, n, p, e', s, q, ch, en, mk, da⟩ A1 An1 Ac1 A2 An2 Ac2 A3 An3 Ac3 A4 An4 Ac4) TMs 2)
  have b3 : w2.cell? ⟨w.heap.size, 3, none⟩ = some (.int .i64 e') := hx2.cell (cell_new w (msC ⟨k, n, p, e', s, q, ch, en, mk, da⟩ A1 An1 Ac1 A2 An2 Ac2 A3 An3 Ac3 A4 An4 Ac4) TMs 3)
  have b4 : w2.cell? ⟨w.heap.size, 4, none⟩ = some (.int .i64 s) := hx2.cell (cell_new w (msC ⟨k, n, p, e', s, q, ch, en, mk, da⟩ A1 An1 Ac1 A2 An2 Ac2 A3 An3 Ac3 A4 An4 Ac4) TMs 4)
  have b5 : w2.cell? ⟨w.heap.size, 5, none⟩ = some (.int .i64 q) := hx2.cell (cell_new w (msC ⟨k, n, p, e', s, q, ch, en, mk, da⟩ A1 An1 Ac1 A2 An2 Ac2 A3 An3 Ac3 A4 An4 Ac4) TMs 5)
  have b6 : w2.cell? ⟨w.heap.size, 6, none⟩ = some (.slice A1 An1 Ac1) := hx2.cell (cell_new w (msC ⟨k, n, p, e', s, q, ch, en, mk, da⟩ A1 An1 Ac1 A2 An2 Ac2 A3 An3 Ac3 A4 An4 Ac4) TMs 6)
  have b7 : w2.cell? ⟨w.heap.size, 7, none⟩ = some (.slice A2 An2 Ac2) := hx2.cell (cell_new w (msC ⟨k, n, p, e', s, q, ch, en, mk, da⟩ A1 An1 Ac1 A2 An2 Ac2 A3 An3 Ac3 A4 An4 Ac4) TMs 7)
  have b8 : w2.cell? ⟨w.heap.size, 8, none⟩ = some (.slice A3 An3 Ac3) := hx2.cell (cell_new w (msC ⟨k, n, p, e', s, q, ch, en, mk, da⟩ A1 An1 Ac1 A2 An2 Ac2 A3 An3 Ac3 A4 An4 Ac4) TMs 8)
  have b9 : w2.cell? ⟨w.heap.size, 9, none⟩ = some (.slice A4 An4 Ac4) := hx2.cell (cell_new w (msC ⟨k, n, p, e', s, q, ch, en, mk, da⟩ A1 An1 Ac1 A2 An2 Ac2 A3 An3 Ac3 A4 An4 Ac4) TMs 9)
  have gx : Ext w w2 := (Ext.alloc _ _).trans hx2
  obtain ⟨wa, hwa⟩ : ∃ u, u = w2.alloc (.cells #[.int .i64 y1, .int .i64 y2, .int .i64 y3, .int .i64 y4, .int .i64 y5, .int .i64 y6, .slice B1 Bn1 Bc1, .slice B2 Bn2 Bc2, .slice B3 Bn3 Bc3, .slice B4 Bn4 Bc4] TMs) := ⟨_, rfl⟩
  have hxa : Ext w2 wa := by rw [hwa]; exact Ext.alloc _ _
  have f0 : (w2.alloc (.cells #[.int .i64 y1, .int .i64 y2, .int .i64 y3, .int .i64 y4, .int .i64 y5, .int .i64 y6, .slice B1 Bn1 Bc1, .slice B2 Bn2 Bc2, .slice B3 Bn3 Bc3, .slice B4 Bn4 Bc4] TMs)).cell? ⟨w.heap.size, 0, none⟩ = _ := (Ext.alloc _ _).cell b0
  replace b0 := hxa.cell b0
  have c0 : wa.cell? ⟨w2.heap.size, 0, none⟩ = some (.int .i64 y1) := by rw [hwa]; exact cell_new w2 #[.int .i64 y1, .int .i64 y2, .int .i64 y3, .int .i64 y4, .int .i64 y5, .int .i64 y6, .slice B1 Bn1 Bc1, .slice B2 Bn2 Bc2, .slice B3 Bn3 Bc3, .slice B4 Bn4 Bc4] TMs 0
  have f1 : (w2.alloc (.cells #[.int .i64 y1, .int .i64 y2, .int .i64 y3, .int .i64 y4, .int .i64 y5, .int .i64 y6, .slice B1 Bn1 Bc1, .slice B2 Bn2 Bc2, .slice B3 Bn3 Bc3, .slice B4 Bn4 Bc4] TMs)).cell? ⟨w.heap.size, 1, none⟩ = _ := (Ext.alloc _ _).cell b1
  replace b1 := hxa.cell b1
  have c1 : wa.cell? ⟨w2.heap.size, 1, none⟩ = some (.int .i64 y2) := by rw [hwa]; exact cell_new w2 #[.int .i64 y1, .int .i64 y2, .int .i64 y3, .int .i64 y4, .int .i64 y5, .int .i64 y6, .slice B1 Bn1 Bc1, .slice B2 Bn2 Bc2, .slice B3 Bn3 Bc3, .slice B4 Bn4 Bc4] TMs 1
  have f2 : (w2.alloc (.cells #[.int .i64 y1, .int .i64 y2, .int .i64 y3, .int .i64 y4, .int .i64 y5, .int .i64 y6, .slice B1 Bn1 Bc1, .slice B2 Bn2 Bc2, .slice B3 Bn3 Bc3, .slice B4 Bn4 Bc4] TMs)).cell? ⟨w.heap.size, 2, none⟩ = _ := (Ext.alloc _ _).cell b2
  replace b2 := hxa.cell b2
  have c2 : wa.cell? ⟨w2.heap.size, 2, none⟩ = some (.int .i64 y3) := by rw [hwa]; exact cell_new w2 #[.int .i64 y1, .int .i64 y2, .int .i64 y3, .int .i64 y4, .int .i64 y5, .int .i64 y6, .slice B1 Bn1 Bc1, .slice B2 Bn2 Bc2, .slice B3 Bn3 Bc3, .slice B4 Bn4 Bc4] TMs 2
  have f3 : (w2.alloc (.cells #[.int .i64 y1, .int .i64 y2, .int .i64 y3, .int .i64 y4, .int .i64 y5, .int .i64 y6, .slice B1 Bn1 Bc1, .slice B2 Bn2 Bc2, .slice B3 Bn3 Bc3, .slice B4 Bn4 Bc4] TMs)).cell? ⟨w.heap.size, 3, none⟩ = _ := (Ext.alloc _ _).cell b3
  replace b3 := hxa.cell b3
  have c3 : wa.cell? ⟨w2.heap.size, 3, none⟩ = some (.int .i64 y4) := by rw [hwa]; exact cell_new w2 #[.int .i64 y1, .int .i64 y2, .int .i64 y3, .int .i64 y4, .int .i64 y5, .int .i64 y6, .slice B1 Bn1 Bc1, .slice B2 Bn2 Bc2, .slice B3 Bn3 Bc3, .slice B4 Bn4 Bc4] TMs 3
  have f4 : (w2.alloc (.cells #[.int .i64 y1, .int .i64 y2, .int .i64 y3, .int .i64 y4, .int .i64 y5, .int .i64 y6, .slice B1 Bn1 Bc1, .slice B2 Bn2 Bc2, .slice B3 Bn3 Bc3, .slice B4 Bn4 Bc4] TMs)).cell? ⟨w.heap.size, 4, none⟩ = _ := (Ext.alloc _ _).cell b4
  replace b4 := hxa.cell b4
  have c4 : wa.cell? ⟨w2.heap.size, 4, none⟩ = some (.int .i64 y5) := by rw [hwa]; exact cell_new w2 #[.int .i64 y1, .int .i64 y2, .int .i64 y3, .int .i64 y4, .int .i64 y5, .int .i64 y6, .slice B1 Bn1 Bc1, .slice B2 Bn2 Bc2, .slice B3 Bn3 Bc3, .slice B4 Bn4 Bc4] TMs 4
  have f5 : (w2.alloc (.cells #[.int .i64 y1, .int .i64 y2, .int .i64 y3, .int .i64 y4, .int .i64 y5, .int .i64 y6, .slice B1 Bn1 Bc1, .slice B2 Bn2 Bc2, .slice B3 Bn3 Bc3, .slice B4 Bn4 Bc4] TMs)).cell? ⟨w.heap.size, 5, none⟩ = _ := (Ext.alloc _ _).cell b5
  replace b5 := hxa.cell b5
  have c5 : wa.cell? ⟨w2.heap.size, 5, none⟩ = some (.int .i64 y6) := by rw [hwa]; exact cell_new w2 #[.int .i64 y1, .int .i64 y2, .int .i64 y3, .int .i64 y4, .int .i64 y5, .int .i64 y6, .slice B1 Bn1 Bc1, .slice B2 Bn2 Bc2, .slice B3 Bn3 Bc3, .slice B4 Bn4 Bc4] TMs 5
  have f6 : (w2.alloc (.cells #[.int .i64 y1, .int .i64 y2, .int .i64 y3, .int .i64 y4, .int .i64 y5, .int .i64 y6, .slice B1 Bn1 Bc1, .slice B2 Bn2 Bc2, .slice B3 Bn3 Bc3, .slice B4 Bn4 Bc4] TMs)).cell? ⟨w.heap.size, 6, none⟩ = _ := (Ext.alloc _ _).cell b6
  replace b6 := hxa.cell b6
  have c6 : wa.cell? ⟨w2.heap.size, 6, none⟩ = some (.slice B1 Bn1 Bc1) := by rw [hwa]; exact cell_new w2 #[.int .i64 y1, .int .i64 y2, .int .i64 y3, .int .i64 y4, .int .i64 y5, .int .i64 y6, .slice B1 Bn1 Bc1, .slice B2 Bn2 Bc2, .slice B3 Bn3 Bc3, .slice B4 Bn4 Bc4] TMs 6
  have f7 : (w2.alloc (.cells #[.int .i64 y1, .int .i64 y2, .int .i64 y3, .int .i64 y4, .int .i64 y5, .int .i64 y6, .slice B1 Bn1 Bc1, .slice B2 Bn2 Bc2, .slice B3 Bn3 Bc3, .slice B4 Bn4 Bc4] TMs)).cell? ⟨w.heap.size, 7, none⟩ = _ := (Ext.alloc _ _).cell b7
  replace b7 := hxa.cell b7
  have c7 : wa.cell? ⟨w2.heap.size, 7, none⟩ = some (.slice B2 Bn2 Bc2) := by rw [hwa]; exact cell_new w2 #[.int .i64 y1, .int .i64 y2, .int .i64 y3, .int .i64 y4, .int .i64 y5, .int .i64 y6, .slice B1 Bn1 Bc1, .slice B2 Bn2 Bc2, .slice B3 Bn3 Bc3, .slice B4 Bn4 Bc4] TMs 7
  have f8 : (w2.alloc (.cells #[.int .i64 y1, .int .i64 y2, .int .i64 y3, .int .i64 y4, .int .i64 y5, .int .i64 y6, .slice B1 Bn1 Bc1, .slice B2 Bn2 Bc2, .slice B3 Bn3 Bc3, .slice B4 Bn4 Bc4] TMs)).cell? ⟨w.heap.size, 8, none⟩ = _ := (Ext.alloc _ _).cell b8
  replace b8 := hxa.cell b8
  have c8 : wa.cell? ⟨w2.heap.size, 8, none⟩ = some (.slice B3 Bn3 Bc3) := by rw [hwa]; exact cell_new w2 #[.int .i64 y1, .int .i64 y2, .int .i64 y3, .int .i64 y4, .int .i64 y5, .int .i64 y6, .slice B1 Bn1 Bc1, .slice B2 Bn2 Bc2, .slice B3 Bn3 Bc3, .slice B4 Bn4 Bc4] TMs 8
  have f9 : (w2.alloc (.cells #[.int .i64 y1, .int .i64 y2, .int .i64 y3, .int .i64 y4, .int .i64 y5, .int .i64 y6, .slice B1 Bn1 Bc1, .slice B2 Bn2 Bc2, .slice B3 Bn3 Bc3, .slice B4 Bn4 Bc4] TMs)).cell? ⟨w.heap.size, 9, none⟩ = _ := (Ext.alloc _ _).cell b9
  replace b9 := hxa.cell b9
  have c9 : wa.cell? ⟨w2.heap.size, 9, none⟩ = some (.slice B4 Bn4 Bc4) := by rw [hwa]; exact cell_new w2 #[.int .i64 y1, .int .i64 y2, .int .i64 y3, .int .i64 y4, .int .i64 y5, .int .i64 y6, .slice B1 Bn1 Bc1, .slice B2 Bn2 Bc2, .slice B3 Bn3 Bc3, .slice B4 Bn4 Bc4] TMs 9
  replace gx := gx.trans hxa
  replace hB2 := hB2.ext hxa
  clear hx2 hxa
  cases b with
  | false =>
    have hk := of_decide_eq_false HB.out
    obtain rfl := rightM_no hr (by intro hh; exact hk hh.1)
    clear hr hk HB HS HX0
    go_wp2_with fail
    go_ret
    rw [← hwa]
    exact ⟨rfl, gx⟩
  | true =>
  have HK := Lib.hid (of_decide_eq_true HB.out)
  go_wp2_with fail
  rw [← hwa]
  clear hwa f0 f1 f2 f3 f4 f5 f6 f7 f8 f9
  refine (msg_Same hB2 (h.ext gx) HS).mono ?_
  rintro e w3 ⟨rfl, hx3⟩
  replace b0 := hx3.cell b0
  replace b1 := hx3.cell b1
  replace b2 := hx3.cell b2
  replace b3 := hx3.cell b3
  replace b4 := hx3.cell b4
  replace b5 := hx3.cell b5
  replace b6 := hx3.cell b6
  replace b7 := hx3.cell b7
  replace b8 := hx3.cell b8
  replace b9 := hx3.cell b9
  replace gx := gx.trans hx3
  clear hB2 hx3 c0 c1 c2 c3 c4 c5 c6 c7 c8 c9 HB
  cases qs with
  | false =>
    have hne := HS.out
    unfold sameMs at hne
    have hne2 := of_decide_eq_false hne
    obtain rfl := rightM_no hr (by intro hh; rw [← HX0.out] at hne2; exact hne2 hh.2.1)
    clear hr hne hne2 HS HX0
    go_wp2_with fail
    go_ret
    exact ⟨rfl, gx⟩
  | true =>
  have HX : Hid (bareM ⟨k, n, p, e', s, q, ch, en, mk, da⟩ = ⟨k, n, p, e', s, q, ch, en, mk, da⟩) := by
    have := HS.out
    unfold sameMs at this
    have := of_decide_eq_true this
    unfold Hid
    rw [HX0.out]
    exact this
  clear HS HX0
  by_cases c1 : n < 1
  · skip
    obtain rfl := rightM_no hr (by simp only; omega)
    clear hr
    go_wp2_with fail
    go_ret
    exact ⟨rfl, gx⟩
  have d1 : decide (n < 1) = false := decide_eq_false c1
  by_cases c2 : 1099511627776 < n
  · skip
    obtain rfl := rightM_no hr (by simp only; omega)
    clear hr
    go_wp2_with fail
    go_ret
    exact ⟨rfl, gx⟩
  have d2 : decide (1099511627776 < n) = false := decide_eq_false c2
  by_cases c3 : p < 0
  · skip
    obtain rfl := rightM_no hr (by simp only; omega)
    clear hr
    go_wp2_with fail
    go_ret
    exact ⟨rfl, gx⟩
  have d3 : decide (p < 0) = false := decide_eq_false c3
  by_cases c4 : 1099511627776 < p
  · skip
    obtain rfl := rightM_no hr (by simp only; omega)
    clear hr
    go_wp2_with fail
    go_ret
    exact ⟨rfl, gx⟩
  have d4 : decide (1099511627776 < p) = false := decide_eq_false c4
  by_cases c5 : e' < 0
  · skip
    obtain rfl := rightM_no hr (by simp only; omega)
    clear hr
    go_wp2_with fail
    go_ret
    exact ⟨rfl, gx⟩
  have d5 : decide (e' < 0) = false := decide_eq_false c5
  by_cases c6 : 1099511627776 < e'
  · skip
    obtain rfl := rightM_no hr (by simp only; omega)
    clear hr
    go_wp2_with fail
    go_ret
    exact ⟨rfl, gx⟩
  have d6 : decide (1099511627776 < e') = false := decide_eq_false c6
  by_cases c7 : s < 0
  · skip
    obtain rfl := rightM_no hr (by simp only; omega)
    clear hr
    go_wp2_with fail
    go_ret
    exact ⟨rfl, gx⟩
  have d7 : decide (s < 0) = false := decide_eq_false c7
  by_cases c8 : 16 < s
  · skip
    obtain rfl := rightM_no hr (by simp only; omega)
    clear hr
    go_wp2_with fail
    go_ret
    exact ⟨rfl, gx⟩
  have d8 : decide (16 < s) = false := decide_eq_false c8
  by_cases c9 : q < 0
  · skip
    obtain rfl := rightM_no hr (by simp only; omega)
    clear hr
    go_wp2_with fail
    go_ret
    exact ⟨rfl, gx⟩
  have d9 : decide (q < 0) = false := decide_eq_false c9
  by_cases c10 : 512 < q
  · skip
    obtain rfl := rightM_no hr (by simp only; omega)
    clear hr
    go_wp2_with fail
    go_ret
    exact ⟨rfl, gx⟩
  have d10 : decide (512 < q) = false := decide_eq_false c10
  by_cases c11 : 64 < An4
  · have e11 : decide ((64 : Int) < (An4 : Int)) = true := by simp; omega
    obtain rfl := rightM_no hr (by simp only; omega)
    clear hr
    go_wp2_with fail
    go_ret
    exact ⟨rfl, gx⟩
  have d11 : decide ((64 : Int) < (An4 : Int)) = false := by simp; omega
  have hk4 : k = 2 ∨ k = 4 ∨ k = 9 ∨ ¬ (k = 2 ∨ k = 4 ∨ k = 9) := by omega
  rcases hk4 with hk4 | hk4 | hk4 | hk4
  · subst hk4
    have hall := rightM_tail hr ⟨HK.out, HX.out, ⟨⟨by simp only; omega, by simp only; omega⟩, ⟨by simp only; omega, by simp only; omega⟩, ⟨by simp only; omega, by simp only; omega⟩, ⟨by simp only; omega, by simp only; omega⟩, ⟨by simp only; omega, by simp only; omega⟩⟩, by simp only; omega⟩
    rw [tail2] at hall
    obtain ⟨qc, hqc⟩ : ∃ z, rightL ch = z := ⟨_, rfl⟩
    obtain ⟨qe, hqe⟩ : ∃ z, entsB p en = z := ⟨_, rfl⟩
    rw [hqc, hqe] at hall
    have HC := Lib.hid hqc
    have HE := Lib.hid hqe
    have hp0 : 0 ≤ p := by omega
    have hp1 : p ≤ 1099511627776 := by omega
    have HP := Lib.hid (And.intro hp0 hp1)
    clear hqc hqe hr c1 c2 c3 c4 c5 c6 c7 c8 c9 c10 c11 hp0 hp1
    go_wp2_with fail
    refine (chain_Right (h.ch.ext tg_rep gx) HC).mono ?_
    rintro e w4 ⟨rfl, hx4⟩
    replace b7 := hx4.cell b7
    replace b2 := hx4.cell b2
    replace gx := gx.trans hx4
    cases qc with
    | false =>
      obtain rfl : false = r := hall
      go_wp2_with fail
      go_ret
      exact ⟨rfl, gx⟩
    | true =>
    rw [Bool.true_and] at hall
    subst hall
    clear hx4
    go_wp2_with fail
    refine (msg_entries (h.en.ext en_rep gx) hf HP.out.1 HP.out.2 HE).mono ?_
    rintro e w5 ⟨rfl, hx5⟩
    go_wp2_with fail
    go_ret
    exact ⟨rfl, gx.trans hx5⟩
  · subst hk4
    have hall := rightM_tail hr ⟨HK.out, HX.out, ⟨⟨by simp only; omega, by simp only; omega⟩, ⟨by simp only; omega, by simp only; omega⟩, ⟨by simp only; omega, by simp only; omega⟩, ⟨by simp only; omega, by simp only; omega⟩, ⟨by simp only; omega, by simp only; omega⟩⟩, by simp only; omega⟩
    rw [tail4] at hall
    obtain ⟨qc, hqc⟩ : ∃ z, rightL ch = z := ⟨_, rfl⟩
    obtain ⟨qe, hqe⟩ : ∃ z, marksT mk = z := ⟨_, rfl⟩
    rw [hqc, hqe] at hall
    have HC := Lib.hid hqc
    have HE := Lib.hid hqe
    clear hqc hqe hr c1 c2 c3 c4 c5 c6 c7 c8 c9 c10 c11
    go_wp2_with fail
    refine (chain_Right (h.ch.ext tg_rep gx) HC).mono ?_
    rintro e w4 ⟨rfl, hx4⟩
    replace b8 := hx4.cell b8
    replace gx := gx.trans hx4
    cases qc with
    | false =>
      obtain rfl : false = r := hall
      go_wp2_with fail
      go_ret
      exact ⟨rfl, gx⟩
    | true =>
    rw [Bool.true_and] at hall
    subst hall
    clear hx4
    go_wp2_with fail
    refine (msg_marks (h.ms.ext mk_rep gx) hs HE).mono ?_
    rintro e w5 ⟨rfl, hx5⟩
    go_wp2_with fail
    go_ret
    exact ⟨rfl, gx.trans hx5⟩
  · subst hk4
    have hall := rightM_tail hr ⟨HK.out, HX.out, ⟨⟨by simp only; omega, by simp only; omega⟩, ⟨by simp only; omega, by simp only; omega⟩, ⟨by simp only; omega, by simp only; omega⟩, ⟨by simp only; omega, by simp only; omega⟩, ⟨by simp only; omega, by simp only; omega⟩⟩, by simp only; omega⟩
    rw [tail9] at hall
    by_cases f1 : 1 ≤ q
    case neg =>
      obtain rfl : false = r := by rw [← hall, decide_eq_false (by omega)]
      have g1 : decide (1 ≤ q) = false := decide_eq_false f1
      clear hall hr c1 c2 c3 c4 c5 c6 c7 c8 c9 c10 c11
      go_wp2_with fail
      go_ret
      exact ⟨rfl, gx⟩
    by_cases f2 : q ≤ 13
    case neg =>
      obtain rfl : false = r := by rw [← hall, decide_eq_false (by omega)]
      have g1 : decide (q ≤ 13) = false := decide_eq_false f2
      clear hall hr c1 c2 c3 c4 c5 c6 c7 c8 c9 c10 c11
      go_wp2_with fail
      go_ret
      exact ⟨rfl, gx⟩
    obtain rfl : true = r := by rw [← hall, decide_eq_true (by omega)]
    clear hall hr c1 c2 c3 c4 c5 c6 c7 c8 c9 c10 c11
    go_wp2_with fail
    go_ret
    exact ⟨rfl, gx⟩
  · skip
    have hall := rightM_tail hr ⟨HK.out, HX.out, ⟨⟨by simp only; omega, by simp only; omega⟩, ⟨by simp only; omega, by simp only; omega⟩, ⟨by simp only; omega, by simp only; omega⟩, ⟨by simp only; omega, by simp only; omega⟩, ⟨by simp only; omega, by simp only; omega⟩⟩, by simp only; omega⟩
    rw [tail0 (by omega)] at hall
    subst hall
    have g2 : (k == 2) = false := by simp; omega
    have g4 : (k == 4) = false := by simp; omega
    have g9 : (k == 9) = false := by simp; omega
    clear hr c1 c2 c3 c4 c5 c6 c7 c8 c9 c10 c11 hk4
    go_wp2_with fail
    go_ret
    exact ⟨rfl, gx⟩
end Go.Proofs.Ytoeknbogaclfdaa
