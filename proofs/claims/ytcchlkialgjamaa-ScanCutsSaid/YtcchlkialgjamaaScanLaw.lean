/-
  Chapter 11: the statements' own 'few' and 'known'.
-/
import Derived.Test.YtcchlkialgjamaaScanMerge
import Derived.Test.YtcchlkialgjamaaScan
namespace Go.Proofs.Ytcchlkialgjamaa
open Go.RowKit
set_option linter.unusedVariables false
set_option linter.unusedSimpArgs false
set_option linter.unnecessarySimpa false
set_option maxRecDepth 100000

def sumL (rows : List (List UInt8)) : Nat := (rows.map List.length).sum
def fewB (rows : List (List UInt8)) : Bool := rows.all (fun r => decide (r.length ≤ 1500)) && (decide (rows.length ≤ 40) && decide (sumL rows ≤ 4000))
theorem sumL_next {rows : List (List UInt8)} {k : Nat} {r : List UInt8} (h : rows[k]? = some r) : sumL (rows.take (k + 1)) = sumL (rows.take k) + r.length := by
  unfold sumL
  rw [List.take_add_one, h]
  simp
theorem fewB_iff {rows : List (List UInt8)} : fewB rows = true ↔ (∀ r ∈ rows, r.length ≤ 1500) ∧ rows.length ≤ 40 ∧ sumL rows ≤ 4000 := by
  unfold fewB
  simp
set_option maxHeartbeats 1000000 in
theorem law11_few {A : Option Addr} {n c : Nat} {rows : List (List UInt8)} {w : World} (hl : Lst 1 blR w A n c rows) {res : Bool} (HR : Hid (fewB rows = res)) :
    Calls Try.prog 28 #[.slice A n c] w fun e w' => e = .returned (.bool res) ∧ Ext w w' := by
  have h63 := hl.n63
  by_cases hn40 : 40 < n
  · obtain rfl : false = res := by
      rw [← HR.out]
      symm
      rw [Bool.eq_false_iff]
      intro e
      have := (fewB_iff.1 e).2.1
      rw [hl.len] at this
      omega
    clear HR
    have d40 : decide ((n : Int) ≤ 40) = false := by simp; omega
    have d40n : decide (n ≤ 40) = false := by simp; omega
    go_enter Try.func28, Try.ntmps28
    go_wp2_with fail
    go_loopw [3, 4] (fun v i wr => ∃ (k : Nat) (q : Int), k ≤ n ∧ i = .int .i64 k ∧ v = .int .i64 q ∧ Ext w wr) (fun _ i _ => n - (intOf i).toNat)
    case atStart => exact ⟨0, 0, by omega, rfl, rfl, Ext.refl _⟩
    case round =>
      obtain ⟨k, q, hk, rfl, rfl, hxr⟩ := hrel
      by_cases hlt : k < n
      · obtain ⟨ga, oa, r, Ar, nr, cr, rfl, hr, a0, hsl⟩ := row_at hl hlt
        have hnr := hsl.n63
        replace a0 := hxr.cell a0
        clear hr hsl
        by_cases hbig : 1500 < nr
        · go_wp2_with fail
          go_ret
          exact ⟨rfl, hxr⟩
        · go_wp2_with fail
          go_roundw
          case rel => exact ⟨k + 1, _, by omega, by go_num, rfl, hxr⟩
          case measure => simp [intOf]; omega
      · obtain rfl : k = n := by omega
        go_wp2_with fail
        go_ret
        exact ⟨rfl, hxr⟩
  go_enter Try.func28, Try.ntmps28
  go_wp2_with fail
  go_loopw [3, 4] (fun v i wr => ∃ (k q : Nat), k ≤ n ∧ q ≤ 1500 * k ∧ i = .int .i64 k ∧ v = .int .i64 q ∧ Hid (sumL (rows.take k) = q) ∧ Hid (∀ r ∈ rows.take k, r.length ≤ 1500) ∧ Ext w wr) (fun _ i _ => n - (intOf i).toNat)
  case atStart => exact ⟨0, 0, by omega, by omega, rfl, rfl, rfl, by intro r hr; simp at hr, Ext.refl _⟩
  case round =>
    obtain ⟨k, q, hk, hq, rfl, rfl, hsum, hall, hxr⟩ := hrel
    by_cases hlt : k < n
    · obtain ⟨ga, oa, r, Ar, nr, cr, rfl, hr, a0, hsl⟩ := row_at hl hlt
      have hrl := hsl.len
      replace a0 := hxr.cell a0
      by_cases hbig : 1500 < nr
      · obtain rfl : false = res := by
          rw [← HR.out]
          symm
          rw [Bool.eq_false_iff]
          intro e
          have := (fewB_iff.1 e).1 r (List.mem_of_getElem? hr)
          omega
        clear hsum hall hr hsl HR
        go_wp2_with fail
        go_ret
        exact ⟨rfl, hxr⟩
      · have HS : Hid (sumL (rows.take (k + 1)) = q + nr) := by unfold Hid; rw [sumL_next hr, hsum.out, hrl]
        have HA : Hid (∀ r ∈ rows.take (k + 1), r.length ≤ 1500) := by
          intro x hx
          rw [List.take_add_one, hr] at hx
          rcases List.mem_append.1 hx with hx | hx
          · exact hall.out x hx
          · simp at hx; subst hx; omega
        clear hsum hall hr hsl hrl
        go_wp2_with fail
        go_roundw
        case rel => exact ⟨k + 1, q + nr, by omega, by omega, by go_num, by go_num, HS, HA, hxr⟩
        case measure => simp [intOf]; omega
    · obtain rfl : k = n := by omega
      have e1 := hsum.out
      have e2 := hall.out
      rw [List.take_of_length_le (by rw [hl.len]; exact Nat.le_refl _)] at e1 e2
      have hrr : res = (decide (k ≤ 40) && decide (q ≤ 4000)) := by
        rw [← HR.out]
        unfold fewB
        have : rows.all (fun r => decide (r.length ≤ 1500)) = true := by simpa using e2
        rw [this, hl.len, e1]
        rfl
      clear hsum hall e1 e2 HR
      obtain rfl : res = decide ((q : Int) ≤ 4000) := by
        rw [hrr]
        have : k ≤ 40 := by omega
        simp [this]
        omega
      clear hrr
      go_wp2_with fail
      go_ret
      exact ⟨rfl, hxr⟩

theorem rows_one {w : World} {A : Option Addr} {n c : Nat} {d : List UInt8} (h : Sl w A n c d) : Lst 1 blR (w.alloc (.cells #[.slice A n c] TRow)) (some ⟨w.heap.size, 0, none⟩) 1 1 [d] := by
  refine ⟨rfl, Nat.le_refl _, by simp [maxLen], [[.slice A n c]], .cons ⟨A, n, c, rfl, h.ext (Ext.alloc _ _)⟩ .nil, ?_⟩
  exact (Own.made w w.heap.size TRow 1 #[.slice A n c] 1 1 (Nat.le_refl _) (Nat.le_refl _) (by simp [maxLen]) rfl).rd
theorem rows_oneG {w : World} {A : Option Addr} {n c g : Nat} {d : List UInt8} (h : Sl w A n c d) (hg : w.heap.size = g) : Lst 1 blR (w.alloc (.cells #[.slice A n c] TRow)) (some ⟨g, 0, none⟩) 1 1 [d] := by
  subst hg
  exact rows_one h
theorem known11_r : rightN 1 1 1 = true := by decide +kernel
theorem known11_merge : mergeL [layL 1 1 1 [97]] 1 = [⟨1, 1, [97]⟩] := by decide +kernel
theorem known11_none : mergeL [] 1 = [] := by decide +kernel
theorem known11_first0 : firstL [] = 0 := by decide +kernel
theorem known11_first : firstL [layL 1 1 1 [97]] = 1 := by decide +kernel
theorem known11_torn : tornL [[7]] 1 = true := by decide +kernel
theorem known11_len : (layL 1 1 1 [97]).length = 23 := by decide +kernel

set_option maxHeartbeats 1000000 in
theorem law11_known (w : World) : Calls Try.prog 29 #[] w fun e w' => e = .returned (.bool true) ∧ Ext w w' := by
  have R1 := Lib.hid known11_r
  obtain ⟨F, hF⟩ : ∃ F, layL 1 1 1 [97] = F := ⟨_, rfl⟩
  have hM := known11_merge
  have hFi := known11_first
  have hLn := known11_len
  rw [hF] at hM hFi hLn
  have HF := Lib.hid hF
  have HM := Lib.hid hM
  have HFI := Lib.hid hFi
  have HLN := Lib.hid hLn
  have HM0 := Lib.hid known11_none
  have HF0 := Lib.hid known11_first0
  have HT := Lib.hid known11_torn
  clear hF hM hLn hFi
  go_enter Try.func29, Try.ntmps29
  have kc := run_conv_bytes w #[.int .u8 97] 1 1
  go_wp2_with fail
  refine (ref_Lay (sl_new w _ _ _ [97] rfl (by simp [maxLen])) R1 HF).mono ?_
  rintro e w1 ⟨A1, n1, c1, rfl, hb1, hx1⟩
  obtain rfl : n1 = 23 := by rw [← hb1.len]; exact HLN.out
  have hsF : ShortF [F] := by intro r hr; simp at hr; subst hr; rw [HLN.out]; omega
  have HSF := Lib.hid hsF
  clear hsF
  go_wp2_with fail
  have hr1 := rows_one hb1.sl
  have hcl := scan_Merge hr1 (s := 1) (by omega) HSF.out (by omega)
  rw [HM.out] at hcl
  refine hcl.mono ?_
  rintro e w2 ⟨A2, n2, c2, rfl, hown, hx2⟩
  clear hcl
  obtain rfl : n2 = 1 := by rw [← hown.len]; rfl
  obtain ⟨ga, oa, x, cs, rfl, hx, ⟨Aa, na, ca, rfl, sa0⟩, ha⟩ := hown.lst.at2 en_rep (by omega) (show 0 < 1 by omega)
  simp at hx
  subst hx
  have a1 := ha 1 _ rfl
  have hb2 := hb1.ext ((Ext.alloc w1 (.cells #[.slice A1 23 c1] TRow)).trans hx2)
  clear ha sa0 hown
  go_wp2_with fail
  have hcl := scan_First (w := w2) (Lst.nil w2) (by omega) (by intro r hr; simp at hr) HF0
  refine hcl.mono ?_
  rintro e w3 ⟨rfl, hx3⟩
  clear hcl
  have hb3 := hb2.ext hx3
  go_wp2_with fail
  have hr3 := rows_one hb3.sl
  have hcl := scan_First hr3 (by omega) HSF.out HFI
  refine hcl.mono ?_
  rintro e w4 ⟨rfl, hx4⟩
  clear hcl hr3
  go_wp2_with fail
  have s7 : Sl (w4.alloc (.cells #[.int .u8 7] U8)) (some ⟨w4.heap.size, 0, none⟩) 1 1 [7] := sl_new w4 _ _ _ [7] rfl (by simp [maxLen])
  have hr5 := rows_oneG (g := w4.heap.size + 1) s7 (by simp)
  have hcl := scan_Torn (last := 1) hr5 (by omega) (by intro r hr; simp at hr; subst hr; simp) HT
  refine hcl.mono ?_
  rintro e w5 ⟨rfl, hx5⟩
  clear hcl hr5
  go_wp2_with fail
  have hcl := scan_Merge (w := w5) (s := 1) (Lst.nil w5) (by omega) (by intro r hr; simp at hr) (by omega)
  rw [HM0.out] at hcl
  refine hcl.mono ?_
  rintro e w6 ⟨A6, n6, c6, rfl, hown6, hx6⟩
  obtain rfl : n6 = 0 := by rw [← hown6.len]; rfl
  clear hcl hown6
  go_wp2_with fail
  go_ret
  exact ⟨rfl, ((((((((((Ext.alloc w _).trans hx1).allocs _).trans hx2).trans hx3).allocs _).trans hx4).allocs _).allocs _).trans hx5).trans hx6⟩
end Go.Proofs.Ytcchlkialgjamaa
