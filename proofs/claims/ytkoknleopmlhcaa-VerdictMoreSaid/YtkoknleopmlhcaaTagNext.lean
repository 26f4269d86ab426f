/-
  Chains: a new tag's number: contracts of the program's Next and the reference's NextID. UNFINISHED.
-/
import Derived.Test.YtkoknleopmlhcaaChainPlain
import Derived.Test.YtkoknleopmlhcaaMask2
namespace Go.Proofs.Ytkoknleopmlhcaa
open Go.RowKit
set_option linter.unusedVariables false
set_option linter.unusedSimpArgs false
set_option linter.unnecessarySimpa false
set_option maxRecDepth 100000

set_option maxHeartbeats 1000000 in
theorem ref_NextID {A : Option Addr} {n c : Nat} {xs : List Tg} {s : Int} {w : World} (l1 : Lst 4 tgR w A n c xs) {r : Int} (hr : Hid (nextI xs s = r)) :
    Calls Try.prog 40 #[.slice A n c, .int .i64 s] w fun e w' => e = .returned (.int .i64 r) ∧ Ext w w' := by
  have h63 := l1.n63
  go_enter Try.func40, Try.ntmps40
  go_wp2_with fail
  go_loopw [5, 6] (fun v i wr => ∃ (k : Nat) (d : Int), k ≤ n ∧ v = .int .i64 d ∧ i = .int .i64 k ∧ 0 ≤ d ∧ d ≤ 1073741824 ∧ Hid (mostI (xs.take k) 0 = d) ∧ Ext w wr) (fun _ i _ => n - (intOf i).toNat)
  case atStart => exact ⟨0, 0, by omega, rfl, rfl, by omega, by omega, rfl, Ext.refl _⟩
  case round =>
    obtain ⟨k, d, hk, rfl, rfl, hd0, hd1, hrk, hxr⟩ := hrel
    by_cases hlt : k < n
    · obtain ⟨ga, oa, x, cs, rfl, hx, rfl, ha⟩ := l1.at2 tg_rep (by omega) hlt
      have hn := mostI_next hx 0
      rw [hrk.out] at hn
      have a0 : wr.cell? ⟨ga, oa + k * 4, none⟩ = _ := hxr.cell (ha 0 _ rfl)
      have ht := mostI_take xs (k + 1) 0
      obtain ⟨x1, x2, x3, x4⟩ := x
      simp only at hn a0
      clear ha hx hrk
      by_cases hls : 1073741824 < x1
      · have hr1 := hr.out
        unfold nextI at hr1
        rw [if_pos (by omega)] at hr1
        subst hr1
        clear hn ht hr
        go_wp2_with fail
        go_ret
        exact ⟨rfl, hxr⟩
      · obtain ⟨m, hm⟩ : ∃ m, max d x1 = m := ⟨_, rfl⟩
        rw [hm] at hn
        have HN := Lib.hid hn
        clear hn ht
        go_wp2_with fail
        all_goals (
          go_roundw
          case rel => exact ⟨k + 1, m, by omega, by congr 2; omega, by go_num, by omega, by omega, HN, hxr⟩
          case measure => simp [intOf]; omega)
    · obtain rfl : k = n := by omega
      have hm := hrk.out
      rw [List.take_of_length_le (by rw [l1.len]; exact Nat.le_refl _)] at hm
      have hr1 := hr.out
      unfold nextI at hr1
      rw [hm, if_neg (by omega)] at hr1
      obtain ⟨e, rfl⟩ := Int.eq_ofNat_of_zero_le hd0
      clear hrk hm hr
      have eb : e ≤ 1073741824 := by omega
      by_cases hp : ((e : Int) + 1) % 2 = 1
      · by_cases hs1 : s = 1
        · have HR := Lib.hid (show (e : Int) + 1 = r by simpa [hp, hs1] using hr1)
          clear hr1
          go_wp2_with fail
          all_goals (
            go_ret
            refine ⟨congrArg (fun z => Ending.returned (.int .i64 z)) ?_, hxr⟩
            have := HR.out
            omega)
        · have qs : (s == 1) = false := by simp [hs1]
          have HR := Lib.hid (show (e : Int) + 2 = r by simpa [hp, hs1] using hr1)
          clear hr1
          go_wp2_with fail
          all_goals (
            go_ret
            refine ⟨congrArg (fun z => Ending.returned (.int .i64 z)) ?_, hxr⟩
            have := HR.out
            omega)
      · have qp : (((e : Int) + 1) % 2 == 1) = false := by simp [hp]
        by_cases hs1 : s = 1
        · have HR := Lib.hid (show (e : Int) + 2 = r by simpa [hp, hs1] using hr1)
          clear hr1
          go_wp2_with fail
          all_goals (
            go_ret
            refine ⟨congrArg (fun z => Ending.returned (.int .i64 z)) ?_, hxr⟩
            have := HR.out
            omega)
        · have qs : (s == 1) = false := by simp [hs1]
          have HR := Lib.hid (show (e : Int) + 1 = r by simpa [hp, hs1] using hr1)
          clear hr1
          go_wp2_with fail
          all_goals (
            go_ret
            refine ⟨congrArg (fun z => Ending.returned (.int .i64 z)) ?_, hxr⟩
            have := HR.out
            omega)
set_option maxHeartbeats 1000000 in
theorem chain_Next {A : Option Addr} {n c : Nat} {xs : List Tg} {s : Int} {w : World} (l1 : Lst 4 tgR w A n c xs) {r : Int} (hr : Hid (nextI xs s = r)) :
    Calls Try.prog 27 #[.slice A n c, .int .i64 s] w fun e w' => e = .returned (.int .i64 r) ∧ Ext w w' := by
  have h63 := l1.n63
  go_enter Try.func27, Try.ntmps27
  go_wp2_with fail
  go_loopw [5, 10] (fun v i wr => ∃ (k : Nat) (d : Int), k ≤ n ∧ v = .int .i64 d ∧ i = .int .i64 k ∧ 0 ≤ d ∧ d ≤ 1073741824 ∧ Hid (mostI (xs.take k) 0 = d) ∧ Ext w wr) (fun _ i _ => n - (intOf i).toNat)
  case atStart => exact ⟨0, 0, by omega, rfl, rfl, by omega, by omega, rfl, Ext.refl _⟩
  case round =>
    obtain ⟨k, d, hk, rfl, rfl, hd0, hd1, hrk, hxr⟩ := hrel
    by_cases hlt : k < n
    · obtain ⟨ga, oa, x, cs, rfl, hx, rfl, ha⟩ := l1.at2 tg_rep (by omega) hlt
      have hn := mostI_next hx 0
      rw [hrk.out] at hn
      have a0 : wr.cell? ⟨ga, oa + k * 4, none⟩ = _ := hxr.cell (ha 0 _ rfl)
      have a1 := hxr.cell (ha 1 _ rfl)
      have a2 := hxr.cell (ha 2 _ rfl)
      have a3 := hxr.cell (ha 3 _ rfl)
      have ht := mostI_take xs (k + 1) 0
      obtain ⟨x1, x2, x3, x4⟩ := x
      simp only at hn a0 a1 a2 a3
      clear ha hx hrk
      by_cases hls : 1073741824 < x1
      · have hr1 := hr.out
        unfold nextI at hr1
        rw [if_pos (by omega)] at hr1
        subst hr1
        clear hn ht hr
        go_wp2_with fail
        all_goals (
          go_ret
          exact ⟨rfl, hxr.trans (Ext.alloc _ _)⟩)
      · obtain ⟨m, hm⟩ : ∃ m, max d x1 = m := ⟨_, rfl⟩
        rw [hm] at hn
        have HN := Lib.hid hn
        clear hn ht
        go_wp2_with fail
        all_goals (
          go_roundw
          case rel => exact ⟨k + 1, m, by omega, by congr 2; omega, by go_num, by omega, by omega, HN, hxr.trans (Ext.alloc _ _)⟩
          case measure => simp [intOf]; omega)
    · obtain rfl : k = n := by omega
      have hm := hrk.out
      rw [List.take_of_length_le (by rw [l1.len]; exact Nat.le_refl _)] at hm
      have hr1 := hr.out
      unfold nextI at hr1
      rw [hm, if_neg (by omega)] at hr1
      obtain ⟨e, rfl⟩ := Int.eq_ofNat_of_zero_le hd0
      clear hrk hm hr
      have eb : e ≤ 1073741824 := by omega
      by_cases hp : ((e : Int) + 1) % 2 = 1
      · have qa : bits BinOp.and IntKind.i64 ((e : Int) + 1) 1 = 1 := by rw [and1]; omega
        by_cases hs1 : s = 1
        · have HR := Lib.hid (show (e : Int) + 1 = r by simpa [hp, hs1] using hr1)
          clear hr1
          go_wp2_with fail
          all_goals (
            go_ret
            refine ⟨congrArg (fun z => Ending.returned (.int .i64 z)) ?_, hxr⟩
            have := HR.out
            omega)
        · have qs : (s == 1) = false := by simp [hs1]
          have HR := Lib.hid (show (e : Int) + 2 = r by simpa [hp, hs1] using hr1)
          clear hr1
          go_wp2_with fail
          all_goals (
            go_ret
            refine ⟨congrArg (fun z => Ending.returned (.int .i64 z)) ?_, hxr⟩
            have := HR.out
            omega)
      · have qp : (((e : Int) + 1) % 2 == 1) = false := by simp [hp]
        have qa : bits BinOp.and IntKind.i64 ((e : Int) + 1) 1 = 0 := by rw [and1]; omega
        by_cases hs1 : s = 1
        · have HR := Lib.hid (show (e : Int) + 2 = r by simpa [hp, hs1] using hr1)
          clear hr1
          go_wp2_with fail
          all_goals (
            go_ret
            refine ⟨congrArg (fun z => Ending.returned (.int .i64 z)) ?_, hxr⟩
            have := HR.out
            omega)
        · have qs : (s == 1) = false := by simp [hs1]
          have HR := Lib.hid (show (e : Int) + 1 = r by simpa [hp, hs1] using hr1)
          clear hr1
          go_wp2_with fail
          all_goals (
            go_ret
            refine ⟨congrArg (fun z => Ending.returned (.int .i64 z)) ?_, hxr⟩
            have := HR.out
            omega)
end Go.Proofs.Ytkoknleopmlhcaa
