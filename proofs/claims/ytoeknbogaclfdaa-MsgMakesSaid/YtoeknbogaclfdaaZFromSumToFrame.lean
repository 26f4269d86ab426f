/-
  Contracts of package crc and of the reference's sums.
-/
/-
  May an entry be: plain. No program in sight.
-/
/-
  Frames as lists of bytes: what is laid, what is taken, and that the one is the other's way back. No program in sight.
-/
/-
  Entries: contracts of may, Right and of the reference's RightEntry; the entry's type.
-/
/-
  Frames: contracts of the program's and of the reference's small functions: may, Right, Size.
-/
import Derived.Test.YtoeknbogaclfdaaZFromLePlainToMask2
import Derived.Test.YtoeknbogaclfdaaZFromChainPlainToGet
import Derived.Test.YtoeknbogaclfdaaZCore
namespace Go.Proofs.Ytoeknbogaclfdaa
open Go.RowKit
set_option linter.unusedVariables false
set_option linter.unusedSimpArgs false
set_option linter.unnecessarySimpa false
set_option maxRecDepth 100000
theorem crc_Next (c x : Nat) (w : World) (hc : c < 4294967296) (hx : x < 256) :
    Calls Try.prog 105 #[.int .u32 c, .int .u8 x] w fun e w' => e = .returned (.int .u32 (crcNext c x)) ∧ w = w' := by
  have h0 := xor_byte_lt hc hx
  have H0 := Lib.hid (u32_xor_nat c x hc (by omega))
  go_enter Try.func105, Try.ntmps105
  go_wp2
  go_loop [0, 10] (fun c' i => ∃ k : Nat, k ≤ 8 ∧ i = .int .i64 k ∧ c' = .int .u32 (crcSteps k (c ^^^ x))) (fun _ i => (8 - intOf i).toNat)
  case atStart => exact ⟨0, by omega, rfl, by rw [H0.out]; rfl⟩
  case round =>
    obtain ⟨k, hk, rfl, rfl⟩ := hrel
    have hl := crcSteps_lt k h0
    obtain ⟨q, hq⟩ : ∃ q, q = crcSteps k (c ^^^ x) := ⟨_, rfl⟩
    rw [← hq]
    rw [← hq] at hl
    have HQ : Hid (crcStep q = crcSteps (k + 1) (c ^^^ x)) := by rw [hq]; rfl
    have HQ0 := Lib.hid hq
    clear hq h0
    rcases Nat.mod_two_eq_zero_or_one q with h2 | h2
    · have h3 : (bits .and .u32 (q : Int) 1 == 1) = false := by rw [odd_and q hl, h2]; rfl
      have H4 := Lib.hid (crcStep_even h2)
      clear h2
      go_wp2
      · go_round
        case rel => exact ⟨k + 1, by omega, by go_num, by rw [← HQ.out, H4.out]; rfl⟩
        case measure => simp [intOf]; omega
      · obtain rfl : k = 8 := by omega
        go_ret
        exact ⟨by rw [HQ0.out]; rfl, rfl⟩
    · have h3 : (bits .and .u32 (q : Int) 1 == 1) = true := by rw [odd_and q hl, h2]; rfl
      have H4 := Lib.hid (crcStep_odd h2)
      have H5 := Lib.hid (xor_poly q hl)
      clear h2
      go_wp2
      · go_round
        case rel => exact ⟨k + 1, by omega, by go_num, by rw [← HQ.out, H4.out, H5.out]⟩
        case measure => simp [intOf]; omega
      · obtain rfl : k = 8 := by omega
        go_ret
        exact ⟨by rw [HQ0.out]; rfl, rfl⟩
theorem crc_Of (A : Option Addr) (n c : Nat) (l : List UInt8) (w : World) (h : Sl w A n c l) :
    Calls Try.prog 83 #[.slice A n c] w fun e w' => e = .returned (.int .u32 (crcOf l)) ∧ w = w' := by
  have hn := h.n63
  go_enter Try.func83, Try.ntmps83
  go_wp2
  go_loop [3, 8] (fun s i => ∃ k : Nat, k ≤ n ∧ i = .int .i64 k ∧ s = .int .u32 (crcRun 4294967295 (l.take k))) (fun _ i => (n - (intOf i).toNat))
  case atStart => exact ⟨0, by omega, rfl, rfl⟩
  case round =>
    obtain ⟨k, hk, rfl, rfl⟩ := hrel
    have hl := crcRun_lt (l.take k) (c := 4294967295) (by omega)
    obtain ⟨q, hq⟩ : ∃ q, q = crcRun 4294967295 (l.take k) := ⟨_, rfl⟩
    rw [← hq]
    rw [← hq] at hl
    have HQ := Lib.hid hq
    clear hq
    by_cases hlt : k < n
    · obtain ⟨ad, rfl, hcell⟩ := h.atD hlt
      have hb := (l.getD k 0).toNat_lt
      have HS : Hid (crcNext q (l.getD k 0).toNat = crcRun 4294967295 (l.take (k + 1))) := by rw [HQ.out]; exact (crcRun_take _ (by rw [h.len]; exact hlt)).symm
      obtain ⟨b, hb'⟩ : ∃ b, b = l.getD k 0 := ⟨_, rfl⟩
      rw [← hb'] at hcell hb HS
      clear hb'
      go_wp2_with (go_at_call 105; refine (crc_Next q b.toNat _ hl hb).mono ?_; rintro e w1 ⟨rfl, rfl⟩)
      go_round
      case rel => exact ⟨k + 1, by omega, by go_num, by rw [HS.out]⟩
      case measure => simp [intOf]; omega
    · go_wp2
      go_ret
      obtain rfl : k = n := by omega
      rw [HQ.out]
      refine ⟨?_, rfl⟩
      have hq' : crcRun 4294967295 l < 4294967296 := crcRun_lt l (by omega)
      have e : l.take k = l := List.take_of_length_le (by rw [h.len]; omega)
      simp only [e]
      exact congrArg (fun z => Ending.returned (Value.int IntKind.u32 z)) (not_u32 _ hq')
theorem crc_Of' {A : Option Addr} {n c : Nat} {l : List UInt8} {w : World} (h : Sl w A n c l) {q : Nat} (hq : Hid (crcOf l = q)) :
    Calls Try.prog 83 #[.slice A n c] w fun e w' => e = .returned (.int .u32 q) ∧ w = w' := by
  have := crc_Of A n c l w h
  rwa [hq.out] at this
theorem crc_Seal (A : Option Addr) (n c : Nat) (l : List UInt8) (w : World) (h : Sl w A n c l) (hn : n ≤ 1000000) :
    Calls Try.prog 47 #[.slice A n c] w fun e w' => ∃ A' c', e = .returned (.slice A' (n + 4) c') ∧ Byt U8 w' w.heap.size A' (n + 4) c' (put l (crcOf l) 4) ∧ Ext w w' := by
  have hl := crcOf_lt l
  go_enter Try.func47, Try.ntmps47
  go_wp2_with fail
  refine (crc_Of A n c l _ h).mono ?_
  rintro e w1 ⟨rfl, rfl⟩
  go_wp2_with fail
  refine (bits_Put_loop A n c l (crcOf l) 4 _ h hn (by omega) (by omega) (by omega)).mono ?_
  rintro e w1 ⟨A1, c1, rfl, hb, hx⟩
  go_wp2_with fail
  go_ret
  exact ⟨_, _, rfl, hb, hx⟩
theorem crc_Open_no (A : Option Addr) (n c : Nat) (l : List UInt8) (w : World) (h : Sl w A n c l) (hn : n < 4) :
    Calls Try.prog 48 #[.slice A n c] w fun e w' => e = .returned (.tuple #[.slice none 0 0, .bool false]) ∧ w = w' := by
  go_enter Try.func48, Try.ntmps48
  go_wp2
  go_ret2
  exact ⟨rfl, rfl⟩
set_option maxHeartbeats 400000 in
theorem crc_Open (A : Option Addr) (n c : Nat) (l : List UInt8) (w : World) (hsl : Sl w A n c l) (hn : 4 ≤ n) (hn' : n ≤ 1000000) :
    Calls Try.prog 48 #[.slice A n c] w fun e w' => ∃ A' n' c', e = .returned (.tuple #[.slice A' n' c', .bool (crcOpen l).isSome]) ∧ Byt U8 w' w.heap.size A' n' c' ((crcOpen l).getD []) ∧ Ext w w' := by
  have h63 := hsl.n63
  obtain ⟨m, rfl⟩ : ∃ m, n = m + 4 := ⟨n - 4, by omega⟩
  have hcap := hsl.cap
  have hcm : ¬ c = m := by omega
  have hcr := crcOf_lt (l.take m)
  obtain ⟨r, hr⟩ : ∃ r, r = crcOpen l := ⟨_, rfl⟩
  rw [← hr]
  obtain ⟨q, hq⟩ : ∃ q, q = crcOf (l.take m) := ⟨_, rfl⟩
  rw [← hq] at hcr
  obtain ⟨b, hb⟩ : ∃ b, b = (l.drop m == put [] q 4) := ⟨_, rfl⟩
  have hres : r = if b then some (l.take m) else none := by
    have e : l.length - 4 = m := by rw [hsl.len]; omega
    rw [hr, hb]
    unfold crcOpen
    rw [e, ← hq]
    by_cases h1 : l.drop m = le 4 q
    · rw [if_pos ⟨by rw [hsl.len]; omega, h1⟩]
      simp [put, h1]
    · rw [if_neg (fun h => h1 h.2)]
      simp [put, h1]
  have HQ := Lib.hid hq
  have HB := Lib.hid hb
  have HR := Lib.hid hres
  clear hr hq hb hres
  go_enter Try.func48, Try.ntmps48
  go_wp2_with fail
  refine wp_region_typed Ext.steady rfl 25 rfl (by kernel_rfl) ?_
  apply Stage.step (Is _) [] (Is.keeps _) (by kernel_rfl)
  · intro w1 h1
    simp only [Given]
    go_wp2_with fail
    exact Post.isv (Ext.refl _) rfl rfl rfl
  apply Stage.step (Is _) [] (Is.keeps _) (by kernel_rfl)
  · intro w1 h1
    simp only [Given]
    go_wp2_with fail
    exact Post.isv (Ext.refl _) rfl rfl rfl
  apply Stage.step (SlT (l.drop m)) [true, true] (SlT.keeps _) (by kernel_rfl)
  · intro w1 h1
    simp only [List.nil_append, List.cons_append, Given]
    rintro _ rfl
    rintro _ rfl
    go_wp2_with fail
    refine ⟨rfl, rfl, Ext.refl _, _, _, _, rfl, ?_⟩
    have := (hsl.ext h1).cut (lo := m) (hi := m + 4) (by omega) (by omega)
    rw [List.take_of_length_le (by rw [List.length_drop, hsl.len]; omega)] at this
    simpa [hcm] using this
  apply Stage.step (Is _) [] (Is.keeps _) (by kernel_rfl)
  · intro w1 h1
    simp only [Given]
    go_wp2_with fail
    exact Post.isv (Ext.refl _) rfl rfl rfl
  apply Stage.step (Is _) [] (Is.keeps _) (by kernel_rfl)
  · intro w1 h1
    simp only [Given]
    go_wp2_with fail
    exact Post.isv (Ext.refl _) rfl rfl rfl
  apply Stage.step (SlT (l.take m)) [false, false, false, true, true] (SlT.keeps _) (by kernel_rfl)
  · intro w1 h1
    simp only [List.nil_append, List.cons_append, Given]
    rintro _ rfl
    rintro _ rfl
    go_wp2_with fail
    exact ⟨rfl, rfl, Ext.refl _, _, _, _, rfl, (hsl.ext h1).upto (by omega)⟩
  apply Stage.step (Is (.int .u32 q)) [false, false, false, false, false, true] (Is.keeps _) (by kernel_rfl)
  · intro w1 h1
    simp only [List.nil_append, List.cons_append, Given]
    rintro _ ⟨A4, n4, c4, rfl, h4⟩
    go_wp2_with fail
    refine (crc_Of _ _ _ _ _ h4).mono ?_
    rintro e w2 ⟨rfl, rfl⟩
    rw [← HQ.out]
    go_wp2_with fail
    exact Post.isv (Ext.refl _) rfl rfl rfl
  apply Stage.step (Is _) [false, false, false, false, false, false, true] (Is.keeps _) (by kernel_rfl)
  · intro w1 h1
    simp only [List.nil_append, List.cons_append, Given]
    rintro _ rfl
    go_wp2_with fail
    exact Post.isv (Ext.refl _) rfl rfl rfl
  apply Stage.step (BytT U8 w.heap.size (put [] q 4)) [false, false, false, false, false, false, false, true] (BytT.keeps _ _ _) (by kernel_rfl)
  · intro w1 h1
    simp only [List.nil_append, List.cons_append, Given]
    rintro _ rfl
    go_wp2_with fail
    refine (bits_Put_loop _ 0 _ _ q 4 _ (Sl.nil _) (by omega) (by omega) (by omega) (by omega)).mono ?_
    rintro e w2 ⟨A5, c5, rfl, h5, hx5⟩
    go_wp2_with fail
    exact ⟨rfl, rfl, hx5, _, _, _, rfl, h5.low h1.size⟩
  apply Stage.step (Is (.bool b)) [false, false, true, false, false, false, false, false, true] (Is.keeps _) (by kernel_rfl)
  · intro w1 h1
    simp only [List.nil_append, List.cons_append, Given]
    rintro _ ⟨A3, n3, c3, rfl, h3⟩
    rintro _ ⟨A5, n5, c5, rfl, h5⟩
    go_wp2_with fail
    refine (bytes_Equal _ _ _ _ _ _ _ _ _ h3 h5.sl).mono ?_
    rintro e w2 ⟨rfl, rfl⟩
    rw [← HB.out]
    go_wp2_with fail
    exact Post.isv (Ext.refl _) rfl rfl rfl
  apply Stage.step (Is _) [false, false, false, false, false, false, false, false, false, true] (Is.keeps _) (by kernel_rfl)
  · intro w1 h1
    simp only [List.nil_append, List.cons_append, Given]
    rintro _ rfl
    go_wp2_with fail
    exact Post.isv (Ext.refl _) rfl rfl rfl
  apply Stage.nil
  intro w1 h1
  simp only [List.nil_append, List.cons_append]
  refine Fin.is_ ?_
  refine Fin.is_ ?_
  refine Fin.step_ ?_
  rintro _ ⟨A3, n3, c3, rfl, h3⟩
  refine Fin.is_ ?_
  refine Fin.is_ ?_
  refine Fin.step_ ?_
  rintro _ ⟨A4, n4, c4, rfl, h4⟩
  refine Fin.is_ ?_
  refine Fin.is_ ?_
  refine Fin.step_ ?_
  rintro _ ⟨A5, n5, c5, rfl, h5⟩
  refine Fin.is_ ?_
  refine Fin.is_ ?_
  refine Fin.nil_ ?_
  go_simp
  cases b
  · go_wp2
    go_ret2
    exact ⟨_, _, _, by rw [HR.out]; rfl, by rw [HR.out]; exact Byt.nil _ _ _ _, h1⟩
  · have hcl := (hsl.ext h1).upto (hi := m) (by omega)
    go_wp2_with (go_at_call 80; refine (slices_Clone A m c _ _ hcl (by omega)).mono ?_; rintro e w2 ⟨A6, c6, rfl, h6, hx6⟩)
    go_ret2
    exact ⟨_, _, _, by rw [HR.out]; rfl, by rw [HR.out]; exact h6.low h1.size, h1.trans hx6⟩
theorem crc_Open_any (A : Option Addr) (n c : Nat) (l : List UInt8) (w : World) (hsl : Sl w A n c l) (hn' : n ≤ 1000000) {r : Option (List UInt8)} (hr : Hid (crcOpen l = r)) :
    Calls Try.prog 48 #[.slice A n c] w fun e w' => ∃ A' n' c', e = .returned (.tuple #[.slice A' n' c', .bool r.isSome]) ∧ Byt U8 w' w.heap.size A' n' c' (r.getD []) ∧ Ext w w' := by
  by_cases h : n < 4
  · refine (crc_Open_no A n c l w hsl h).mono ?_
    rintro e w' ⟨rfl, rfl⟩
    have hrn : r = none := by rw [← hr.out]; exact crcOpen_short (by rw [hsl.len]; exact h)
    subst hrn
    exact ⟨_, _, _, rfl, Byt.nil _ _ _ _, Ext.refl _⟩
  · have := crc_Open A n c l w hsl (by omega) hn'
    rwa [hr.out] at this
theorem ref_Next (c x : Nat) (w : World) (hc : c < 4294967296) (hx : x < 256) :
    Calls Try.prog 88 #[.int .u32 c, .int .u8 x] w fun e w' => e = .returned (.int .u32 (crcNext c x)) ∧ w = w' := by
  have h0 := xor_byte_lt hc hx
  have H0 := Lib.hid (u32_xor_nat c x hc (by omega))
  go_enter Try.func88, Try.ntmps88
  go_wp2
  go_loop [0, 5] (fun c' i => ∃ k : Nat, k ≤ 8 ∧ i = .int .i64 k ∧ c' = .int .u32 (crcSteps k (c ^^^ x))) (fun _ i => (8 - intOf i).toNat)
  case atStart => exact ⟨0, by omega, rfl, by rw [H0.out]; rfl⟩
  case round =>
    obtain ⟨k, hk, rfl, rfl⟩ := hrel
    have hl := crcSteps_lt k h0
    obtain ⟨q, hq⟩ : ∃ q, q = crcSteps k (c ^^^ x) := ⟨_, rfl⟩
    rw [← hq]
    rw [← hq] at hl
    have HQ : Hid (crcStep q = crcSteps (k + 1) (c ^^^ x)) := by rw [hq]; rfl
    have HQ0 := Lib.hid hq
    clear hq h0
    rcases Nat.mod_two_eq_zero_or_one q with h2 | h2
    · have h3 : (bits .and .u32 (q : Int) 1 == 1) = false := by rw [odd_and q hl, h2]; rfl
      have H4 := Lib.hid (crcStep_even h2)
      clear h2
      go_wp2
      · go_round
        case rel => exact ⟨k + 1, by omega, by go_num, by rw [← HQ.out, H4.out]; rfl⟩
        case measure => simp [intOf]; omega
      · obtain rfl : k = 8 := by omega
        go_ret
        exact ⟨by rw [HQ0.out]; rfl, rfl⟩
    · have h3 : (bits .and .u32 (q : Int) 1 == 1) = true := by rw [odd_and q hl, h2]; rfl
      have H4 := Lib.hid (crcStep_odd h2)
      have H5 := Lib.hid (xor_poly q hl)
      clear h2
      go_wp2
      · go_round
        case rel => exact ⟨k + 1, by omega, by go_num, by rw [← HQ.out, H4.out, H5.out]⟩
        case measure => simp [intOf]; omega
      · obtain rfl : k = 8 := by omega
        go_ret
        exact ⟨by rw [HQ0.out]; rfl, rfl⟩
theorem ref_Of (A : Option Addr) (n c : Nat) (l : List UInt8) (w : World) (h : Sl w A n c l) :
    Calls Try.prog 54 #[.slice A n c] w fun e w' => e = .returned (.int .u32 (crcOf l)) ∧ w = w' := by
  have hn := h.n63
  go_enter Try.func54, Try.ntmps54
  go_wp2
  go_loop [3, 4] (fun s i => ∃ k : Nat, k ≤ n ∧ i = .int .i64 k ∧ s = .int .u32 (crcRun 4294967295 (l.take k))) (fun _ i => (n - (intOf i).toNat))
  case atStart => exact ⟨0, by omega, rfl, rfl⟩
  case round =>
    obtain ⟨k, hk, rfl, rfl⟩ := hrel
    have hl := crcRun_lt (l.take k) (c := 4294967295) (by omega)
    obtain ⟨q, hq⟩ : ∃ q, q = crcRun 4294967295 (l.take k) := ⟨_, rfl⟩
    rw [← hq]
    rw [← hq] at hl
    have HQ := Lib.hid hq
    clear hq
    by_cases hlt : k < n
    · obtain ⟨ad, rfl, hcell⟩ := h.atD hlt
      have hb := (l.getD k 0).toNat_lt
      have HS : Hid (crcNext q (l.getD k 0).toNat = crcRun 4294967295 (l.take (k + 1))) := by rw [HQ.out]; exact (crcRun_take _ (by rw [h.len]; exact hlt)).symm
      obtain ⟨b, hb'⟩ : ∃ b, b = l.getD k 0 := ⟨_, rfl⟩
      rw [← hb'] at hcell hb HS
      clear hb'
      go_wp2_with (go_at_call 88; refine (ref_Next q b.toNat _ hl hb).mono ?_; rintro e w1 ⟨rfl, rfl⟩)
      go_round
      case rel => exact ⟨k + 1, by omega, by go_num, by rw [HS.out]⟩
      case measure => simp [intOf]; omega
    · go_wp2
      go_ret
      obtain rfl : k = n := by omega
      rw [HQ.out]
      refine ⟨?_, rfl⟩
      have hq' : crcRun 4294967295 l < 4294967296 := crcRun_lt l (by omega)
      have e : l.take k = l := List.take_of_length_le (by rw [h.len]; omega)
      simp only [e]
      exact congrArg (fun z => Ending.returned (Value.int IntKind.u32 z)) (not_u32 _ hq')
theorem ref_Seal (A : Option Addr) (n c : Nat) (l : List UInt8) (w : World) (h : Sl w A n c l) (hn : n ≤ 1000000) :
    Calls Try.prog 16 #[.slice A n c] w fun e w' => ∃ A' n' c', e = .returned (.slice A' n' c') ∧ Byt U8 w' w.heap.size A' n' c' (put l (crcOf l) 4) ∧ Ext w w' := by
  have hl := crcOf_lt l
  go_enter Try.func16, Try.ntmps16
  go_wp2_with fail
  refine (ref_Of A n c l _ h).mono ?_
  rintro e w1 ⟨rfl, rfl⟩
  go_wp2_with fail
  refine (ref_Put A n c l (crcOf l) 4 _ h hn (by omega)).mono ?_
  rintro e w1 ⟨A1, n1, c1, rfl, hb, hx⟩
  go_wp2_with fail
  go_ret
  exact ⟨_, _, _, rfl, by simpa [putI] using hb, hx⟩
end Go.Proofs.Ytoeknbogaclfdaa

namespace Go.Proofs.Ytoeknbogaclfdaa
def rightN (t s : Int) (n : Nat) : Bool := decide (1 ≤ t ∧ t ≤ 1073741824 ∧ 1 ≤ s ∧ s ≤ 1099511627776 ∧ 1 ≤ n ∧ n ≤ 90)
theorem rightN_iff {t s : Int} {n : Nat} : rightN t s n = true ↔ 1 ≤ t ∧ t ≤ 1073741824 ∧ 1 ≤ s ∧ s ≤ 1099511627776 ∧ 1 ≤ n ∧ n ≤ 90 := by unfold rightN; simp
end Go.Proofs.Ytoeknbogaclfdaa

namespace Go.Proofs.Ytoeknbogaclfdaa
set_option linter.unusedVariables false
set_option linter.unusedSimpArgs false
def magicL : List UInt8 := [72, 71, 74, 69]
def headE (t s : Nat) (l : List UInt8) : List UInt8 := put (put (put magicL t 4) s 8) l.length 2 ++ l
def layE (t s : Nat) (l : List UInt8) : List UInt8 := put (headE t s l) (crcOf (headE t s l)) 4
theorem headE_length (t s : Nat) (l : List UInt8) : (headE t s l).length = 18 + l.length := by
  unfold headE put magicL
  simp [le_length]
  omega
theorem layE_length (t s : Nat) (l : List UInt8) : (layE t s l).length = 22 + l.length := by
  unfold layE put
  rw [List.length_append, headE_length, le_length]
  omega
def tkT (r : List UInt8) : Nat := unle ((r.drop 4).take 4)
def tkS (r : List UInt8) : Nat := unle ((r.drop 8).take 8)
def tkN (r : List UInt8) : Nat := unle ((r.drop 16).take 2)
def tkD (r : List UInt8) : List UInt8 := (r.drop 18).take (tkN r)
def tkFit (r : List UInt8) : Bool := rightN (tkT r) (tkS r) (tkN r) && decide (tkN r + 22 ≤ r.length)
def tkSum (r : List UInt8) : Bool := decide (unle ((r.drop (18 + tkN r)).take 4) = crcOf (r.take (18 + tkN r)))
def tkE (r : List UInt8) : Nat := if r.length = 0 then 4 else if r.length < 22 ∨ r.take 4 ≠ magicL then 2 else if tkFit r = false then 2 else if tkSum r = false then 13 else 0
theorem tkE_ok {r : List UInt8} : tkE r = 0 ↔ 22 ≤ r.length ∧ r.take 4 = magicL ∧ tkFit r = true ∧ tkSum r = true := by
  unfold tkE
  by_cases h0 : r.length = 0
  · rw [if_pos h0]; constructor <;> intro h <;> omega
  rw [if_neg h0]
  by_cases h1 : r.length < 22 ∨ r.take 4 ≠ magicL
  · rw [if_pos h1]
    constructor
    · intro h; omega
    · rintro ⟨a, b, _⟩
      rcases h1 with h1 | h1
      · omega
      · exact absurd b h1
  rw [if_neg h1]
  have h2 : 22 ≤ r.length ∧ r.take 4 = magicL := by
    constructor
    · omega
    · by_cases h : r.take 4 = magicL
      · exact h
      · exact absurd (.inr h) h1
  cases tkFit r <;> cases tkSum r <;> simp [h2]
theorem tkFit_iff {r : List UInt8} : tkFit r = true ↔ rightN (tkT r) (tkS r) (tkN r) = true ∧ tkN r + 22 ≤ r.length := by unfold tkFit; simp
theorem unle_small {l : List UInt8} {k : Nat} (h : l.length ≤ k) : unle l < 256 ^ k := Nat.lt_of_lt_of_le (unle_lt l) (Nat.pow_le_pow_right (by omega) h)
theorem tkN_lt (r : List UInt8) : tkN r < 65536 := unle_small (k := 2) (by rw [List.length_take]; omega)
theorem mid {a b c : List UInt8} {i j : Nat} (hi : i = a.length) (hj : j = b.length) : ((a ++ (b ++ c)).drop i).take j = b := by
  subst hi hj
  rw [List.drop_left, List.take_left]
theorem layE_parts (t s : Nat) (l r : List UInt8) : layE t s l ++ r = magicL ++ (le 4 t ++ (le 8 s ++ (le 2 l.length ++ (l ++ (le 4 (crcOf (headE t s l)) ++ r))))) := by
  unfold layE put
  conv => lhs; arg 1; arg 1; unfold headE put
  simp only [List.append_assoc]
theorem lay_fields (t s : Nat) (l r : List UInt8) (ht : t < 4294967296) (hs : s < 18446744073709551616) (hl : l.length < 65536) :
    (layE t s l ++ r).take 4 = magicL ∧ tkT (layE t s l ++ r) = t ∧ tkS (layE t s l ++ r) = s ∧ tkN (layE t s l ++ r) = l.length := by
  have e := layE_parts t s l r
  have a1 : (magicL ++ le 4 t).length = 8 := by simp [le_length, magicL]
  have a2 : (magicL ++ (le 4 t ++ le 8 s)).length = 16 := by simp [le_length, magicL]
  unfold tkT tkS tkN
  rw [e]
  refine ⟨by rw [show (4 : Nat) = magicL.length from rfl, List.take_left], ?_, ?_, ?_⟩
  · rw [mid (i := 4) (j := 4) (a := magicL) (b := le 4 t) rfl (le_length _ _).symm, unle_le, Nat.mod_eq_of_lt ht]
  · rw [← List.append_assoc, mid (i := 8) (j := 8) (b := le 8 s) a1.symm (le_length _ _).symm, unle_le, Nat.mod_eq_of_lt hs]
  · have e2 : magicL ++ (le 4 t ++ (le 8 s ++ (le 2 l.length ++ (l ++ (le 4 (crcOf (headE t s l)) ++ r))))) = (magicL ++ (le 4 t ++ le 8 s)) ++ (le 2 l.length ++ (l ++ (le 4 (crcOf (headE t s l)) ++ r))) := by simp only [List.append_assoc]
    rw [e2, mid (i := 16) (j := 2) (b := le 2 l.length) a2.symm (le_length _ _).symm, unle_le, Nat.mod_eq_of_lt hl]
theorem headE_parts (t s : Nat) (l : List UInt8) : headE t s l = (magicL ++ (le 4 t ++ (le 8 s ++ le 2 l.length))) ++ l := by
  unfold headE put
  simp only [List.append_assoc]
theorem take_lay (t s : Nat) (l r : List UInt8) (h : rightN t s l.length = true) :
    tkE (layE t s l ++ r) = 0 ∧ tkT (layE t s l ++ r) = t ∧ tkS (layE t s l ++ r) = s ∧ tkN (layE t s l ++ r) = l.length ∧ tkD (layE t s l ++ r) = l := by
  have hr := rightN_iff.1 h
  obtain ⟨h1, h2, h3, h4⟩ := lay_fields t s l r (by omega) (by omega) (by omega)
  have hlen : (layE t s l ++ r).length = 22 + l.length + r.length := by rw [List.length_append, layE_length]
  have hh := headE_length t s l
  have a3 : (magicL ++ (le 4 t ++ (le 8 s ++ le 2 l.length))).length = 18 := by simp [le_length, magicL]
  have e3 : layE t s l ++ r = headE t s l ++ (le 4 (crcOf (headE t s l)) ++ r) := by unfold layE put; rw [List.append_assoc]
  refine ⟨tkE_ok.2 ⟨by omega, h1, tkFit_iff.2 ⟨by rw [h2, h3, h4]; exact h, by omega⟩, ?_⟩, h2, h3, h4, ?_⟩
  · unfold tkSum
    rw [h4, e3, decide_eq_true_eq, mid (i := 18 + l.length) (j := 4) (b := le 4 (crcOf (headE t s l))) hh.symm (le_length _ _).symm, ← hh, List.take_left, unle_le, Nat.mod_eq_of_lt (crcOf_lt _)]
  · unfold tkD
    rw [h4, e3, headE_parts, List.append_assoc, List.append_assoc]
    exact mid a3.symm rfl
end Go.Proofs.Ytoeknbogaclfdaa

namespace Go.Proofs.Ytoeknbogaclfdaa
open Go.RowKit
set_option linter.unusedVariables false
set_option linter.unusedSimpArgs false
set_option linter.unnecessarySimpa false
set_option maxRecDepth 100000
theorem ret_boolF {a b : Bool} (h : a = b) : Ending.returned (.bool a) = .returned (.bool b) := by rw [h]
theorem ret_intF {k : IntKind} {a b : Int} (h : a = b) : Ending.returned (.int k a) = .returned (.int k b) := by rw [h]
abbrev TEn : TypeId := 71
theorem info_en : (Try.prog.info? TEn).map (fun i => (i.zero, i.size, i.bytes)) = some (some (.agg #[.int .i64 0, .int .i64 0, .slice none 0 0]), 3, 40) := by kernel_rfl
theorem under_ens : Try.prog.underlying 26 = some (.slice TEn) := by kernel_rfl
theorem pts_en {t s : Int} {A : Option Addr} {n c k : Nat} (h : Pts [.int .i64 t, .int .i64 s, .slice A n c] k) : ∃ ad, A = some ad ∧ 0 < n ∧ ad.block = k :=
  pts_slice h (by intro ad m c' hm; simp at hm; exact ⟨hm.1.symm, hm.2.1⟩)
theorem frame_may (t s n : Nat) (w : World) :
    Calls Try.prog 104 #[.int .u64 t, .int .u64 s, .int .u64 n] w fun e w' => e = .returned (.bool (rightN t s n)) ∧ w = w' := by
  go_enter Try.func104, Try.ntmps104
  go_wp2
  all_goals (go_ret; refine ⟨ret_boolF ?_, rfl⟩; unfold rightN; rw [Bool.eq_iff_iff]; simp <;> omega)
abbrev enV (t s : Int) (A : Option Addr) (n c : Nat) : Value := .agg #[.int .i64 t, .int .i64 s, .slice A n c]
theorem frame_Right (t s : Int) (A : Option Addr) (n c : Nat) (w : World) (hn : n ≤ 9223372036854775807) (ht : t ≤ 9223372036854775807) (hs : s ≤ 9223372036854775807) :
    Calls Try.prog 81 #[enV t s A n c] w fun e w' => e = .returned (.bool (rightN t s n)) ∧ Ext w w' := by
  by_cases h1 : 1 ≤ t
  · by_cases h2 : 1 ≤ s
    · obtain ⟨a, rfl⟩ := Int.eq_ofNat_of_zero_le (by omega : 0 ≤ t)
      obtain ⟨b, rfl⟩ := Int.eq_ofNat_of_zero_le (by omega : 0 ≤ s)
      go_enter Try.func81, Try.ntmps81
      go_wp2_with fail
      refine (frame_may a b n _).mono ?_
      rintro e w1 ⟨rfl, rfl⟩
      go_wp2_with fail
      go_ret
      exact ⟨rfl, Ext.alloc _ _⟩
    · have hr : rightN t s n = false := by unfold rightN; simp; omega
      rw [hr]
      go_enter Try.func81, Try.ntmps81
      go_wp2_with fail
      go_ret
      exact ⟨rfl, Ext.alloc _ _⟩
  · have hr : rightN t s n = false := by unfold rightN; simp; omega
    rw [hr]
    go_enter Try.func81, Try.ntmps81
    go_wp2_with fail
    go_ret
    exact ⟨rfl, Ext.alloc _ _⟩
theorem ref_RightEntry (t s : Int) (A : Option Addr) (n c : Nat) (w : World) (hn : n ≤ 9223372036854775807) :
    Calls Try.prog 99 #[enV t s A n c] w fun e w' => e = .returned (.bool (rightN t s n)) ∧ Ext w w' := by
  go_enter Try.func99, Try.ntmps99
  go_wp2
  all_goals (go_ret; refine ⟨ret_boolF ?_, Ext.alloc _ _⟩; unfold rightN; rw [Bool.eq_iff_iff]; simp <;> omega)
end Go.Proofs.Ytoeknbogaclfdaa

namespace Go.Proofs.Ytoeknbogaclfdaa
open Go.RowKit
set_option linter.unusedVariables false
set_option linter.unusedSimpArgs false
set_option linter.unnecessarySimpa false
set_option maxRecDepth 100000
theorem cell_newF (w : World) (cs : Array Value) (e : TypeId) (j : Nat) {u : Value} (hu : cs[j]? = some u := by rfl) : (w.alloc (.cells cs e)).cell? ⟨w.heap.size, j, none⟩ = some u :=
  (cell_of_row _ _ j cs e (0, 0) (heap_alloc_new w _)).trans hu
theorem bits_Get_h {A : Option Addr} {n c : Nat} {l : List UInt8} {a wd : Nat} {w : World} (hs : Sl w A n c l) (x y : Int) (hx : x = (a : Int)) (hy : y = (wd : Int)) (h1 : 1 ≤ wd) (h8 : wd ≤ 8) (hn : a + wd ≤ n) {q : Nat} (hq : Hid (unle ((l.drop a).take wd) = q)) :
    Calls Try.prog 110 #[.slice A n c, .int .i64 x, .int .i64 y] w fun e w' => e = .returned (.tuple #[.int .u64 q, .bool true]) ∧ w = w' := by
  subst hx hy
  have := bits_Get_yes A n c l a wd w hs h1 h8 hn
  rwa [hq.out] at this
def sizeI (n : Int) : Int := 22 + max 0 (min n 90)
theorem frame_Size (n : Int) (w : World) :
    Calls Try.prog 111 #[.int .i64 n] w fun e w' => e = .returned (.int .i64 (sizeI n)) ∧ w = w' := by
  go_enter Try.func111, Try.ntmps111
  go_wp2
  all_goals (go_ret; exact ⟨ret_intF (by unfold sizeI; omega), rfl⟩)
def layL (t s : Int) (n : Nat) (l : List UInt8) : List UInt8 := if rightN t s n then layE t.toNat s.toNat l else []
set_option maxHeartbeats 1000000 in
theorem frame_Lay {t s : Int} {A : Option Addr} {n c : Nat} {l : List UInt8} {w : World} (hsl : Sl w A n c l) (ht : t ≤ 9223372036854775807) (hs : s ≤ 9223372036854775807) {r : Bool} (hr : Hid (rightN t s n = r)) {L : List UInt8} (hL : Hid (layL t s n l = L)) :
    Calls Try.prog 45 #[enV t s A n c] w fun e w' => ∃ A' n' c', e = .returned (.tuple #[.slice A' n' c', .int .i64 (if r then 0 else 1)]) ∧ Byt U8 w' w.heap.size A' n' c' L ∧ Ext w w' := by
  have h63 := hsl.n63
  have HRC := frame_Right t s A n c (w.alloc (.cells #[.int .i64 t, .int .i64 s, .slice A n c] 71)) h63.1 ht hs
  rw [hr.out] at HRC
  have HR := Lib.hid HRC
  clear HRC
  cases r with
  | false =>
    obtain rfl : L = [] := by rw [← hL.out]; unfold layL; rw [hr.out]; rfl
    go_enter Try.func45, Try.ntmps45
    go_wp2_with fail
    refine HR.out.mono ?_
    rintro e w1 ⟨rfl, hx1⟩
    go_wp2_with fail
    go_ret2
    exact ⟨_, _, _, rfl, Byt.nil _ _ _ _, (Ext.alloc _ _).trans hx1⟩
  | true =>
    have hrn := rightN_iff.1 hr.out
    obtain ⟨t, rfl⟩ := Int.eq_ofNat_of_zero_le (by omega : 0 ≤ t)
    obtain ⟨s, rfl⟩ := Int.eq_ofNat_of_zero_le (by omega : 0 ≤ s)
    have hLe : L = layE t s l := by rw [← hL.out]; unfold layL; rw [hr.out]; rfl
    obtain ⟨l1, hl1⟩ : ∃ q, put magicL t 4 = q := ⟨_, rfl⟩
    obtain ⟨l2, hl2⟩ : ∃ q, put l1 s 8 = q := ⟨_, rfl⟩
    obtain ⟨l3, hl3⟩ : ∃ q, put l2 n 2 = q := ⟨_, rfl⟩
    obtain ⟨l4, hl4⟩ : ∃ q, l3 ++ l = q := ⟨_, rfl⟩
    obtain ⟨cr, hcr⟩ : ∃ q, crcOf l4 = q := ⟨_, rfl⟩
    have hcrl : cr < 4294967296 := by rw [← hcr]; exact crcOf_lt _
    have hLL : put l4 cr 4 = L := by
      rw [hLe]
      unfold layE headE
      rw [hsl.len, hl1, hl2, hl3, hl4, hcr]
    have H1 := Lib.hid hl1
    have H2 := Lib.hid hl2
    have H3 := Lib.hid hl3
    have H4 := Lib.hid hl4
    have H5 := Lib.hid hcr
    have H6 := Lib.hid hLL
    have hn90 : n ≤ 90 := hrn.2.2.2.2.2
    have ht30 : t ≤ 1073741824 := by omega
    have hs40 : s ≤ 1099511627776 := by omega
    obtain ⟨i0, hi0, hz0, hz1, hz2⟩ := info_parts info_u8
    clear hl1 hl2 hl3 hl4 hcr hLL hr hL hLe hrn
    go_enter Try.func45, Try.ntmps45
    go_wp2_with fail
    refine HR.out.mono ?_
    rintro e w1 ⟨rfl, hx1⟩
    have hc0 : w1.cell? ⟨w.heap.size, 0, none⟩ = some (.int .i64 t) := hx1.cell (cell_newF _ _ _ _)
    have hc1 : w1.cell? ⟨w.heap.size, 1, none⟩ = some (.int .i64 s) := hx1.cell (cell_newF _ _ _ _)
    have hc2 : w1.cell? ⟨w.heap.size, 2, none⟩ = some (.slice A n c) := hx1.cell (cell_newF _ _ _ _)
    have hlt : w.heap.size < w1.heap.size := World.block_lt_of_cell? _ _ hc0
    have hx2 : Ext w w1 := (Ext.alloc w _).trans hx1
    clear hx1 HR
    have kc := run_conv_bytes w1 #[.int .u8 72, .int .u8 71, .int .u8 74, .int .u8 69] 4 4
    go_wp2_with fail
    refine (bits_Put_loop (some ⟨w1.heap.size, 0, none⟩) 4 4 magicL t 4 _ (sl_new w1 _ _ _ magicL rfl (by simp [maxLen, magicL])) (by omega) (by omega) (by omega) (by omega)).mono ?_
    rintro e w2 ⟨A2, c2, rfl, hb2, hx3⟩
    rw [H1.out] at hb2
    replace hx3 : Ext w1 w2 := (Ext.alloc w1 _).trans hx3
    replace hc0 := hx3.cell hc0
    replace hc1 := hx3.cell hc1
    replace hc2 := hx3.cell hc2
    replace hx2 := hx2.trans hx3
    replace hlt := World.block_lt_of_cell? _ _ hc0
    clear hx3 kc
    go_wp2_with fail
    refine (bits_Put_loop A2 8 c2 l1 s 8 _ hb2.sl (by omega) (by omega) (by omega) (by omega)).mono ?_
    rintro e w3 ⟨A3, c3, rfl, hb3, hx3⟩
    rw [H2.out] at hb3
    replace hc0 := hx3.cell hc0
    replace hc1 := hx3.cell hc1
    replace hc2 := hx3.cell hc2
    replace hx2 := hx2.trans hx3
    replace hlt := World.block_lt_of_cell? _ _ hc0
    clear hx3
    go_wp2_with fail
    refine (bits_Put_loop A3 16 c3 l2 n 2 _ hb3.sl (by omega) (by omega) (by omega) (by omega)).mono ?_
    rintro e w4 ⟨A4, c4, rfl, hb4, hx3⟩
    rw [H3.out] at hb4
    replace hc0 := hx3.cell hc0
    replace hc2 := hx3.cell hc2
    have hb4 := hb4.low hx2.size
    replace hx2 := hx2.trans hx3
    replace hlt := World.block_lt_of_cell? _ _ hc0
    have hsl4 := hsl.ext hx2
    clear hx3 hb2 hb3
    go_wp2_with (at_builtin; refine wpList_append_mine _ rfl _ _ _ _ rfl w.heap.size U8 i0 _ 1 1 under_bytes hi0 hz0 hz1 hz2 rfl A4 18 c4 _ rfl hb4.own _ rfl n (l.map bv) (hsl4.src under_bytes) (by simp only [maxLen]; omega) (by omega) hx2.size ?_; intro A5 c5 w5 hown hg _)
    have hb5 : Byt U8 w5 w.heap.size A5 (18 + n) c5 l4 := by
      have := Byt.more hb4.len hsl.len hown rfl
      rwa [H4.out] at this
    have hx5 : Ext w w5 := below_grown hx2 hb4.own hg hx2.size
    clear hown hg hb4 hx2
    refine (crc_Of' hb5.sl H5).mono ?_
    rintro e w6 ⟨rfl, rfl⟩
    go_wp2_with fail
    refine (bits_Put_loop A5 (18 + n) c5 l4 cr 4 _ hb5.sl (by omega) (by omega) (by omega) (by omega)).mono ?_
    rintro e w7 ⟨A7, c7, rfl, hb7, hx7⟩
    rw [H6.out] at hb7
    go_wp2_with fail
    go_ret2
    exact ⟨_, _, _, rfl, hb7.low hx5.size, hx5.trans hx7⟩
set_option maxHeartbeats 1000000 in
theorem ref_Lay {t s : Int} {A : Option Addr} {n c : Nat} {l : List UInt8} {w : World} (hsl : Sl w A n c l) {r : Bool} (hr : Hid (rightN t s n = r)) {L : List UInt8} (hL : Hid (layL t s n l = L)) :
    Calls Try.prog 67 #[enV t s A n c] w fun e w' => ∃ A' n' c', e = .returned (.tuple #[.slice A' n' c', .int .i64 (if r then 0 else 1)]) ∧ Byt U8 w' w.heap.size A' n' c' L ∧ Ext w w' := by
  have h63 := hsl.n63
  have HRC := ref_RightEntry t s A n c (w.alloc (.cells #[.int .i64 t, .int .i64 s, .slice A n c] 71)) h63.1
  rw [hr.out] at HRC
  have HR := Lib.hid HRC
  clear HRC
  cases r with
  | false =>
    obtain rfl : L = [] := by rw [← hL.out]; unfold layL; rw [hr.out]; rfl
    go_enter Try.func67, Try.ntmps67
    go_wp2_with fail
    refine HR.out.mono ?_
    rintro e w1 ⟨rfl, hx1⟩
    go_wp2_with fail
    go_ret2
    exact ⟨_, _, _, rfl, Byt.nil _ _ _ _, (Ext.alloc _ _).trans hx1⟩
  | true =>
    have hrn := rightN_iff.1 hr.out
    obtain ⟨t, rfl⟩ := Int.eq_ofNat_of_zero_le (by omega : 0 ≤ t)
    obtain ⟨s, rfl⟩ := Int.eq_ofNat_of_zero_le (by omega : 0 ≤ s)
    have hLe : L = layE t s l := by rw [← hL.out]; unfold layL; rw [hr.out]; rfl
    obtain ⟨l1, hl1⟩ : ∃ q, put magicL t 4 = q := ⟨_, rfl⟩
    obtain ⟨l2, hl2⟩ : ∃ q, put l1 s 8 = q := ⟨_, rfl⟩
    obtain ⟨l3, hl3⟩ : ∃ q, put l2 n 2 = q := ⟨_, rfl⟩
    obtain ⟨l4, hl4⟩ : ∃ q, l3 ++ l = q := ⟨_, rfl⟩
    have hLL : put l4 (crcOf l4) 4 = L := by
      rw [hLe]
      unfold layE headE
      rw [hsl.len, hl1, hl2, hl3, hl4]
    have hm4 : magicL.length = 4 := rfl
    have z1 : l1.length = 8 := by rw [← hl1, put, List.length_append, le_length]; rfl
    have z2 : l2.length = 16 := by rw [← hl2, put, List.length_append, le_length, z1]
    have z3 : l3.length = 18 := by rw [← hl3, put, List.length_append, le_length, z2]
    have Z := Lib.hid (And.intro z1 (And.intro z2 z3))
    have H1 : Hid (putI magicL t 4 = l1) := by unfold Hid; rw [← hl1]; rfl
    have H2 : Hid (putI l1 s 8 = l2) := by unfold Hid; rw [← hl2]; rfl
    have H3 : Hid (putI l2 n 2 = l3) := by unfold Hid; rw [← hl3]; rfl
    have H4 := Lib.hid hl4
    have H6 := Lib.hid hLL
    have hn90 : n ≤ 90 := hrn.2.2.2.2.2
    have ht30 : t ≤ 1073741824 := by omega
    have hs40 : s ≤ 1099511627776 := by omega
    obtain ⟨i0, hi0, hz0, hz1, hz2⟩ := info_parts info_u8
    clear hl1 hl2 hl3 hl4 hLL hr hL hLe hrn z1 z2 z3 hm4
    go_enter Try.func67, Try.ntmps67
    go_wp2_with fail
    refine HR.out.mono ?_
    rintro e w1 ⟨rfl, hx1⟩
    have hc0 : w1.cell? ⟨w.heap.size, 0, none⟩ = some (.int .i64 t) := hx1.cell (cell_newF _ _ _ _)
    have hc1 : w1.cell? ⟨w.heap.size, 1, none⟩ = some (.int .i64 s) := hx1.cell (cell_newF _ _ _ _)
    have hc2 : w1.cell? ⟨w.heap.size, 2, none⟩ = some (.slice A n c) := hx1.cell (cell_newF _ _ _ _)
    have hlt : w.heap.size < w1.heap.size := World.block_lt_of_cell? _ _ hc0
    have hx2 : Ext w w1 := (Ext.alloc w _).trans hx1
    clear hx1 HR
    go_wp2_with (at_builtin; refine wpList_append_mine _ rfl _ _ _ _ rfl w.heap.size U8 i0 _ 1 1 under_bytes hi0 hz0 hz1 hz2 rfl _ 0 0 _ rfl (Own.nil _ _ _ _ _) _ rfl 4 _ (Src.ofString _ under_str ⟨#[72, 71, 74, 69]⟩) (by simp only [maxLen]; omega) (by omega) (by simp; omega) ?_; intro A2 c2 w2 hown hg _)
    have hb2 : Byt U8 w2 w.heap.size A2 4 c2 magicL := ⟨rfl, hown⟩
    replace hg := grown_nil hg
    replace hg : Ext w1 w2 := (Ext.alloc w1 _).trans hg
    replace hc0 := hg.cell hc0
    replace hc1 := hg.cell hc1
    replace hc2 := hg.cell hc2
    replace hx2 := hx2.trans hg
    clear hg hown
    refine wp_region_typed2 (R := But w2.heap.size (fun _ => False)) Ext.steady (But.steady _ _) (fun _ _ => But.of_ext) rfl 29 rfl [0, 0, 2, 6, 15, 0, 32, 96, 255, 0, 512, 1536, 3584, 8191, 16383] 0 (by kernel_rfl) ?_
    apply Stage2.step (Is _) true [] true false (Is.keeps _) (fun _ => Is.keeps _) (by kernel_rfl)
    · intro w1 h1
      have h1 : Ext _ w1 := h1
      simp only [List.nil_append, List.cons_append, List.map_cons, List.map_nil, Given]
      go_wp2_with fail
      exact Post.isv (Ext.refl _) rfl rfl rfl
    apply Stage2.step (Is _) true [] true false (Is.keeps _) (fun _ => Is.keeps _) (by kernel_rfl)
    · intro w1 h1
      have h1 : Ext _ w1 := h1
      simp only [List.nil_append, List.cons_append, List.map_cons, List.map_nil, Given]
      go_wp2_with fail
      exact Post.isv (Ext.refl _) rfl rfl rfl
    apply Stage2.step (Is (.int .i64 t)) true [false, true] true false (Is.keeps _) (fun _ => Is.keeps _) (by kernel_rfl)
    · intro w1 h1
      have h1 : Ext _ w1 := h1
      simp only [List.nil_append, List.cons_append, List.map_cons, List.map_nil, Sp.pr, Given]
      rintro _ rfl
      have hq := h1.cell hc0
      go_wp2_with fail
      exact Post.isv (Ext.refl _) rfl rfl rfl
    apply Stage2.step (Is _) true [false, false, true] true false (Is.keeps _) (fun _ => Is.keeps _) (by kernel_rfl)
    · intro w1 h1
      have h1 : Ext _ w1 := h1
      simp only [List.nil_append, List.cons_append, List.map_cons, List.map_nil, Sp.pr, Given]
      rintro _ rfl
      go_wp2_with fail
      exact Post.isv (Ext.refl _) rfl rfl rfl
    apply Stage2.step (BytT U8 w2.heap.size l1) false [true, false, false, true] true false (BytT.keeps _ _ _) (no_keeps) (by kernel_rfl)
    · intro w1 h1
      have h1 : Ext _ w1 := h1
      simp only [List.nil_append, List.cons_append, List.map_cons, List.map_nil, Sp.pr, Given]
      rintro _ rfl
      rintro _ rfl
      go_wp2_with fail
      refine (ref_Put _ 4 _ magicL t 4 _ (hb2.sl.ext h1) (by omega) (by omega)).mono ?_
      rintro e w2 ⟨A3, n3, c3, rfl, h3, hx3⟩
      rw [H1.out] at h3
      go_wp2_with fail
      exact ⟨rfl, rfl, hx3, _, _, _, rfl, h3.low h1.size⟩
    apply Stage2.step (Is _) true [] true false (Is.keeps _) (fun _ => Is.keeps _) (by kernel_rfl)
    · intro w1 h1
      have h1 : Ext _ w1 := h1
      simp only [List.nil_append, List.cons_append, List.map_cons, List.map_nil, Given]
      go_wp2_with fail
      exact Post.isv (Ext.refl _) rfl rfl rfl
    apply Stage2.step (Is (.int .i64 s)) true [false, false, false, false, false, true] true false (Is.keeps _) (fun _ => Is.keeps _) (by kernel_rfl)
    · intro w1 h1
      have h1 : Ext _ w1 := h1
      simp only [List.nil_append, List.cons_append, List.map_cons, List.map_nil, Sp.pr, Given]
      rintro _ rfl
      have hq := h1.cell hc1
      go_wp2_with fail
      exact Post.isv (Ext.refl _) rfl rfl rfl
    apply Stage2.step (Is _) true [false, false, false, false, false, false, true] true false (Is.keeps _) (fun _ => Is.keeps _) (by kernel_rfl)
    · intro w1 h1
      have h1 : Ext _ w1 := h1
      simp only [List.nil_append, List.cons_append, List.map_cons, List.map_nil, Sp.pr, Given]
      rintro _ rfl
      go_wp2_with fail
      exact Post.isv (Ext.refl _) rfl rfl rfl
    apply Stage2.step (BytT U8 w2.heap.size l2) false [false, false, false, false, true, false, false, true] true false (BytT.keeps _ _ _) (no_keeps) (by kernel_rfl)
    · intro w1 h1
      have h1 : Ext _ w1 := h1
      simp only [List.nil_append, List.cons_append, List.map_cons, List.map_nil, Sp.pr, Given]
      rintro _ ⟨A3, n3, c3, rfl, h3⟩
      rintro _ rfl
      obtain rfl : n3 = 8 := by rw [← h3.len]; exact Z.out.1
      go_wp2_with fail
      refine (ref_Put _ _ _ l1 s 8 _ h3.sl (by omega) (by omega)).mono ?_
      rintro e w2 ⟨A4, n4, c4, rfl, h4, hx4⟩
      rw [H2.out] at h4
      go_wp2_with fail
      exact ⟨rfl, rfl, hx4, _, _, _, rfl, h4.low h1.size⟩
    apply Stage2.step (Is _) true [] true false (Is.keeps _) (fun _ => Is.keeps _) (by kernel_rfl)
    · intro w1 h1
      have h1 : Ext _ w1 := h1
      simp only [List.nil_append, List.cons_append, List.map_cons, List.map_nil, Given]
      go_wp2_with fail
      exact Post.isv (Ext.refl _) rfl rfl rfl
    apply Stage2.step (Is (.slice A n c)) true [false, false, false, false, false, false, false, false, false, true] true false (Is.keeps _) (fun _ => Is.keeps _) (by kernel_rfl)
    · intro w1 h1
      have h1 : Ext _ w1 := h1
      simp only [List.nil_append, List.cons_append, List.map_cons, List.map_nil, Sp.pr, Given]
      rintro _ rfl
      have hq := h1.cell hc2
      go_wp2_with fail
      exact Post.isv (Ext.refl _) rfl rfl rfl
    apply Stage2.step (Is _) true [false, false, false, false, false, false, false, false, false, false, true] true false (Is.keeps _) (fun _ => Is.keeps _) (by kernel_rfl)
    · intro w1 h1
      have h1 : Ext _ w1 := h1
      simp only [List.nil_append, List.cons_append, List.map_cons, List.map_nil, Sp.pr, Given]
      rintro _ rfl
      go_wp2_with fail
      exact Post.isv (Ext.refl _) rfl rfl rfl
    apply Stage2.step (Is _) true [false, false, false, false, false, false, false, false, false, false, false, true] true false (Is.keeps _) (fun _ => Is.keeps _) (by kernel_rfl)
    · intro w1 h1
      have h1 : Ext _ w1 := h1
      simp only [List.nil_append, List.cons_append, List.map_cons, List.map_nil, Sp.pr, Given]
      rintro _ rfl
      go_wp2_with fail
      exact Post.isv (Ext.refl _) rfl rfl rfl
    apply Stage2.step (BytT U8 w2.heap.size l3) false [false, false, false, false, false, false, false, false, true, false, false, false, true] true false (BytT.keeps _ _ _) (no_keeps) (by kernel_rfl)
    · intro w1 h1
      have h1 : Ext _ w1 := h1
      simp only [List.nil_append, List.cons_append, List.map_cons, List.map_nil, Sp.pr, Given]
      rintro _ ⟨A4, n4, c4, rfl, h4⟩
      rintro _ rfl
      obtain rfl : n4 = 16 := by rw [← h4.len]; exact Z.out.2.1
      go_wp2_with fail
      refine (ref_Put _ _ _ l2 n 2 _ h4.sl (by omega) (by omega)).mono ?_
      rintro e w2 ⟨A5, n5, c5, rfl, h5, hx5⟩
      rw [H3.out] at h5
      go_wp2_with fail
      exact ⟨rfl, rfl, hx5, _, _, _, rfl, h5.low h1.size⟩
    apply Stage2.step (BytT U8 w2.heap.size l3) false [false, false, false, false, false, false, false, false, false, false, false, false, false, true] true false (BytT.keeps _ _ _) (no_keeps) (by kernel_rfl)
    · intro w1 h1
      have h1 : Ext _ w1 := h1
      simp only [List.nil_append, List.cons_append, List.map_cons, List.map_nil, Sp.pr, Given]
      rintro v hcp
      go_wp2_with fail
      exact ⟨rfl, rfl, Ext.refl _, hcp⟩
    apply Stage2.nil [true, true, true, true, true, true, true, true, true, true, true, true, true, true, true] (by kernel_rfl)
    intro w1 h1
    have h1 : (Ext) _ w1 := h1
    simp only [List.nil_append, List.cons_append, List.map_cons, List.map_nil, Sp.pr]
    refine Fin2.is_ ?_
    refine Fin2.is_ ?_
    refine Fin2.is_ ?_
    refine Fin2.is_ ?_
    refine Fin2.step_ ?_
    rintro _ ⟨A3, n3, c3, rfl, h3⟩
    refine Fin2.is_ ?_
    refine Fin2.is_ ?_
    refine Fin2.is_ ?_
    refine Fin2.step_ ?_
    rintro _ ⟨A4, n4, c4, rfl, h4⟩
    refine Fin2.is_ ?_
    refine Fin2.is_ ?_
    refine Fin2.is_ ?_
    refine Fin2.is_ ?_
    refine Fin2.step_ ?_
    rintro _ ⟨A5, n5, c5, rfl, h5⟩
    refine Fin2.step_ ?_
    rintro _ ⟨A5, n5, c5, rfl, h5⟩
    refine Fin2.nil_ ?_
    go_simp
    obtain rfl : n5 = 18 := by rw [← h5.len]; exact Z.out.2.2
    replace hc0 := h1.cell hc0
    replace hc2 := h1.cell hc2
    have hlt2 := World.block_lt_of_cell? _ _ hc0
    have h6 := h5.low hx2.size
    have hx3 := hx2.trans h1
    have hsl4 := hsl.ext hx3
    clear h1 h5 hb2 hx2
    go_wp2_with (at_builtin; refine wpList_append_mine _ rfl _ _ _ _ rfl w.heap.size U8 i0 _ 1 1 under_bytes hi0 hz0 hz1 hz2 rfl A5 18 c5 _ rfl h6.own _ rfl n (l.map bv) (hsl4.src under_bytes) (by simp only [maxLen]; omega) (by omega) hx3.size ?_; intro A6 c6 w6 hown hg _)
    have hb6 : Byt U8 w6 w.heap.size A6 (18 + n) c6 l4 := by
      have := Byt.more h6.len hsl.len hown rfl
      rwa [H4.out] at this
    have hx6 : Ext w w6 := below_grown hx3 h6.own hg hx3.size
    clear hown hg h6 hx3
    refine (ref_Seal _ _ _ _ _ hb6.sl (by omega)).mono ?_
    rintro e w7 ⟨A7, n7, c7, rfl, hb7, hx7⟩
    rw [H6.out] at hb7
    go_wp2_with fail
    go_ret2
    exact ⟨_, _, _, rfl, hb7.low hx6.size, hx6.trans hx7⟩
end Go.Proofs.Ytoeknbogaclfdaa
