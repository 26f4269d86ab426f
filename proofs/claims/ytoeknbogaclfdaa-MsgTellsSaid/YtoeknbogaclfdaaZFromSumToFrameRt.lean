/-
  Contracts of package crc and of the reference's sums.
-/
/-
  May an entry be: plain. No program in sight.
-/
/-
  Frames as lists of bytes: what is laid, what is taken, and that the one is the other's way back. No program in sight.
-/
/-
  Entries: contracts of may, Right and of the reference's RightEntry; the entry's type.
-/
import Derived.Test.YtoeknbogaclfdaaZFromLePlainToTurnPlain
import Derived.Test.YtoeknbogaclfdaaZFromTextToGet
import Derived.Test.YtoeknbogaclfdaaZCore
namespace Go.Proofs.Ytoeknbogaclfdaa
open Go.RowKit
set_option linter.unusedVariables false
set_option linter.unusedSimpArgs false
set_option linter.unnecessarySimpa false
set_option maxRecDepth 100000
theorem crc_Next (c x : Nat) (w : World) (hc : c < 4294967296) (hx : x < 256) :
    Calls Try.prog 105 #[.int .u32 c, .int .u8 x] w fun e w' => e = .returned (.int .u32 (crcNext c x)) ∧ w = w' := by
  have h0 := xor_byte_lt hc hx
  have H0 := Lib.hid (u32_xor_nat c x hc (by omega))
  go_enter Try.func105, Try.ntmps105
  go_wp2
  go_loop [0, 10] (fun c' i => ∃ k : Nat, k ≤ 8 ∧ i = .int .i64 k ∧ c' = .int .u32 (crcSteps k (c ^^^ x))) (fun _ i => (8 - intOf i).toNat)
  case atStart => exact ⟨0, by omega, rfl, by rw [H0.out]; rfl⟩
  case round =>
    obtain ⟨k, hk, rfl, rfl⟩ := hrel
    have hl := crcSteps_lt k h0
    obtain ⟨q, hq⟩ : ∃ q, q = crcSteps k (c ^^^ x) := ⟨_, rfl⟩
    rw [← hq]
    rw [← hq] at hl
    have HQ : Hid (crcStep q = crcSteps (k + 1) (c ^^^ x)) := by rw [hq]; rfl
    have HQ0 := Lib.hid hq
    clear hq h0
    rcases Nat.mod_two_eq_zero_or_one q with h2 | h2
    · have h3 : (bits .and .u32 (q : Int) 1 == 1) = false := by rw [odd_and q hl, h2]; rfl
      have H4 := Lib.hid (crcStep_even h2)
      clear h2
      go_wp2
      · go_round
        case rel => exact ⟨k + 1, by omega, by go_num, by rw [← HQ.out, H4.out]; rfl⟩
        case measure => simp [intOf]; omega
      · obtain rfl : k = 8 := by omega
        go_ret
        exact ⟨by rw [HQ0.out]; rfl, rfl⟩
    · have h3 : (bits .and .u32 (q : Int) 1 == 1) = true := by rw [odd_and q hl, h2]; rfl
      have H4 := Lib.hid (crcStep_odd h2)
      have H5 := Lib.hid (xor_poly q hl)
      clear h2
      go_wp2
      · go_round
        case rel => exact ⟨k + 1, by omega, by go_num, by rw [← HQ.out, H4.out, H5.out]⟩
        case measure => simp [intOf]; omega
      · obtain rfl : k = 8 := by omega
        go_ret
        exact ⟨by rw [HQ0.out]; rfl, rfl⟩
theorem crc_Of (A : Option Addr) (n c : Nat) (l : List UInt8) (w : World) (h : Sl w A n c l) :
    Calls Try.prog 83 #[.slice A n c] w fun e w' => e = .returned (.int .u32 (crcOf l)) ∧ w = w' := by
  have hn := h.n63
  go_enter Try.func83, Try.ntmps83
  go_wp2
  go_loop [3, 8] (fun s i => ∃ k : Nat, k ≤ n ∧ i = .int .i64 k ∧ s = .int .u32 (crcRun 4294967295 (l.take k))) (fun _ i => (n - (intOf i).toNat))
  case atStart => exact ⟨0, by omega, rfl, rfl⟩
  case round =>
    obtain ⟨k, hk, rfl, rfl⟩ := hrel
    have hl := crcRun_lt (l.take k) (c := 4294967295) (by omega)
    obtain ⟨q, hq⟩ : ∃ q, q = crcRun 4294967295 (l.take k) := ⟨_, rfl⟩
    rw [← hq]
    rw [← hq] at hl
    have HQ := Lib.hid hq
    clear hq
    by_cases hlt : k < n
    · obtain ⟨ad, rfl, hcell⟩ := h.atD hlt
      have hb := (l.getD k 0).toNat_lt
      have HS : Hid (crcNext q (l.getD k 0).toNat = crcRun 4294967295 (l.take (k + 1))) := by rw [HQ.out]; exact (crcRun_take _ (by rw [h.len]; exact hlt)).symm
      obtain ⟨b, hb'⟩ : ∃ b, b = l.getD k 0 := ⟨_, rfl⟩
      rw [← hb'] at hcell hb HS
      clear hb'
      go_wp2_with (go_at_call 105; refine (crc_Next q b.toNat _ hl hb).mono ?_; rintro e w1 ⟨rfl, rfl⟩)
      go_round
      case rel => exact ⟨k + 1, by omega, by go_num, by rw [HS.out]⟩
      case measure => simp [intOf]; omega
    · go_wp2
      go_ret
      obtain rfl : k = n := by omega
      rw [HQ.out]
      refine ⟨?_, rfl⟩
      have hq' : crcRun 4294967295 l < 4294967296 := crcRun_lt l (by omega)
      have e : l.take k = l := List.take_of_length_le (by rw [h.len]; omega)
      simp only [e]
      exact congrArg (fun z => Ending.returned (Value.int IntKind.u32 z)) (not_u32 _ hq')
theorem crc_Of' {A : Option Addr} {n c : Nat} {l : List UInt8} {w : World} (h : Sl w A n c l) {q : Nat} (hq : Hid (crcOf l = q)) :
    Calls Try.prog 83 #[.slice A n c] w fun e w' => e = .returned (.int .u32 q) ∧ w = w' := by
  have := crc_Of A n c l w h
  rwa [hq.out] at this
theorem crc_Seal (A : Option Addr) (n c : Nat) (l : List UInt8) (w : World) (h : Sl w A n c l) (hn : n ≤ 1000000) :
    Calls Try.prog 47 #[.slice A n c] w fun e w' => ∃ A' c', e = .returned (.slice A' (n + 4) c') ∧ Byt U8 w' w.heap.size A' (n + 4) c' (put l (crcOf l) 4) ∧ Ext w w' := by
  have hl := crcOf_lt l
  go_enter Try.func47, Try.ntmps47
  go_wp2_with fail
  refine (crc_Of A n c l _ h).mono ?_
  rintro e w1 ⟨rfl, rfl⟩
  go_wp2_with fail
  refine (bits_Put_loop A n c l (crcOf l) 4 _ h hn (by omega) (by omega) (by omega)).mono ?_
  rintro e w1 ⟨A1, c1, rfl, hb, hx⟩
  go_wp2_with fail
  go_ret
  exact ⟨_, _, rfl, hb, hx⟩
theorem crc_Open_no (A : Option Addr) (n c : Nat) (l : List UInt8) (w : World) (h : Sl w A n c l) (hn : n < 4) :
    Calls Try.prog 48 #[.slice A n c] w fun e w' => e = .returned (.tuple #[.slice none 0 0, .bool false]) ∧ w = w' := by
  go_enter Try.func48, Try.ntmps48
  go_wp2
  go_ret2
  exact ⟨rfl, rfl⟩
set_option maxHeartbeats 400000 in
theorem crc_Open (A : Option Addr) (n c : Nat) (l : List UInt8) (w : World) (hsl : Sl w A n c l) (hn : 4 ≤ n) (hn' : n ≤ 1000000) :
    Calls Try.prog 48 #[.slice A n c] w fun e w' => ∃ A' n' c', e = .returned (.tuple #[.slice A' n' c', .bool (crcOpen l).isSome]) ∧ Byt U8 w' w.heap.size A' n' c' ((crcOpen l).getD []) ∧ Ext w w' := by
  have h63 := hsl.n63
  obtain ⟨m, rfl⟩ : ∃ m, n = m + 4 := ⟨n - 4, by omega⟩
  have hcap := hsl.cap
  have hcm : ¬ c = m := by omega
  have hcr := crcOf_lt (l.take m)
  obtain ⟨r, hr⟩ : ∃ r, r = crcOpen l := ⟨_, rfl⟩
  rw [← hr]
  obtain ⟨q, hq⟩ : ∃ q, q = crcOf (l.take m) := ⟨_, rfl⟩
  rw [← hq] at hcr
  obtain ⟨b, hb⟩ : ∃ b, b = (l.drop m == put [] q 4) := ⟨_, rfl⟩
  have hres : r = if b then some (l.take m) else none := by
    have e : l.length - 4 = m := by rw [hsl.len]; omega
    rw [hr, hb]
    unfold crcOpen
    rw [e, ← hq]
    by_cases h1 : l.drop m = le 4 q
    · rw [if_pos ⟨by rw [hsl.len]; omega, h1⟩]
      simp [put, h1]
    · rw [if_neg (fun h => h1 h.2)]
      simp [put, h1]
  have HQ := Lib.hid hq
  have HB := Lib.hid hb
  have HR := Lib.hid hres
  clear hr hq hb hres
  go_enter Try.func48, Try.ntmps48
  go_wp2_with fail
  refine wp_region_typed Ext.steady rfl 25 rfl (by kernel_rfl) ?_
  apply Stage.step (Is _) [] (Is.keeps _) (by kernel_rfl)
  · intro w1 h1
    simp only [Given]
    go_wp2_with fail
    exact Post.isv (Ext.refl _) rfl rfl rfl
  apply Stage.step (Is _) [] (Is.keeps _) (by kernel_rfl)
  · intro w1 h1
    simp only [Given]
    go_wp2_with fail
    exact Post.isv (Ext.refl _) rfl rfl rfl
  apply Stage.step (SlT (l.drop m)) [true, true] (SlT.keeps _) (by kernel_rfl)
  · intro w1 h1
    simp only [List.nil_append, List.cons_append, Given]
    rintro _ rfl
    rintro _ rfl
    go_wp2_with fail
    refine ⟨rfl, rfl, Ext.refl _, _, _, _, rfl, ?_⟩
    have := (hsl.ext h1).cut (lo := m) (hi := m + 4) (by omega) (by omega)
    rw [List.take_of_length_le (by rw [List.length_drop, hsl.len]; omega)] at this
    simpa [hcm] using this
  apply Stage.step (Is _) [] (Is.keeps _) (by kernel_rfl)
  · intro w1 h1
    simp only [Given]
    go_wp2_with fail
    exact Post.isv (Ext.refl _) rfl rfl rfl
  apply Stage.step (Is _) [] (Is.keeps _) (by kernel_rfl)
  · intro w1 h1
    simp only [Given]
    go_wp2_with fail
    exact Post.isv (Ext.refl _) rfl rfl rfl
  apply Stage.step (SlT (l.take m)) [false, false, false, true, true] (SlT.keeps _) (by kernel_rfl)
  · intro w1 h1
    simp only [List.nil_append, List.cons_append, Given]
    rintro _ rfl
    rintro _ rfl
    go_wp2_with fail
    exact ⟨rfl, rfl, Ext.refl _, _, _, _, rfl, (hsl.ext h1).upto (by omega)⟩
  apply Stage.step (Is (.int .u32 q)) [false, false, false, false, false, true] (Is.keeps _) (by kernel_rfl)
  · intro w1 h1
    simp only [List.nil_append, List.cons_append, Given]
    rintro _ ⟨A4, n4, c4, rfl, h4⟩
    go_wp2_with fail
    refine (crc_Of _ _ _ _ _ h4).mono ?_
    rintro e w2 ⟨rfl, rfl⟩
    rw [← HQ.out]
    go_wp2_with fail
    exact Post.isv (Ext.refl _) rfl rfl rfl
  apply Stage.step (Is _) [false, false, false, false, false, false, true] (Is.keeps _) (by kernel_rfl)
  · intro w1 h1
    simp only [List.nil_append, List.cons_append, Given]
    rintro _ rfl
    go_wp2_with fail
    exact Post.isv (Ext.refl _) rfl rfl rfl
  apply Stage.step (BytT U8 w.heap.size (put [] q 4)) [false, false, false, false, false, false, false, true] (BytT.keeps _ _ _) (by kernel_rfl)
  · intro w1 h1
    simp only [List.nil_append, List.cons_append, Given]
    rintro _ rfl
    go_wp2_with fail
    refine (bits_Put_loop _ 0 _ _ q 4 _ (Sl.nil _) (by omega) (by omega) (by omega) (by omega)).mono ?_
    rintro e w2 ⟨A5, c5, rfl, h5, hx5⟩
    go_wp2_with fail
    exact ⟨rfl, rfl, hx5, _, _, _, rfl, h5.low h1.size⟩
  apply Stage.step (Is (.bool b)) [false, false, true, false, false, false, false, false, true] (Is.keeps _) (by kernel_rfl)
  · intro w1 h1
    simp only [List.nil_append, List.cons_append, Given]
    rintro _ ⟨A3, n3, c3, rfl, h3⟩
    rintro _ ⟨A5, n5, c5, rfl, h5⟩
    go_wp2_with fail
    refine (bytes_Equal _ _ _ _ _ _ _ _ _ h3 h5.sl).mono ?_
    rintro e w2 ⟨rfl, rfl⟩
    rw [← HB.out]
    go_wp2_with fail
    exact Post.isv (Ext.refl _) rfl rfl rfl
  apply Stage.step (Is _) [false, false, false, false, false, false, false, false, false, true] (Is.keeps _) (by kernel_rfl)
  · intro w1 h1
    simp only [List.nil_append, List.cons_append, Given]
    rintro _ rfl
    go_wp2_with fail
    exact Post.isv (Ext.refl _) rfl rfl rfl
  apply Stage.nil
  intro w1 h1
  simp only [List.nil_append, List.cons_append]
  refine Fin.is_ ?_
  refine Fin.is_ ?_
  refine Fin.step_ ?_
  rintro _ ⟨A3, n3, c3, rfl, h3⟩
  refine Fin.is_ ?_
  refine Fin.is_ ?_
  refine Fin.step_ ?_
  rintro _ ⟨A4, n4, c4, rfl, h4⟩
  refine Fin.is_ ?_
  refine Fin.is_ ?_
  refine Fin.step_ ?_
  rintro _ ⟨A5, n5, c5, rfl, h5⟩
  refine Fin.is_ ?_
  refine Fin.is_ ?_
  refine Fin.nil_ ?_
  go_simp
  cases b
  · go_wp2
    go_ret2
    exact ⟨_, _, _, by rw [HR.out]; rfl, by rw [HR.out]; exact Byt.nil _ _ _ _, h1⟩
  · have hcl := (hsl.ext h1).upto (hi := m) (by omega)
    go_wp2_with (go_at_call 80; refine (slices_Clone A m c _ _ hcl (by omega)).mono ?_; rintro e w2 ⟨A6, c6, rfl, h6, hx6⟩)
    go_ret2
    exact ⟨_, _, _, by rw [HR.out]; rfl, by rw [HR.out]; exact h6.low h1.size, h1.trans hx6⟩
theorem crc_Open_any (A : Option Addr) (n c : Nat) (l : List UInt8) (w : World) (hsl : Sl w A n c l) (hn' : n ≤ 1000000) {r : Option (List UInt8)} (hr : Hid (crcOpen l = r)) :
    Calls Try.prog 48 #[.slice A n c] w fun e w' => ∃ A' n' c', e = .returned (.tuple #[.slice A' n' c', .bool r.isSome]) ∧ Byt U8 w' w.heap.size A' n' c' (r.getD []) ∧ Ext w w' := by
  by_cases h : n < 4
  · refine (crc_Open_no A n c l w hsl h).mono ?_
    rintro e w' ⟨rfl, rfl⟩
    have hrn : r = none := by rw [← hr.out]; exact crcOpen_short (by rw [hsl.len]; exact h)
    subst hrn
    exact ⟨_, _, _, rfl, Byt.nil _ _ _ _, Ext.refl _⟩
  · have := crc_Open A n c l w hsl (by omega) hn'
    rwa [hr.out] at this
theorem ref_Next (c x : Nat) (w : World) (hc : c < 4294967296) (hx : x < 256) :
    Calls Try.prog 88 #[.int .u32 c, .int .u8 x] w fun e w' => e = .returned (.int .u32 (crcNext c x)) ∧ w = w' := by
  have h0 := xor_byte_lt hc hx
  have H0 := Lib.hid (u32_xor_nat c x hc (by omega))
  go_enter Try.func88, Try.ntmps88
  go_wp2
  go_loop [0, 5] (fun c' i => ∃ k : Nat, k ≤ 8 ∧ i = .int .i64 k ∧ c' = .int .u32 (crcSteps k (c ^^^ x))) (fun _ i => (8 - intOf i).toNat)
  case atStart => exact ⟨0, by omega, rfl, by rw [H0.out]; rfl⟩
  case round =>
    obtain ⟨k, hk, rfl, rfl⟩ := hrel
    have hl := crcSteps_lt k h0
    obtain ⟨q, hq⟩ : ∃ q, q = crcSteps k (c ^^^ x) := ⟨_, rfl⟩
    rw [← hq]
    rw [← hq] at hl
    have HQ : Hid (crcStep q = crcSteps (k + 1) (c ^^^ x)) := by rw [hq]; rfl
    have HQ0 := Lib.hid hq
    clear hq h0
    rcases Nat.mod_two_eq_zero_or_one q with h2 | h2
    · have h3 : (bits .and .u32 (q : Int) 1 == 1) = false := by rw [odd_and q hl, h2]; rfl
      have H4 := Lib.hid (crcStep_even h2)
      clear h2
      go_wp2
      · go_round
        case rel => exact ⟨k + 1, by omega, by go_num, by rw [← HQ.out, H4.out]; rfl⟩
        case measure => simp [intOf]; omega
      · obtain rfl : k = 8 := by omega
        go_ret
        exact ⟨by rw [HQ0.out]; rfl, rfl⟩
    · have h3 : (bits .and .u32 (q : Int) 1 == 1) = true := by rw [odd_and q hl, h2]; rfl
      have H4 := Lib.hid (crcStep_odd h2)
      have H5 := Lib.hid (xor_poly q hl)
      clear h2
      go_wp2
      · go_round
        case rel => exact ⟨k + 1, by omega, by go_num, by rw [← HQ.out, H4.out, H5.out]⟩
        case measure => simp [intOf]; omega
      · obtain rfl : k = 8 := by omega
        go_ret
        exact ⟨by rw [HQ0.out]; rfl, rfl⟩
theorem ref_Of (A : Option Addr) (n c : Nat) (l : List UInt8) (w : World) (h : Sl w A n c l) :
    Calls Try.prog 54 #[.slice A n c] w fun e w' => e = .returned (.int .u32 (crcOf l)) ∧ w = w' := by
  have hn := h.n63
  go_enter Try.func54, Try.ntmps54
  go_wp2
  go_loop [3, 4] (fun s i => ∃ k : Nat, k ≤ n ∧ i = .int .i64 k ∧ s = .int .u32 (crcRun 4294967295 (l.take k))) (fun _ i => (n - (intOf i).toNat))
  case atStart => exact ⟨0, by omega, rfl, rfl⟩
  case round =>
    obtain ⟨k, hk, rfl, rfl⟩ := hrel
    have hl := crcRun_lt (l.take k) (c := 4294967295) (by omega)
    obtain ⟨q, hq⟩ : ∃ q, q = crcRun 4294967295 (l.take k) := ⟨_, rfl⟩
    rw [← hq]
    rw [← hq] at hl
    have HQ := Lib.hid hq
    clear hq
    by_cases hlt : k < n
    · obtain ⟨ad, rfl, hcell⟩ := h.atD hlt
      have hb := (l.getD k 0).toNat_lt
      have HS : Hid (crcNext q (l.getD k 0).toNat = crcRun 4294967295 (l.take (k + 1))) := by rw [HQ.out]; exact (crcRun_take _ (by rw [h.len]; exact hlt)).symm
      obtain ⟨b, hb'⟩ : ∃ b, b = l.getD k 0 := ⟨_, rfl⟩
      rw [← hb'] at hcell hb HS
      clear hb'
      go_wp2_with (go_at_call 88; refine (ref_Next q b.toNat _ hl hb).mono ?_; rintro e w1 ⟨rfl, rfl⟩)
      go_round
      case rel => exact ⟨k + 1, by omega, by go_num, by rw [HS.out]⟩
      case measure => simp [intOf]; omega
    · go_wp2
      go_ret
      obtain rfl : k = n := by omega
      rw [HQ.out]
      refine ⟨?_, rfl⟩
      have hq' : crcRun 4294967295 l < 4294967296 := crcRun_lt l (by omega)
      have e : l.take k = l := List.take_of_length_le (by rw [h.len]; omega)
      simp only [e]
      exact congrArg (fun z => Ending.returned (Value.int IntKind.u32 z)) (not_u32 _ hq')
theorem ref_Seal (A : Option Addr) (n c : Nat) (l : List UInt8) (w : World) (h : Sl w A n c l) (hn : n ≤ 1000000) :
    Calls Try.prog 16 #[.slice A n c] w fun e w' => ∃ A' n' c', e = .returned (.slice A' n' c') ∧ Byt U8 w' w.heap.size A' n' c' (put l (crcOf l) 4) ∧ Ext w w' := by
  have hl := crcOf_lt l
  go_enter Try.func16, Try.ntmps16
  go_wp2_with fail
  refine (ref_Of A n c l _ h).mono ?_
  rintro e w1 ⟨rfl, rfl⟩
  go_wp2_with fail
  refine (ref_Put A n c l (crcOf l) 4 _ h hn (by omega)).mono ?_
  rintro e w1 ⟨A1, n1, c1, rfl, hb, hx⟩
  go_wp2_with fail
  go_ret
  exact ⟨_, _, _, rfl, by simpa [putI] using hb, hx⟩
theorem ref_Open_no (A : Option Addr) (n c : Nat) (l : List UInt8) (w : World) (h : Sl w A n c l) (hn : n < 4) :
    Calls Try.prog 62 #[.slice A n c] w fun e w' => e = .returned (.tuple #[.slice none 0 0, .bool false]) ∧ w = w' := by
  go_enter Try.func62, Try.ntmps62
  go_wp2
  go_ret2
  exact ⟨rfl, rfl⟩
set_option maxHeartbeats 400000 in
theorem ref_Open (A : Option Addr) (n c : Nat) (l : List UInt8) (w : World) (hsl : Sl w A n c l) (hn : 4 ≤ n) (hn' : n ≤ 1000000) :
    Calls Try.prog 62 #[.slice A n c] w fun e w' => ∃ A' n' c', e = .returned (.tuple #[.slice A' n' c', .bool (crcOpen l).isSome]) ∧ Byt U8 w' w.heap.size A' n' c' ((crcOpen l).getD []) ∧ Ext w w' := by
  have h63 := hsl.n63
  obtain ⟨m, rfl⟩ : ∃ m, n = m + 4 := ⟨n - 4, by omega⟩
  have hcap := hsl.cap
  obtain ⟨i0, hi0, hz0, hz1, hz2⟩ := info_parts info_u8
  have hcr := crcOf_lt (l.take m)
  obtain ⟨r, hr⟩ : ∃ r, r = crcOpen l := ⟨_, rfl⟩
  rw [← hr]
  obtain ⟨q, hq⟩ : ∃ q, q = crcOf (l.take m) := ⟨_, rfl⟩
  rw [← hq] at hcr
  have hlen : (l.drop m).length = 4 := by rw [List.length_drop, hsl.len]; omega
  obtain ⟨g, hg⟩ : ∃ g, g = unle (l.drop m) := ⟨_, rfl⟩
  have hgl : g < 4294967296 := by have := unle_lt (l.drop m); rw [hlen] at this; rw [hg]; exact this
  have hres : r = if g = q then some (l.take m) else none := by
    have e : l.length - 4 = m := by rw [hsl.len]; omega
    rw [hr]
    unfold crcOpen
    rw [e, ← hq]
    have hi := le_inj hlen (n := q) (by omega)
    by_cases h1 : g = q
    · rw [if_pos ⟨by rw [hsl.len]; omega, hi.2 (by rw [← hg]; exact h1)⟩, if_pos h1]
    · rw [if_neg (fun h => h1 (by rw [hg]; exact hi.1 h.2)), if_neg h1]
  have hget : unle ((l.drop m).take 4) = g := by rw [List.take_of_length_le (by omega), hg]
  have HG := Lib.hid hget
  have HQ := Lib.hid hq
  have HR := Lib.hid hres
  clear hr hq hres hg hget hlen
  go_enter Try.func62, Try.ntmps62
  go_wp2_with fail
  refine (ref_Get_yes A (m + 4) c l m 4 _ hsl (by omega) (by omega) (by omega)).mono ?_
  rintro e w1 ⟨rfl, rfl⟩
  rw [HG.out]
  go_wp2_with fail
  refine (ref_Of _ _ _ _ _ (hsl.upto (hi := m) (by omega))).mono ?_
  rintro e w1 ⟨rfl, rfl⟩
  rw [← HQ.out]
  by_cases he : g = q
  · have HR2 : Hid (r = some (l.take m)) := by rw [HR.out, if_pos he]; rfl
    subst he
    go_wp2_with (at_builtin; refine wpList_append_mine _ rfl _ _ _ _ rfl w.heap.size U8 i0 _ 1 1 under_bytes hi0 hz0 hz1 hz2 rfl _ 0 0 [] rfl (Own.nil _ _ _ _ _) _ rfl m ((l.take m).map bv) (((hsl.upto (hi := m) (by omega)).ext (Ext.alloc _ _)).src under_bytes) (by simp only [maxLen]; omega) (by omega) (by simp) ?_; intro A1 c1 w1 hown hg _)
    have hlen : (l.take m).length = m := (hsl.upto (hi := m) (by omega)).len
    have hb1 : Byt U8 w1 w.heap.size A1 m c1 (l.take m) := ⟨hlen, by simpa using hown⟩
    have hx1 : Ext w w1 := below_grown (Ext.alloc w _) (Own.nil _ _ U8 1 _) hg (by simp)
    go_ret2
    exact ⟨_, _, _, by rw [HR2.out]; rfl, by rw [HR2.out]; exact hb1, hx1⟩
  · have HR2 : Hid (r = none) := by rw [HR.out, if_neg he]; rfl
    have hne : (((g : Nat) : Int) != (q : Int)) = true := by simp; omega
    clear he
    go_wp2
    go_ret2
    exact ⟨_, _, _, by rw [HR2.out]; rfl, by rw [HR2.out]; exact Byt.nil _ _ _ _, Ext.refl _⟩
theorem ref_Open_any (A : Option Addr) (n c : Nat) (l : List UInt8) (w : World) (hsl : Sl w A n c l) (hn' : n ≤ 1000000) {r : Option (List UInt8)} (hr : Hid (crcOpen l = r)) :
    Calls Try.prog 62 #[.slice A n c] w fun e w' => ∃ A' n' c', e = .returned (.tuple #[.slice A' n' c', .bool r.isSome]) ∧ Byt U8 w' w.heap.size A' n' c' (r.getD []) ∧ Ext w w' := by
  by_cases h : n < 4
  · refine (ref_Open_no A n c l w hsl h).mono ?_
    rintro e w' ⟨rfl, rfl⟩
    have hrn : r = none := by rw [← hr.out]; exact crcOpen_short (by rw [hsl.len]; exact h)
    subst hrn
    exact ⟨_, _, _, rfl, Byt.nil _ _ _ _, Ext.refl _⟩
  · have := ref_Open A n c l w hsl (by omega) hn'
    rwa [hr.out] at this
end Go.Proofs.Ytoeknbogaclfdaa

namespace Go.Proofs.Ytoeknbogaclfdaa
def rightN (t s : Int) (n : Nat) : Bool := decide (1 ≤ t ∧ t ≤ 1073741824 ∧ 1 ≤ s ∧ s ≤ 1099511627776 ∧ 1 ≤ n ∧ n ≤ 90)
theorem rightN_iff {t s : Int} {n : Nat} : rightN t s n = true ↔ 1 ≤ t ∧ t ≤ 1073741824 ∧ 1 ≤ s ∧ s ≤ 1099511627776 ∧ 1 ≤ n ∧ n ≤ 90 := by unfold rightN; simp
end Go.Proofs.Ytoeknbogaclfdaa

namespace Go.Proofs.Ytoeknbogaclfdaa
set_option linter.unusedVariables false
set_option linter.unusedSimpArgs false
def magicL : List UInt8 := [72, 71, 74, 69]
def headE (t s : Nat) (l : List UInt8) : List UInt8 := put (put (put magicL t 4) s 8) l.length 2 ++ l
def layE (t s : Nat) (l : List UInt8) : List UInt8 := put (headE t s l) (crcOf (headE t s l)) 4
theorem headE_length (t s : Nat) (l : List UInt8) : (headE t s l).length = 18 + l.length := by
  unfold headE put magicL
  simp [le_length]
  omega
theorem layE_length (t s : Nat) (l : List UInt8) : (layE t s l).length = 22 + l.length := by
  unfold layE put
  rw [List.length_append, headE_length, le_length]
  omega
def tkT (r : List UInt8) : Nat := unle ((r.drop 4).take 4)
def tkS (r : List UInt8) : Nat := unle ((r.drop 8).take 8)
def tkN (r : List UInt8) : Nat := unle ((r.drop 16).take 2)
def tkD (r : List UInt8) : List UInt8 := (r.drop 18).take (tkN r)
def tkFit (r : List UInt8) : Bool := rightN (tkT r) (tkS r) (tkN r) && decide (tkN r + 22 ≤ r.length)
def tkSum (r : List UInt8) : Bool := decide (unle ((r.drop (18 + tkN r)).take 4) = crcOf (r.take (18 + tkN r)))
def tkE (r : List UInt8) : Nat := if r.length = 0 then 4 else if r.length < 22 ∨ r.take 4 ≠ magicL then 2 else if tkFit r = false then 2 else if tkSum r = false then 13 else 0
theorem tkE_ok {r : List UInt8} : tkE r = 0 ↔ 22 ≤ r.length ∧ r.take 4 = magicL ∧ tkFit r = true ∧ tkSum r = true := by
  unfold tkE
  by_cases h0 : r.length = 0
  · rw [if_pos h0]; constructor <;> intro h <;> omega
  rw [if_neg h0]
  by_cases h1 : r.length < 22 ∨ r.take 4 ≠ magicL
  · rw [if_pos h1]
    constructor
    · intro h; omega
    · rintro ⟨a, b, _⟩
      rcases h1 with h1 | h1
      · omega
      · exact absurd b h1
  rw [if_neg h1]
  have h2 : 22 ≤ r.length ∧ r.take 4 = magicL := by
    constructor
    · omega
    · by_cases h : r.take 4 = magicL
      · exact h
      · exact absurd (.inr h) h1
  cases tkFit r <;> cases tkSum r <;> simp [h2]
theorem tkFit_iff {r : List UInt8} : tkFit r = true ↔ rightN (tkT r) (tkS r) (tkN r) = true ∧ tkN r + 22 ≤ r.length := by unfold tkFit; simp
theorem unle_small {l : List UInt8} {k : Nat} (h : l.length ≤ k) : unle l < 256 ^ k := Nat.lt_of_lt_of_le (unle_lt l) (Nat.pow_le_pow_right (by omega) h)
theorem tkN_lt (r : List UInt8) : tkN r < 65536 := unle_small (k := 2) (by rw [List.length_take]; omega)
theorem mid {a b c : List UInt8} {i j : Nat} (hi : i = a.length) (hj : j = b.length) : ((a ++ (b ++ c)).drop i).take j = b := by
  subst hi hj
  rw [List.drop_left, List.take_left]
theorem layE_parts (t s : Nat) (l r : List UInt8) : layE t s l ++ r = magicL ++ (le 4 t ++ (le 8 s ++ (le 2 l.length ++ (l ++ (le 4 (crcOf (headE t s l)) ++ r))))) := by
  unfold layE put
  conv => lhs; arg 1; arg 1; unfold headE put
  simp only [List.append_assoc]
theorem lay_fields (t s : Nat) (l r : List UInt8) (ht : t < 4294967296) (hs : s < 18446744073709551616) (hl : l.length < 65536) :
    (layE t s l ++ r).take 4 = magicL ∧ tkT (layE t s l ++ r) = t ∧ tkS (layE t s l ++ r) = s ∧ tkN (layE t s l ++ r) = l.length := by
  have e := layE_parts t s l r
  have a1 : (magicL ++ le 4 t).length = 8 := by simp [le_length, magicL]
  have a2 : (magicL ++ (le 4 t ++ le 8 s)).length = 16 := by simp [le_length, magicL]
  unfold tkT tkS tkN
  rw [e]
  refine ⟨by rw [show (4 : Nat) = magicL.length from rfl, List.take_left], ?_, ?_, ?_⟩
  · rw [mid (i := 4) (j := 4) (a := magicL) (b := le 4 t) rfl (le_length _ _).symm, unle_le, Nat.mod_eq_of_lt ht]
  · rw [← List.append_assoc, mid (i := 8) (j := 8) (b := le 8 s) a1.symm (le_length _ _).symm, unle_le, Nat.mod_eq_of_lt hs]
  · have e2 : magicL ++ (le 4 t ++ (le 8 s ++ (le 2 l.length ++ (l ++ (le 4 (crcOf (headE t s l)) ++ r))))) = (magicL ++ (le 4 t ++ le 8 s)) ++ (le 2 l.length ++ (l ++ (le 4 (crcOf (headE t s l)) ++ r))) := by simp only [List.append_assoc]
    rw [e2, mid (i := 16) (j := 2) (b := le 2 l.length) a2.symm (le_length _ _).symm, unle_le, Nat.mod_eq_of_lt hl]
theorem headE_parts (t s : Nat) (l : List UInt8) : headE t s l = (magicL ++ (le 4 t ++ (le 8 s ++ le 2 l.length))) ++ l := by
  unfold headE put
  simp only [List.append_assoc]
theorem take_lay (t s : Nat) (l r : List UInt8) (h : rightN t s l.length = true) :
    tkE (layE t s l ++ r) = 0 ∧ tkT (layE t s l ++ r) = t ∧ tkS (layE t s l ++ r) = s ∧ tkN (layE t s l ++ r) = l.length ∧ tkD (layE t s l ++ r) = l := by
  have hr := rightN_iff.1 h
  obtain ⟨h1, h2, h3, h4⟩ := lay_fields t s l r (by omega) (by omega) (by omega)
  have hlen : (layE t s l ++ r).length = 22 + l.length + r.length := by rw [List.length_append, layE_length]
  have hh := headE_length t s l
  have a3 : (magicL ++ (le 4 t ++ (le 8 s ++ le 2 l.length))).length = 18 := by simp [le_length, magicL]
  have e3 : layE t s l ++ r = headE t s l ++ (le 4 (crcOf (headE t s l)) ++ r) := by unfold layE put; rw [List.append_assoc]
  refine ⟨tkE_ok.2 ⟨by omega, h1, tkFit_iff.2 ⟨by rw [h2, h3, h4]; exact h, by omega⟩, ?_⟩, h2, h3, h4, ?_⟩
  · unfold tkSum
    rw [h4, e3, decide_eq_true_eq, mid (i := 18 + l.length) (j := 4) (b := le 4 (crcOf (headE t s l))) hh.symm (le_length _ _).symm, ← hh, List.take_left, unle_le, Nat.mod_eq_of_lt (crcOf_lt _)]
  · unfold tkD
    rw [h4, e3, headE_parts, List.append_assoc, List.append_assoc]
    exact mid a3.symm rfl
theorem open_sum {r : List UInt8} (h : tkN r + 22 ≤ r.length) : crcOpen (r.take (tkN r + 22)) = if tkSum r then some (r.take (18 + tkN r)) else none := by
  have hl : (r.take (tkN r + 22)).length = tkN r + 22 := by rw [List.length_take]; omega
  have e1 : tkN r + 22 - 4 = 18 + tkN r := by omega
  unfold crcOpen tkSum
  rw [hl, e1, List.take_take, Nat.min_eq_left (by omega), List.drop_take, show tkN r + 22 - (18 + tkN r) = 4 by omega]
  have lc : ((r.drop (18 + tkN r)).take 4).length = 4 := by rw [List.length_take, List.length_drop]; omega
  have hi := le_inj lc (n := crcOf (r.take (18 + tkN r))) (by have := crcOf_lt (r.take (18 + tkN r)); omega)
  by_cases hq : unle ((r.drop (18 + tkN r)).take 4) = crcOf (r.take (18 + tkN r))
  · rw [if_pos ⟨by omega, hi.2 hq⟩]; simp [hq]
  · rw [if_neg (fun h => hq (hi.1 h.2))]; simp [hq]
end Go.Proofs.Ytoeknbogaclfdaa

namespace Go.Proofs.Ytoeknbogaclfdaa
open Go.RowKit
set_option linter.unusedVariables false
set_option linter.unusedSimpArgs false
set_option linter.unnecessarySimpa false
set_option maxRecDepth 100000
theorem ret_boolF {a b : Bool} (h : a = b) : Ending.returned (.bool a) = .returned (.bool b) := by rw [h]
theorem ret_intF {k : IntKind} {a b : Int} (h : a = b) : Ending.returned (.int k a) = .returned (.int k b) := by rw [h]
abbrev TEn : TypeId := 71
theorem info_en : (Try.prog.info? TEn).map (fun i => (i.zero, i.size, i.bytes)) = some (some (.agg #[.int .i64 0, .int .i64 0, .slice none 0 0]), 3, 40) := by kernel_rfl
theorem under_ens : Try.prog.underlying 26 = some (.slice TEn) := by kernel_rfl
theorem pts_en {t s : Int} {A : Option Addr} {n c k : Nat} (h : Pts [.int .i64 t, .int .i64 s, .slice A n c] k) : ∃ ad, A = some ad ∧ 0 < n ∧ ad.block = k :=
  pts_slice h (by intro ad m c' hm; simp at hm; exact ⟨hm.1.symm, hm.2.1⟩)
theorem frame_may (t s n : Nat) (w : World) :
    Calls Try.prog 104 #[.int .u64 t, .int .u64 s, .int .u64 n] w fun e w' => e = .returned (.bool (rightN t s n)) ∧ w = w' := by
  go_enter Try.func104, Try.ntmps104
  go_wp2
  all_goals (go_ret; refine ⟨ret_boolF ?_, rfl⟩; unfold rightN; rw [Bool.eq_iff_iff]; simp <;> omega)
abbrev enV (t s : Int) (A : Option Addr) (n c : Nat) : Value := .agg #[.int .i64 t, .int .i64 s, .slice A n c]
theorem frame_Right (t s : Int) (A : Option Addr) (n c : Nat) (w : World) (hn : n ≤ 9223372036854775807) (ht : t ≤ 9223372036854775807) (hs : s ≤ 9223372036854775807) :
    Calls Try.prog 81 #[enV t s A n c] w fun e w' => e = .returned (.bool (rightN t s n)) ∧ Ext w w' := by
  by_cases h1 : 1 ≤ t
  · by_cases h2 : 1 ≤ s
    · obtain ⟨a, rfl⟩ := Int.eq_ofNat_of_zero_le (by omega : 0 ≤ t)
      obtain ⟨b, rfl⟩ := Int.eq_ofNat_of_zero_le (by omega : 0 ≤ s)
      go_enter Try.func81, Try.ntmps81
      go_wp2_with fail
      refine (frame_may a b n _).mono ?_
      rintro e w1 ⟨rfl, rfl⟩
      go_wp2_with fail
      go_ret
      exact ⟨rfl, Ext.alloc _ _⟩
    · have hr : rightN t s n = false := by unfold rightN; simp; omega
      rw [hr]
      go_enter Try.func81, Try.ntmps81
      go_wp2_with fail
      go_ret
      exact ⟨rfl, Ext.alloc _ _⟩
  · have hr : rightN t s n = false := by unfold rightN; simp; omega
    rw [hr]
    go_enter Try.func81, Try.ntmps81
    go_wp2_with fail
    go_ret
    exact ⟨rfl, Ext.alloc _ _⟩
theorem ref_RightEntry (t s : Int) (A : Option Addr) (n c : Nat) (w : World) (hn : n ≤ 9223372036854775807) :
    Calls Try.prog 99 #[enV t s A n c] w fun e w' => e = .returned (.bool (rightN t s n)) ∧ Ext w w' := by
  go_enter Try.func99, Try.ntmps99
  go_wp2
  all_goals (go_ret; refine ⟨ret_boolF ?_, Ext.alloc _ _⟩; unfold rightN; rw [Bool.eq_iff_iff]; simp <;> omega)
end Go.Proofs.Ytoeknbogaclfdaa
