/-
  Contracts of Get, of the program and of the reference.
-/
import Derived.Test.YtoeknbogaclfdaaZBits
namespace Go.Proofs.Ytoeknbogaclfdaa
open Go.RowKit
set_option linter.unusedVariables false
set_option maxRecDepth 100000

theorem bits_Get_yes (A : Option Addr) (n c : Nat) (l : List UInt8) (a wd : Nat) (w : World) (hs : Sl w A n c l) (h1 : 1 ≤ wd) (h8 : wd ≤ 8) (hn : a + wd ≤ n) :
    Calls Try.prog 110 #[.slice A n c, .int .i64 a, .int .i64 wd] w fun e w' => e = .returned (.tuple #[.int .u64 (unle ((l.drop a).take wd)), .bool true]) ∧ w = w' := by
  have h63 := hs.n63
  have hd : a ≤ n := by omega
  go_enter Try.func110, Try.ntmps110
  go_wp2
  go_loop [8, 35] (fun v i => ∃ k : Nat, k ≤ wd ∧ i = .int .i64 k ∧ v = .int .u64 (unle ((l.drop a).take k))) (fun _ i => (wd - (intOf i).toNat))
  case atStart => exact ⟨0, by omega, rfl, rfl⟩
  case round =>
    obtain ⟨k, hk, rfl, rfl⟩ := hrel
    obtain ⟨q, hq⟩ : ∃ q, q = unle ((l.drop a).take k) := ⟨_, rfl⟩
    have hql : q < 256 ^ k := by
      have h2 := unle_lt ((l.drop a).take k)
      have h3 : ((l.drop a).take k).length = k := by rw [List.length_take, List.length_drop, hs.len]; omega
      rw [h3] at h2
      rw [hq]; exact h2
    rw [← hq]
    by_cases hlt : k < wd
    · obtain ⟨ad, rfl, hcell⟩ := hs.atD (k := a + k) (by omega)
      obtain ⟨b, hb⟩ : ∃ b, b = l.getD (a + k) 0 := ⟨_, rfl⟩
      rw [← hb] at hcell
      have hbl := b.toNat_lt
      have HQ := Lib.hid hq
      have HB := Lib.hid hb
      have HL := Lib.hid hql
      clear hq hb hql
      go_wp2
      go_round
      case rel => exact ⟨k + 1, by omega, by go_num, by rw [or_up (by omega) HL.out hbl, unle_take_succ (by rw [hs.len]; omega), ← HQ.out, ← HB.out]⟩
      case measure => simp [intOf]; omega
    · have HQ := Lib.hid hq
      clear hq hql
      go_wp2
      go_ret2
      obtain rfl : k = wd := by omega
      rw [← HQ.out]
      exact ⟨rfl, rfl⟩

theorem bits_Get (A : Option Addr) (n c : Nat) (l : List UInt8) (a wd : Int) (w : World) (hs : Sl w A n c l) (ha : -9223372036854775808 ≤ a) (ha' : a ≤ 9223372036854775807) :
    Calls Try.prog 110 #[.slice A n c, .int .i64 a, .int .i64 wd] w fun e w' => e = .returned (.tuple #[.int .u64 (getN l a wd), .bool (getOk l a wd)]) ∧ w = w' := by
  have h63 := hs.n63
  have hl := hs.len
  by_cases hok : getOk l a wd = true
  · have hv : getN l a wd = unle ((l.drop a.toNat).take wd.toNat) := by unfold getN; rw [if_pos hok]
    have hok' := hok
    simp only [getOk, Bool.and_eq_true, decide_eq_true_eq] at hok'
    obtain ⟨m, rfl⟩ := Int.eq_ofNat_of_zero_le (by omega : 0 ≤ wd)
    obtain ⟨b, rfl⟩ := Int.eq_ofNat_of_zero_le (by omega : 0 ≤ a)
    rw [hv, hok]
    exact bits_Get_yes A n c l b m w hs (by omega) (by omega) (by omega)
  · have hf : getOk l a wd = false := by simpa using hok
    have hv : getN l a wd = 0 := by unfold getN; rw [if_neg hok]
    rw [hv, hf]
    simp only [getOk, Bool.and_eq_true, decide_eq_true_eq] at hok
    clear hv hf
    by_cases h1 : wd < 1
    · go_enter Try.func110, Try.ntmps110
      go_wp2
      go_ret2
      exact ⟨rfl, rfl⟩
    by_cases h2 : 8 < wd
    · go_enter Try.func110, Try.ntmps110
      go_wp2
      go_ret2
      exact ⟨rfl, rfl⟩
    by_cases h3 : a < 0
    · go_enter Try.func110, Try.ntmps110
      go_wp2
      go_ret2
      exact ⟨rfl, rfl⟩
    by_cases h4 : (n : Int) < a
    · go_enter Try.func110, Try.ntmps110
      go_wp2
      go_ret2
      exact ⟨rfl, rfl⟩
    have h5 : (n : Int) - a < wd := by omega
    clear hok
    go_enter Try.func110, Try.ntmps110
    go_wp2
    go_ret2
    exact ⟨rfl, rfl⟩

theorem ref_Get_yes (A : Option Addr) (n c : Nat) (l : List UInt8) (a wd : Nat) (w : World) (hs : Sl w A n c l) (h1 : 1 ≤ wd) (h8 : wd ≤ 8) (hn : a + wd ≤ n) :
    Calls Try.prog 95 #[.slice A n c, .int .i64 a, .int .i64 wd] w fun e w' => e = .returned (.tuple #[.int .u64 (unle ((l.drop a).take wd)), .bool true]) ∧ w = w' := by
  have h63 := hs.n63
  have hd : a ≤ n := by omega
  go_enter Try.func95, Try.ntmps95
  go_wp2
  go_loop [8, 9] (fun v i => ∃ k : Nat, k ≤ wd ∧ i = .int .i64 ((k : Int) - 1) ∧ v = .int .u64 (unle ((l.drop (a + k)).take (wd - k)))) (fun _ i => (intOf i + 1).toNat)
  case atStart => exact ⟨wd, by omega, rfl, by simp [unle]⟩
  case round =>
    obtain ⟨k, hk, rfl, rfl⟩ := hrel
    obtain ⟨q, hq⟩ : ∃ q, q = unle ((l.drop (a + k)).take (wd - k)) := ⟨_, rfl⟩
    have hql : q < 256 ^ (wd - k) := by
      have h2 := unle_lt ((l.drop (a + k)).take (wd - k))
      have h3 : ((l.drop (a + k)).take (wd - k)).length = wd - k := by rw [List.length_take, List.length_drop, hs.len]; omega
      rw [h3] at h2
      rw [hq]; exact h2
    rw [← hq]
    by_cases hlt : 1 ≤ k
    · obtain ⟨j, rfl⟩ : ∃ j, k = j + 1 := ⟨k - 1, by omega⟩
      obtain ⟨ad, rfl, hcell⟩ := hs.atD (k := a + j) (by omega)
      obtain ⟨b, hb⟩ : ∃ b, b = l.getD (a + j) 0 := ⟨_, rfl⟩
      rw [← hb] at hcell
      have hbl := b.toNat_lt
      have HQ := Lib.hid hq
      have HB := Lib.hid hb
      have HL := Lib.hid hql
      clear hq hb hql
      have ej : ((j + 1 : Nat) : Int) - 1 = (j : Int) := by omega
      rw [ej]
      clear ej
      go_wp2
      go_round
      case rel =>
        refine ⟨j, by omega, rfl, ?_⟩
        have hd2 : wd - j = (wd - (j + 1)) + 1 := by omega
        rw [or_down (by omega) HL.out hbl, hd2, unle_drop (by rw [hs.len]; omega), HQ.out, ← HB.out, Nat.add_assoc a j 1]
      case measure => simp [intOf]
    · obtain rfl : k = 0 := by omega
      have HQ := Lib.hid hq
      clear hq hql
      go_wp2
      go_ret2
      rw [HQ.out]
      exact ⟨rfl, rfl⟩

theorem ref_Get (A : Option Addr) (n c : Nat) (l : List UInt8) (a wd : Int) (w : World) (hs : Sl w A n c l) (ha : -9223372036854775808 ≤ a) (ha' : a ≤ 9223372036854775807) :
    Calls Try.prog 95 #[.slice A n c, .int .i64 a, .int .i64 wd] w fun e w' => e = .returned (.tuple #[.int .u64 (getN l a wd), .bool (getOk l a wd)]) ∧ w = w' := by
  have h63 := hs.n63
  have hl := hs.len
  by_cases hok : getOk l a wd = true
  · have hv : getN l a wd = unle ((l.drop a.toNat).take wd.toNat) := by unfold getN; rw [if_pos hok]
    have hok' := hok
    simp only [getOk, Bool.and_eq_true, decide_eq_true_eq] at hok'
    obtain ⟨m, rfl⟩ := Int.eq_ofNat_of_zero_le (by omega : 0 ≤ wd)
    obtain ⟨b, rfl⟩ := Int.eq_ofNat_of_zero_le (by omega : 0 ≤ a)
    rw [hv, hok]
    exact ref_Get_yes A n c l b m w hs (by omega) (by omega) (by omega)
  · have hf : getOk l a wd = false := by simpa using hok
    have hv : getN l a wd = 0 := by unfold getN; rw [if_neg hok]
    rw [hv, hf]
    simp only [getOk, Bool.and_eq_true, decide_eq_true_eq] at hok
    clear hv hf
    by_cases h1 : wd < 1
    · go_enter Try.func95, Try.ntmps95
      go_wp2
      go_ret2
      exact ⟨rfl, rfl⟩
    by_cases h2 : 8 < wd
    · go_enter Try.func95, Try.ntmps95
      go_wp2
      go_ret2
      exact ⟨rfl, rfl⟩
    by_cases h3 : a < 0
    · go_enter Try.func95, Try.ntmps95
      go_wp2
      go_ret2
      exact ⟨rfl, rfl⟩
    by_cases h4 : (n : Int) < a
    · go_enter Try.func95, Try.ntmps95
      go_wp2
      go_ret2
      exact ⟨rfl, rfl⟩
    have h5 : (n : Int) - a < wd := by omega
    clear hok
    go_enter Try.func95, Try.ntmps95
    go_wp2
    go_ret2
    exact ⟨rfl, rfl⟩
end Go.Proofs.Ytoeknbogaclfdaa
