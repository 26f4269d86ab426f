/-
  Names: contracts of the program's and of the reference's Name, where nothing of spans is there.
-/
/-
  Contracts of numbers by sevens: Var, GetVar, Text, GetText, of the program and of the reference.
-/
/-
  Contracts of texts: Text, GetText, of the program and of the reference.
-/
/-
  Tags: chains as lists; contract of the program's alike.
-/
import Derived.Test.YtoeknbogaclfdaaZCore
import Derived.Test.YtoeknbogaclfdaaZFromLePlainToMask2
namespace Go.Proofs.Ytoeknbogaclfdaa
open Go.RowKit
set_option linter.unusedVariables false
set_option linter.unusedSimpArgs false
set_option linter.unnecessarySimpa false
set_option maxRecDepth 100000
def nameC (b : UInt8) : Bool := decide (97 ≤ b.toNat ∧ b.toNat ≤ 122 ∨ 48 ≤ b.toNat ∧ b.toNat ≤ 57 ∨ b.toNat = 45)
def nameB (s : ByteArray) : Bool := decide (1 ≤ s.size) && decide (s.size ≤ 12) && s.data.toList.all nameC
theorem ret_bool {a b : Bool} (h : a = b) : Ending.returned (.bool a) = .returned (.bool b) := by rw [h]
theorem nameB_no {s : ByteArray} (k : Nat) (hk : k < s.size) (h : nameC s[k] = false) : nameB s = false := by
  unfold nameB
  have : s.data.toList.all nameC = false := by
    rw [List.all_eq_false]
    refine ⟨s[k], ?_, by rw [h]; simp⟩
    exact Array.mem_toList_iff.2 (Array.getElem_mem (xs := s.data) hk)
  rw [this, Bool.and_false]
theorem nameB_all {s : ByteArray} (h : ∀ j (hj : j < s.size), nameC s[j] = true) : nameB s = (decide (1 ≤ s.size) && decide (s.size ≤ 12)) := by
  unfold nameB
  have : s.data.toList.all nameC = true := by
    rw [List.all_eq_true]
    intro x hx
    obtain ⟨j, hj, rfl⟩ := List.getElem_of_mem hx
    exact h j (by simpa using hj)
  rw [this, Bool.and_true]
theorem ref_Name (s : ByteArray) (w : World) (hs : s.size ≤ maxLen) :
    Calls Try.prog 93 #[.string s] w fun e w' => e = .returned (.bool (nameB s)) ∧ w = w' := by
  unfold maxLen at hs
  go_enter Try.func93, Try.ntmps93
  go_wp2
  go_loop [3] (fun i => ∃ k : Nat, k ≤ s.size ∧ i = .int .i64 k ∧ Hid (∀ j (hj : j < s.size), j < k → nameC s[j] = true)) (fun i => s.size - (intOf i).toNat)
  case atStart => exact ⟨0, by omega, rfl, by intro j hj hj2; omega⟩
  case round =>
    obtain ⟨k, hk, rfl, hall⟩ := hrel
    by_cases hlt : k < s.size
    · cases hc : nameC s[k] with
      | true =>
        have hc2 := Lib.hid hc
        unfold nameC at hc
        simp only [decide_eq_true_eq] at hc
        go_wp2
        all_goals first
          | (go_round
             case rel => exact ⟨k + 1, by omega, by go_num, by
               intro j hj hj2
               by_cases e : j = k
               · subst e; exact hc2.out
               · exact hall j hj (by omega)⟩
             case measure => simp [intOf]; omega)
          | (exfalso; simp at *; omega)
      | false =>
        have hn := Lib.hid (nameB_no k hlt hc)
        unfold nameC at hc
        simp only [decide_eq_false_iff_not] at hc
        go_wp2
        all_goals first
          | (go_ret; exact ⟨ret_bool hn.out.symm, rfl⟩)
          | (exfalso; simp at *; omega)
    · have hv := Lib.hid (nameB_all fun j hj => hall j hj (by omega))
      clear hall
      go_wp2
      all_goals (go_ret; exact ⟨ret_bool (by rw [hv.out]; by_cases q1 : 1 ≤ s.size <;> by_cases q2 : s.size ≤ 12 <;> simp_all <;> omega), rfl⟩)
theorem event_Name (s : ByteArray) (w : World) (hs : s.size ≤ maxLen) :
    Calls Try.prog 103 #[.string s] w fun e w' => e = .returned (.bool (nameB s)) ∧ w = w' := by
  unfold maxLen at hs
  by_cases h1 : s.size < 1
  · have hn : Hid (nameB s = false) := by unfold Hid nameB; simp; omega
    go_enter Try.func103, Try.ntmps103
    go_wp2
    go_ret
    exact ⟨ret_bool hn.out.symm, rfl⟩
  by_cases h2 : 12 < s.size
  · have hn : Hid (nameB s = false) := by unfold Hid nameB; simp; omega
    go_enter Try.func103, Try.ntmps103
    go_wp2
    go_ret
    exact ⟨ret_bool hn.out.symm, rfl⟩
  go_enter Try.func103, Try.ntmps103
  go_wp2
  go_loop [15] (fun i => ∃ k : Nat, k ≤ s.size ∧ i = .int .i64 k ∧ Hid (∀ j (hj : j < s.size), j < k → nameC s[j] = true)) (fun i => s.size - (intOf i).toNat)
  case atStart => exact ⟨0, by omega, rfl, by intro j hj hj2; omega⟩
  case round =>
    obtain ⟨k, hk, rfl, hall⟩ := hrel
    by_cases hlt : k < s.size
    · cases hc : nameC s[k] with
      | true =>
        have hc2 := Lib.hid hc
        unfold nameC at hc
        simp only [decide_eq_true_eq] at hc
        go_wp2
        all_goals first
          | (go_round
             case rel => exact ⟨k + 1, by omega, by go_num, by
               intro j hj hj2
               by_cases e : j = k
               · subst e; exact hc2.out
               · exact hall j hj (by omega)⟩
             case measure => simp [intOf]; omega)
          | (exfalso; simp at *; omega)
      | false =>
        have hn := Lib.hid (nameB_no k hlt hc)
        unfold nameC at hc
        simp only [decide_eq_false_iff_not] at hc
        go_wp2
        all_goals first
          | (go_ret; exact ⟨ret_bool hn.out.symm, rfl⟩)
          | (exfalso; simp at *; omega)
    · have hv := Lib.hid (nameB_all fun j hj => hall j hj (by omega))
      clear hall
      go_wp2
      go_ret
      exact ⟨ret_bool (by rw [hv.out]; simp; omega), rfl⟩
end Go.Proofs.Ytoeknbogaclfdaa

namespace Go.Proofs.Ytoeknbogaclfdaa
open Go.RowKit
set_option linter.unusedVariables false
set_option linter.unusedSimpArgs false
set_option linter.unnecessarySimpa false
set_option maxRecDepth 100000
theorem bits_Var (A : Option Addr) (n c : Nat) (l : List UInt8) (m : Int) (w : World) (h : Sl w A n c l) (hn : n ≤ 1000000) (hm : m ≤ 9223372036854775807) :
    Calls Try.prog 43 #[.slice A n c, .int .i64 m] w fun e w' => ∃ A' n' c', e = .returned (.slice A' n' c') ∧ Byt U8 w' w.heap.size A' n' c' (l ++ varl m.toNat) ∧ Ext w w' := by
  obtain ⟨i0, hi0, hz0, hz1, hz2⟩ := info_parts info_u8
  obtain ⟨m0, he⟩ : ∃ m0, m0 = m.toNat := ⟨_, rfl⟩
  have hm0 : m0 < 9223372036854775808 := by omega
  rw [← he]
  by_cases h0 : 0 < m
  · obtain rfl : m = (m0 : Int) := by omega
    have hp0 : 0 < m0 := by omega
    clear he h0 hm
    go_enter Try.func43, Try.ntmps43
    go_wp2_with fail
    refine (slices_Clone A n c l _ h hn).mono ?_
    rintro e w1 ⟨A1, c1, rfl, hb1, hx1⟩
    go_wp2_with fail
    go_loopw [5, 6] (fun v5 v6 wr => ∃ (f : Nat) (pre : List UInt8) (u : Nat) (Ak : Option Addr) (nk ck : Nat), u < 128 ^ (f + 1) ∧ pre.length + f = 8 ∧ Hid (pre ++ varF f u = varl m0) ∧ v5 = .slice Ak nk ck ∧ v6 = .int .u64 u ∧ Byt U8 wr w.heap.size Ak nk ck (l ++ pre) ∧ Ext w wr) (fun _ v6 _ => (intOf v6).toNat)
    case atStart => exact ⟨8, [], m0, A1, n, c1, by have := hm0; omega, rfl, rfl, rfl, rfl, by simpa using hb1, hx1⟩
    case round =>
      obtain ⟨f, pre, u, Ak, nk, ck, hu, hpf, hpre, rfl, rfl, hbk, hxk⟩ := hrel
      clear hb1 hx1
      have hnk : nk ≤ 1000008 := by
        have h1 := hbk.len
        rw [List.length_append, h.len] at h1
        omega
      have hu63 : u < 9223372036854775808 := by
        have : 128 ^ (f + 1) ≤ 128 ^ 9 := Nat.pow_le_pow_right (by omega) (by omega)
        omega
      by_cases hbig : 128 ≤ u
      · obtain ⟨f, rfl⟩ : ∃ f', f = f' + 1 := by
          rcases f with _ | f
          · simp at hu; omega
          · exact ⟨f, rfl⟩
        have hpre2 : Hid ((pre ++ [UInt8.ofNat (u % 128 + 128)]) ++ varF f (u / 128) = varl m0) := by
          have := hpre.out
          rw [varF_big hbig] at this
          unfold Hid
          rw [← this]
          simp
        have hu2 : u / 128 < 128 ^ (f + 1) := by
          rw [Nat.pow_succ 128 (f + 1)] at hu
          exact Nat.div_lt_of_lt_mul (by omega)
        have hbv := Lib.hid (byte_more u)
        clear hpre hu
        go_wp2_with (at_builtin; refine wpList_append_mine _ rfl _ _ _ _ rfl w.heap.size U8 i0 _ 1 1 under_bytes hi0 hz0 hz1 hz2 rfl Ak nk ck _ rfl (hbk.own.alloc _) _ rfl 1 _ (src_one under_bytes _ rfl) (by simp only [maxLen]; omega) (by omega) (by have := hxk.size; simp; omega) ?_; intro A' c' w2 hown hg _)
        have hb2 : Byt U8 w2 w.heap.size A' (nk + 1) c' (l ++ (pre ++ [UInt8.ofNat (u % 128 + 128)])) := by
          have := Byt.more (l2 := [UInt8.ofNat (u % 128 + 128)]) hbk.len rfl hown (by simp [hbv.out])
          simpa using this
        have hx2 : Ext w w2 := below_grown (hxk.trans (Ext.alloc wr _)) (hbk.own.alloc _) hg (by have := hxk.size; simp; omega)
        clear hown hg hbk
        go_wp2
        go_roundw
        case rel => exact ⟨f, pre ++ [UInt8.ofNat (u % 128 + 128)], u / 128, A', nk + 1, c', hu2, by simp; omega, hpre2, rfl, by go_num, hb2, hx2⟩
        case measure => simp [intOf]; omega
      · have hpre2 : Hid (pre ++ [UInt8.ofNat u] = varl m0) := by
          have := hpre.out
          rwa [varF_small (by omega)] at this
        clear hpre hu
        go_wp2_with (at_builtin; refine wpList_append_mine _ rfl _ _ _ _ rfl w.heap.size U8 i0 _ 1 1 under_bytes hi0 hz0 hz1 hz2 rfl Ak nk ck _ rfl (hbk.own.alloc _) _ rfl 1 _ (src_one under_bytes _ rfl) (by simp only [maxLen]; omega) (by omega) (by have := hxk.size; simp; omega) ?_; intro A' c' w2 hown hg _)
        have hb2 : Byt U8 w2 w.heap.size A' (nk + 1) c' (l ++ varl m0) := by
          have := Byt.more (l2 := [UInt8.ofNat u]) hbk.len rfl hown (by simp; omega)
          rw [← hpre2.out]
          simpa using this
        have hx2 : Ext w w2 := below_grown (hxk.trans (Ext.alloc wr _)) (hbk.own.alloc _) hg (by have := hxk.size; simp; omega)
        clear hown hg hbk
        go_wp2
        go_ret
        exact ⟨_, _, _, rfl, hb2, hx2⟩
  · by_cases hneg : m < 0
    · obtain rfl : m0 = 0 := by omega
      clear he hm
      go_enter Try.func43, Try.ntmps43
      go_wp2_with fail
      refine (slices_Clone A n c l _ h hn).mono ?_
      rintro e w1 ⟨A1, c1, rfl, hb1, hx1⟩
      go_wp2_with fail
      go_loopw [5, 6] (fun v5 v6 wr => ∃ (f : Nat) (pre : List UInt8) (u : Nat) (Ak : Option Addr) (nk ck : Nat), u < 128 ^ (f + 1) ∧ pre.length + f = 8 ∧ Hid (pre ++ varF f u = varl 0) ∧ v5 = .slice Ak nk ck ∧ v6 = .int .u64 u ∧ Byt U8 wr w.heap.size Ak nk ck (l ++ pre) ∧ Ext w wr) (fun _ v6 _ => (intOf v6).toNat)
      case atStart => exact ⟨8, [], 0, A1, n, c1, by have := hm0; omega, rfl, rfl, rfl, rfl, by simpa using hb1, hx1⟩
      case round =>
        obtain ⟨f, pre, u, Ak, nk, ck, hu, hpf, hpre, rfl, rfl, hbk, hxk⟩ := hrel
        clear hb1 hx1
        have hnk : nk ≤ 1000008 := by
          have h1 := hbk.len
          rw [List.length_append, h.len] at h1
          omega
        have hu63 : u < 9223372036854775808 := by
          have : 128 ^ (f + 1) ≤ 128 ^ 9 := Nat.pow_le_pow_right (by omega) (by omega)
          omega
        by_cases hbig : 128 ≤ u
        · obtain ⟨f, rfl⟩ : ∃ f', f = f' + 1 := by
            rcases f with _ | f
            · simp at hu; omega
            · exact ⟨f, rfl⟩
          have hpre2 : Hid ((pre ++ [UInt8.ofNat (u % 128 + 128)]) ++ varF f (u / 128) = varl 0) := by
            have := hpre.out
            rw [varF_big hbig] at this
            unfold Hid
            rw [← this]
            simp
          have hu2 : u / 128 < 128 ^ (f + 1) := by
            rw [Nat.pow_succ 128 (f + 1)] at hu
            exact Nat.div_lt_of_lt_mul (by omega)
          have hbv := Lib.hid (byte_more u)
          clear hpre hu
          go_wp2_with (at_builtin; refine wpList_append_mine _ rfl _ _ _ _ rfl w.heap.size U8 i0 _ 1 1 under_bytes hi0 hz0 hz1 hz2 rfl Ak nk ck _ rfl (hbk.own.alloc _) _ rfl 1 _ (src_one under_bytes _ rfl) (by simp only [maxLen]; omega) (by omega) (by have := hxk.size; simp; omega) ?_; intro A' c' w2 hown hg _)
          have hb2 : Byt U8 w2 w.heap.size A' (nk + 1) c' (l ++ (pre ++ [UInt8.ofNat (u % 128 + 128)])) := by
            have := Byt.more (l2 := [UInt8.ofNat (u % 128 + 128)]) hbk.len rfl hown (by simp [hbv.out])
            simpa using this
          have hx2 : Ext w w2 := below_grown (hxk.trans (Ext.alloc wr _)) (hbk.own.alloc _) hg (by have := hxk.size; simp; omega)
          clear hown hg hbk
          go_wp2
          go_roundw
          case rel => exact ⟨f, pre ++ [UInt8.ofNat (u % 128 + 128)], u / 128, A', nk + 1, c', hu2, by simp; omega, hpre2, rfl, by go_num, hb2, hx2⟩
          case measure => simp [intOf]; omega
        · have hpre2 : Hid (pre ++ [UInt8.ofNat u] = varl 0) := by
            have := hpre.out
            rwa [varF_small (by omega)] at this
          clear hpre hu
          go_wp2_with (at_builtin; refine wpList_append_mine _ rfl _ _ _ _ rfl w.heap.size U8 i0 _ 1 1 under_bytes hi0 hz0 hz1 hz2 rfl Ak nk ck _ rfl (hbk.own.alloc _) _ rfl 1 _ (src_one under_bytes _ rfl) (by simp only [maxLen]; omega) (by omega) (by have := hxk.size; simp; omega) ?_; intro A' c' w2 hown hg _)
          have hb2 : Byt U8 w2 w.heap.size A' (nk + 1) c' (l ++ varl 0) := by
            have := Byt.more (l2 := [UInt8.ofNat u]) hbk.len rfl hown (by simp; omega)
            rw [← hpre2.out]
            simpa using this
          have hx2 : Ext w w2 := below_grown (hxk.trans (Ext.alloc wr _)) (hbk.own.alloc _) hg (by have := hxk.size; simp; omega)
          clear hown hg hbk
          go_wp2
          go_ret
          exact ⟨_, _, _, rfl, hb2, hx2⟩
    · obtain rfl : m = 0 := by omega
      obtain rfl : m0 = 0 := by omega
      clear he hm h0 hneg
      go_enter Try.func43, Try.ntmps43
      go_wp2_with fail
      refine (slices_Clone A n c l _ h hn).mono ?_
      rintro e w1 ⟨A1, c1, rfl, hb1, hx1⟩
      go_wp2_with fail
      go_loopw [5, 6] (fun v5 v6 wr => ∃ (f : Nat) (pre : List UInt8) (u : Nat) (Ak : Option Addr) (nk ck : Nat), u < 128 ^ (f + 1) ∧ pre.length + f = 8 ∧ Hid (pre ++ varF f u = varl 0) ∧ v5 = .slice Ak nk ck ∧ v6 = .int .u64 u ∧ Byt U8 wr w.heap.size Ak nk ck (l ++ pre) ∧ Ext w wr) (fun _ v6 _ => (intOf v6).toNat)
      case atStart => exact ⟨8, [], 0, A1, n, c1, by have := hm0; omega, rfl, rfl, rfl, rfl, by simpa using hb1, hx1⟩
      case round =>
        obtain ⟨f, pre, u, Ak, nk, ck, hu, hpf, hpre, rfl, rfl, hbk, hxk⟩ := hrel
        clear hb1 hx1
        have hnk : nk ≤ 1000008 := by
          have h1 := hbk.len
          rw [List.length_append, h.len] at h1
          omega
        have hu63 : u < 9223372036854775808 := by
          have : 128 ^ (f + 1) ≤ 128 ^ 9 := Nat.pow_le_pow_right (by omega) (by omega)
          omega
        by_cases hbig : 128 ≤ u
        · obtain ⟨f, rfl⟩ : ∃ f', f = f' + 1 := by
            rcases f with _ | f
            · simp at hu; omega
            · exact ⟨f, rfl⟩
          have hpre2 : Hid ((pre ++ [UInt8.ofNat (u % 128 + 128)]) ++ varF f (u / 128) = varl 0) := by
            have := hpre.out
            rw [varF_big hbig] at this
            unfold Hid
            rw [← this]
            simp
          have hu2 : u / 128 < 128 ^ (f + 1) := by
            rw [Nat.pow_succ 128 (f + 1)] at hu
            exact Nat.div_lt_of_lt_mul (by omega)
          have hbv := Lib.hid (byte_more u)
          clear hpre hu
          go_wp2_with (at_builtin; refine wpList_append_mine _ rfl _ _ _ _ rfl w.heap.size U8 i0 _ 1 1 under_bytes hi0 hz0 hz1 hz2 rfl Ak nk ck _ rfl (hbk.own.alloc _) _ rfl 1 _ (src_one under_bytes _ rfl) (by simp only [maxLen]; omega) (by omega) (by have := hxk.size; simp; omega) ?_; intro A' c' w2 hown hg _)
          have hb2 : Byt U8 w2 w.heap.size A' (nk + 1) c' (l ++ (pre ++ [UInt8.ofNat (u % 128 + 128)])) := by
            have := Byt.more (l2 := [UInt8.ofNat (u % 128 + 128)]) hbk.len rfl hown (by simp [hbv.out])
            simpa using this
          have hx2 : Ext w w2 := below_grown (hxk.trans (Ext.alloc wr _)) (hbk.own.alloc _) hg (by have := hxk.size; simp; omega)
          clear hown hg hbk
          go_wp2
          go_roundw
          case rel => exact ⟨f, pre ++ [UInt8.ofNat (u % 128 + 128)], u / 128, A', nk + 1, c', hu2, by simp; omega, hpre2, rfl, by go_num, hb2, hx2⟩
          case measure => simp [intOf]; omega
        · have hpre2 : Hid (pre ++ [UInt8.ofNat u] = varl 0) := by
            have := hpre.out
            rwa [varF_small (by omega)] at this
          clear hpre hu
          go_wp2_with (at_builtin; refine wpList_append_mine _ rfl _ _ _ _ rfl w.heap.size U8 i0 _ 1 1 under_bytes hi0 hz0 hz1 hz2 rfl Ak nk ck _ rfl (hbk.own.alloc _) _ rfl 1 _ (src_one under_bytes _ rfl) (by simp only [maxLen]; omega) (by omega) (by have := hxk.size; simp; omega) ?_; intro A' c' w2 hown hg _)
          have hb2 : Byt U8 w2 w.heap.size A' (nk + 1) c' (l ++ varl 0) := by
            have := Byt.more (l2 := [UInt8.ofNat u]) hbk.len rfl hown (by simp; omega)
            rw [← hpre2.out]
            simpa using this
          have hx2 : Ext w w2 := below_grown (hxk.trans (Ext.alloc wr _)) (hbk.own.alloc _) hg (by have := hxk.size; simp; omega)
          clear hown hg hbk
          go_wp2
          go_ret
          exact ⟨_, _, _, rfl, hb2, hx2⟩
theorem ref_Var (A : Option Addr) (n c : Nat) (l : List UInt8) (m : Int) (w : World) (h : Sl w A n c l) (hn : n ≤ 1000000) (hm : m ≤ 9223372036854775807) :
    Calls Try.prog 55 #[.slice A n c, .int .i64 m] w fun e w' => ∃ A' n' c', e = .returned (.slice A' n' c') ∧ Byt U8 w' w.heap.size A' n' c' (l ++ varl m.toNat) ∧ Ext w w' := by
  obtain ⟨i0, hi0, hz0, hz1, hz2⟩ := info_parts info_u8
  obtain ⟨m0, he⟩ : ∃ m0, m0 = m.toNat := ⟨_, rfl⟩
  have hm0 : m0 < 9223372036854775808 := by omega
  rw [← he]
  by_cases h0 : 0 < m
  · obtain rfl : m = (m0 : Int) := by omega
    have hp0 : 0 < m0 := by omega
    clear he h0 hm
    go_enter Try.func55, Try.ntmps55
    go_wp2_with (at_builtin; refine wpList_append_mine _ rfl (.tmp 6) (.tmp 7) _ _ rfl w.heap.size U8 i0 _ 1 1 under_bytes hi0 hz0 hz1 hz2 rfl _ 0 0 [] rfl (Own.nil _ _ _ _ _) _ rfl n (l.map bv) ((h.ext (Ext.alloc _ _)).src under_bytes) (by simp only [maxLen]; omega) (by omega) (by simp) ?_; intro A1 c1 w1 hown hg _)
    have hb1 : Byt U8 w1 w.heap.size A1 n c1 l := ⟨h.len, by simpa using hown⟩
    have hx1 : Ext w w1 := below_grown (Ext.alloc w _) (Own.nil _ _ U8 1 _) hg (by simp)
    clear hown hg
    go_loopw [1, 5] (fun v6 v5 wr => ∃ (f : Nat) (pre : List UInt8) (u : Nat) (Ak : Option Addr) (nk ck : Nat), u < 128 ^ (f + 1) ∧ pre.length + f = 8 ∧ Hid (pre ++ varF f u = varl m0) ∧ v5 = .slice Ak nk ck ∧ v6 = .int .i64 u ∧ Byt U8 wr w.heap.size Ak nk ck (l ++ pre) ∧ Ext w wr) (fun v6 _ _ => (intOf v6).toNat)
    case atStart => exact ⟨8, [], m0, A1, n, c1, by have := hm0; omega, rfl, rfl, rfl, rfl, by simpa using hb1, hx1⟩
    case round =>
      obtain ⟨f, pre, u, Ak, nk, ck, hu, hpf, hpre, rfl, rfl, hbk, hxk⟩ := hrel
      clear hb1 hx1
      have hnk : nk ≤ 1000008 := by
        have h1 := hbk.len
        rw [List.length_append, h.len] at h1
        omega
      have hu63 : u < 9223372036854775808 := by
        have : 128 ^ (f + 1) ≤ 128 ^ 9 := Nat.pow_le_pow_right (by omega) (by omega)
        omega
      by_cases hbig : 128 ≤ u
      · obtain ⟨f, rfl⟩ : ∃ f', f = f' + 1 := by
          rcases f with _ | f
          · simp at hu; omega
          · exact ⟨f, rfl⟩
        have hpre2 : Hid ((pre ++ [UInt8.ofNat (u % 128 + 128)]) ++ varF f (u / 128) = varl m0) := by
          have := hpre.out
          rw [varF_big hbig] at this
          unfold Hid
          rw [← this]
          simp
        have hu2 : u / 128 < 128 ^ (f + 1) := by
          rw [Nat.pow_succ 128 (f + 1)] at hu
          exact Nat.div_lt_of_lt_mul (by omega)
        have hbv := Lib.hid (byte_more_int u hu63)
        clear hpre hu
        go_wp2_with (at_builtin; refine wpList_append_mine _ rfl _ _ _ _ rfl w.heap.size U8 i0 _ 1 1 under_bytes hi0 hz0 hz1 hz2 rfl Ak nk ck _ rfl (hbk.own.alloc _) _ rfl 1 _ (src_one under_bytes _ rfl) (by simp only [maxLen]; omega) (by omega) (by have := hxk.size; simp; omega) ?_; intro A' c' w2 hown hg _)
        have hb2 : Byt U8 w2 w.heap.size A' (nk + 1) c' (l ++ (pre ++ [UInt8.ofNat (u % 128 + 128)])) := by
          have := Byt.more (l2 := [UInt8.ofNat (u % 128 + 128)]) hbk.len rfl hown (by rw [hbv.out]; rfl)
          simpa using this
        have hx2 : Ext w w2 := below_grown (hxk.trans (Ext.alloc wr _)) (hbk.own.alloc _) hg (by have := hxk.size; simp; omega)
        clear hown hg hbk
        go_wp2
        go_roundw
        case rel => exact ⟨f, pre ++ [UInt8.ofNat (u % 128 + 128)], u / 128, A', nk + 1, c', hu2, by simp; omega, hpre2, rfl, by go_num, hb2, hx2⟩
        case measure => simp [intOf]; omega
      · have hpre2 : Hid (pre ++ [UInt8.ofNat u] = varl m0) := by
          have := hpre.out
          rwa [varF_small (by omega)] at this
        clear hpre hu
        go_wp2_with (at_builtin; refine wpList_append_mine _ rfl _ _ _ _ rfl w.heap.size U8 i0 _ 1 1 under_bytes hi0 hz0 hz1 hz2 rfl Ak nk ck _ rfl (hbk.own.alloc _) _ rfl 1 _ (src_one under_bytes _ rfl) (by simp only [maxLen]; omega) (by omega) (by have := hxk.size; simp; omega) ?_; intro A' c' w2 hown hg _)
        have hb2 : Byt U8 w2 w.heap.size A' (nk + 1) c' (l ++ varl m0) := by
          have := Byt.more (l2 := [UInt8.ofNat u]) hbk.len rfl hown (by simp; omega)
          rw [← hpre2.out]
          simpa using this
        have hx2 : Ext w w2 := below_grown (hxk.trans (Ext.alloc wr _)) (hbk.own.alloc _) hg (by have := hxk.size; simp; omega)
        clear hown hg hbk
        go_wp2
        go_ret
        exact ⟨_, _, _, rfl, hb2, hx2⟩
  · by_cases hneg : m < 0
    · obtain rfl : m0 = 0 := by omega
      clear he hm
      go_enter Try.func55, Try.ntmps55
      go_wp2_with (at_builtin; refine wpList_append_mine _ rfl (.tmp 6) (.tmp 7) _ _ rfl w.heap.size U8 i0 _ 1 1 under_bytes hi0 hz0 hz1 hz2 rfl _ 0 0 [] rfl (Own.nil _ _ _ _ _) _ rfl n (l.map bv) ((h.ext (Ext.alloc _ _)).src under_bytes) (by simp only [maxLen]; omega) (by omega) (by simp) ?_; intro A1 c1 w1 hown hg _)
      have hb1 : Byt U8 w1 w.heap.size A1 n c1 l := ⟨h.len, by simpa using hown⟩
      have hx1 : Ext w w1 := below_grown (Ext.alloc w _) (Own.nil _ _ U8 1 _) hg (by simp)
      clear hown hg
      go_loopw [1, 5] (fun v6 v5 wr => ∃ (f : Nat) (pre : List UInt8) (u : Nat) (Ak : Option Addr) (nk ck : Nat), u < 128 ^ (f + 1) ∧ pre.length + f = 8 ∧ Hid (pre ++ varF f u = varl 0) ∧ v5 = .slice Ak nk ck ∧ v6 = .int .i64 u ∧ Byt U8 wr w.heap.size Ak nk ck (l ++ pre) ∧ Ext w wr) (fun v6 _ _ => (intOf v6).toNat)
      case atStart => exact ⟨8, [], 0, A1, n, c1, by have := hm0; omega, rfl, rfl, rfl, rfl, by simpa using hb1, hx1⟩
      case round =>
        obtain ⟨f, pre, u, Ak, nk, ck, hu, hpf, hpre, rfl, rfl, hbk, hxk⟩ := hrel
        clear hb1 hx1
        have hnk : nk ≤ 1000008 := by
          have h1 := hbk.len
          rw [List.length_append, h.len] at h1
          omega
        have hu63 : u < 9223372036854775808 := by
          have : 128 ^ (f + 1) ≤ 128 ^ 9 := Nat.pow_le_pow_right (by omega) (by omega)
          omega
        by_cases hbig : 128 ≤ u
        · obtain ⟨f, rfl⟩ : ∃ f', f = f' + 1 := by
            rcases f with _ | f
            · simp at hu; omega
            · exact ⟨f, rfl⟩
          have hpre2 : Hid ((pre ++ [UInt8.ofNat (u % 128 + 128)]) ++ varF f (u / 128) = varl 0) := by
            have := hpre.out
            rw [varF_big hbig] at this
            unfold Hid
            rw [← this]
            simp
          have hu2 : u / 128 < 128 ^ (f + 1) := by
            rw [Nat.pow_succ 128 (f + 1)] at hu
            exact Nat.div_lt_of_lt_mul (by omega)
          have hbv := Lib.hid (byte_more_int u hu63)
          clear hpre hu
          go_wp2_with (at_builtin; refine wpList_append_mine _ rfl _ _ _ _ rfl w.heap.size U8 i0 _ 1 1 under_bytes hi0 hz0 hz1 hz2 rfl Ak nk ck _ rfl (hbk.own.alloc _) _ rfl 1 _ (src_one under_bytes _ rfl) (by simp only [maxLen]; omega) (by omega) (by have := hxk.size; simp; omega) ?_; intro A' c' w2 hown hg _)
          have hb2 : Byt U8 w2 w.heap.size A' (nk + 1) c' (l ++ (pre ++ [UInt8.ofNat (u % 128 + 128)])) := by
            have := Byt.more (l2 := [UInt8.ofNat (u % 128 + 128)]) hbk.len rfl hown (by rw [hbv.out]; rfl)
            simpa using this
          have hx2 : Ext w w2 := below_grown (hxk.trans (Ext.alloc wr _)) (hbk.own.alloc _) hg (by have := hxk.size; simp; omega)
          clear hown hg hbk
          go_wp2
          go_roundw
          case rel => exact ⟨f, pre ++ [UInt8.ofNat (u % 128 + 128)], u / 128, A', nk + 1, c', hu2, by simp; omega, hpre2, rfl, by go_num, hb2, hx2⟩
          case measure => simp [intOf]; omega
        · have hpre2 : Hid (pre ++ [UInt8.ofNat u] = varl 0) := by
            have := hpre.out
            rwa [varF_small (by omega)] at this
          clear hpre hu
          go_wp2_with (at_builtin; refine wpList_append_mine _ rfl _ _ _ _ rfl w.heap.size U8 i0 _ 1 1 under_bytes hi0 hz0 hz1 hz2 rfl Ak nk ck _ rfl (hbk.own.alloc _) _ rfl 1 _ (src_one under_bytes _ rfl) (by simp only [maxLen]; omega) (by omega) (by have := hxk.size; simp; omega) ?_; intro A' c' w2 hown hg _)
          have hb2 : Byt U8 w2 w.heap.size A' (nk + 1) c' (l ++ varl 0) := by
            have := Byt.more (l2 := [UInt8.ofNat u]) hbk.len rfl hown (by simp; omega)
            rw [← hpre2.out]
            simpa using this
          have hx2 : Ext w w2 := below_grown (hxk.trans (Ext.alloc wr _)) (hbk.own.alloc _) hg (by have := hxk.size; simp; omega)
          clear hown hg hbk
          go_wp2
          go_ret
          exact ⟨_, _, _, rfl, hb2, hx2⟩
    · obtain rfl : m = 0 := by omega
      obtain rfl : m0 = 0 := by omega
      clear he hm h0 hneg
      go_enter Try.func55, Try.ntmps55
      go_wp2_with (at_builtin; refine wpList_append_mine _ rfl (.tmp 6) (.tmp 7) _ _ rfl w.heap.size U8 i0 _ 1 1 under_bytes hi0 hz0 hz1 hz2 rfl _ 0 0 [] rfl (Own.nil _ _ _ _ _) _ rfl n (l.map bv) ((h.ext (Ext.alloc _ _)).src under_bytes) (by simp only [maxLen]; omega) (by omega) (by simp) ?_; intro A1 c1 w1 hown hg _)
      have hb1 : Byt U8 w1 w.heap.size A1 n c1 l := ⟨h.len, by simpa using hown⟩
      have hx1 : Ext w w1 := below_grown (Ext.alloc w _) (Own.nil _ _ U8 1 _) hg (by simp)
      clear hown hg
      go_loopw [1, 5] (fun v6 v5 wr => ∃ (f : Nat) (pre : List UInt8) (u : Nat) (Ak : Option Addr) (nk ck : Nat), u < 128 ^ (f + 1) ∧ pre.length + f = 8 ∧ Hid (pre ++ varF f u = varl 0) ∧ v5 = .slice Ak nk ck ∧ v6 = .int .i64 u ∧ Byt U8 wr w.heap.size Ak nk ck (l ++ pre) ∧ Ext w wr) (fun v6 _ _ => (intOf v6).toNat)
      case atStart => exact ⟨8, [], 0, A1, n, c1, by have := hm0; omega, rfl, rfl, rfl, rfl, by simpa using hb1, hx1⟩
      case round =>
        obtain ⟨f, pre, u, Ak, nk, ck, hu, hpf, hpre, rfl, rfl, hbk, hxk⟩ := hrel
        clear hb1 hx1
        have hnk : nk ≤ 1000008 := by
          have h1 := hbk.len
          rw [List.length_append, h.len] at h1
          omega
        have hu63 : u < 9223372036854775808 := by
          have : 128 ^ (f + 1) ≤ 128 ^ 9 := Nat.pow_le_pow_right (by omega) (by omega)
          omega
        by_cases hbig : 128 ≤ u
        · obtain ⟨f, rfl⟩ : ∃ f', f = f' + 1 := by
            rcases f with _ | f
            · simp at hu; omega
            · exact ⟨f, rfl⟩
          have hpre2 : Hid ((pre ++ [UInt8.ofNat (u % 128 + 128)]) ++ varF f (u / 128) = varl 0) := by
            have := hpre.out
            rw [varF_big hbig] at this
            unfold Hid
            rw [← this]
            simp
          have hu2 : u / 128 < 128 ^ (f + 1) := by
            rw [Nat.pow_succ 128 (f + 1)] at hu
            exact Nat.div_lt_of_lt_mul (by omega)
          have hbv := Lib.hid (byte_more_int u hu63)
          clear hpre hu
          go_wp2_with (at_builtin; refine wpList_append_mine _ rfl _ _ _ _ rfl w.heap.size U8 i0 _ 1 1 under_bytes hi0 hz0 hz1 hz2 rfl Ak nk ck _ rfl (hbk.own.alloc _) _ rfl 1 _ (src_one under_bytes _ rfl) (by simp only [maxLen]; omega) (by omega) (by have := hxk.size; simp; omega) ?_; intro A' c' w2 hown hg _)
          have hb2 : Byt U8 w2 w.heap.size A' (nk + 1) c' (l ++ (pre ++ [UInt8.ofNat (u % 128 + 128)])) := by
            have := Byt.more (l2 := [UInt8.ofNat (u % 128 + 128)]) hbk.len rfl hown (by rw [hbv.out]; rfl)
            simpa using this
          have hx2 : Ext w w2 := below_grown (hxk.trans (Ext.alloc wr _)) (hbk.own.alloc _) hg (by have := hxk.size; simp; omega)
          clear hown hg hbk
          go_wp2
          go_roundw
          case rel => exact ⟨f, pre ++ [UInt8.ofNat (u % 128 + 128)], u / 128, A', nk + 1, c', hu2, by simp; omega, hpre2, rfl, by go_num, hb2, hx2⟩
          case measure => simp [intOf]; omega
        · have hpre2 : Hid (pre ++ [UInt8.ofNat u] = varl 0) := by
            have := hpre.out
            rwa [varF_small (by omega)] at this
          clear hpre hu
          go_wp2_with (at_builtin; refine wpList_append_mine _ rfl _ _ _ _ rfl w.heap.size U8 i0 _ 1 1 under_bytes hi0 hz0 hz1 hz2 rfl Ak nk ck _ rfl (hbk.own.alloc _) _ rfl 1 _ (src_one under_bytes _ rfl) (by simp only [maxLen]; omega) (by omega) (by have := hxk.size; simp; omega) ?_; intro A' c' w2 hown hg _)
          have hb2 : Byt U8 w2 w.heap.size A' (nk + 1) c' (l ++ varl 0) := by
            have := Byt.more (l2 := [UInt8.ofNat u]) hbk.len rfl hown (by simp; omega)
            rw [← hpre2.out]
            simpa using this
          have hx2 : Ext w w2 := below_grown (hxk.trans (Ext.alloc wr _)) (hbk.own.alloc _) hg (by have := hxk.size; simp; omega)
          clear hown hg hbk
          go_wp2
          go_ret
          exact ⟨_, _, _, rfl, hb2, hx2⟩
theorem bits_GetVar (A : Option Addr) (n c : Nat) (l : List UInt8) (a : Int) (w : World) (hs : Sl w A n c l) :
    Calls Try.prog 84 #[.slice A n c, .int .i64 a] w fun e w' => e = .returned (.tuple #[.int .i64 (gvA l a), .int .i64 (gvB l a), .bool (gvC l a)]) ∧ w = w' := by
  have h63 := hs.n63
  have hlen : l.length = n := hs.len
  have HL := Lib.hid hlen
  by_cases ha : a < 0
  · have e : gvN l a = none := by unfold gvN; rw [if_neg (by omega)]
    have e1 : gvA l a = 0 := by unfold gvA; rw [e]
    have e2 : gvB l a = 0 := by unfold gvB; rw [e]
    have e3 : gvC l a = false := by unfold gvC; rw [e]; rfl
    rw [e1, e2, e3]
    clear e e1 e2 e3 hlen
    go_enter Try.func84, Try.ntmps84
    go_wp2
    go_ret3
    exact ⟨rfl, rfl⟩
  obtain ⟨a, rfl⟩ := Int.eq_ofNat_of_zero_le (by omega : 0 ≤ a)
  have HA : Hid (gvN l a = gv (l.drop a)) := by unfold Hid gvN; rw [if_pos (by omega)]; rfl
  have none_ : Hid (gv (l.drop a) = none → gvA l a = 0 ∧ gvB l a = 0 ∧ gvC l a = false) := by
    intro h
    unfold gvA gvB gvC
    rw [HA.out, h]
    exact ⟨rfl, rfl, rfl⟩
  have some_ : Hid (∀ q k, gv (l.drop a) = some (q, k) → gvA l a = q ∧ gvB l a = (a : Int) + k ∧ gvC l a = true) := by
    intro q k h
    unfold gvA gvB gvC
    rw [HA.out, h]
    exact ⟨rfl, rfl, rfl⟩
  clear ha hlen
  go_enter Try.func84, Try.ntmps84
  go_wp2
  go_loop [7, 8] (fun v i => ∃ (k q : Nat), k ≤ 9 ∧ i = .int .i64 k ∧ v = .int .u64 q ∧ Hid (q < 128 ^ k) ∧ gvAt l a k q) (fun _ i => (9 - (intOf i).toNat))
  case atStart => exact ⟨0, 0, by omega, rfl, rfl, by simp [Hid], gvAt_zero _ _⟩
  case round =>
    obtain ⟨k, q, hk, rfl, rfl, hq, hgv⟩ := hrel
    by_cases h9 : k < 9
    · by_cases hlt : a + k < n
      · have hlt' : (a : Int) < (n : Int) - (k : Int) := by omega
        obtain ⟨ad, rfl, hcell⟩ := hs.atD (k := a + k) hlt
        obtain ⟨x, hx⟩ : ∃ x, l.getD (a + k) 0 = x := ⟨_, rfl⟩
        have hxl := x.toNat_lt
        have hlast := gvAt_last hgv h9 (by rw [HL.out]; exact hlt)
        have hzero := gvAt_zero_byte hgv h9 (by rw [HL.out]; exact hlt)
        have hnext := gvAt_next hgv h9 (by rw [HL.out]; exact hlt)
        rw [hx] at hcell hlast hzero hnext
        have hor := Lib.hid (or_seven2 h9 hq.out hxl)
        have hq2 := Lib.hid (q_next (x := x.toNat) hq.out)
        have hlast' := Lib.hid hlast
        have hzero' := Lib.hid hzero
        have hnext' := Lib.hid hnext
        clear hx hlast hzero hnext hgv hq
        by_cases hbig : 128 ≤ x.toNat
        · go_wp2
          go_round
          case rel => exact ⟨k + 1, q + 128 ^ k * (x.toNat % 128), by omega, by go_num, by rw [hor.out], hq2, hnext'.out hbig⟩
          case measure => simp [intOf]; omega
        · have hb63 : q + 128 ^ k * (x.toNat % 128) < 9223372036854775808 := by
            have h1 := hq2.out
            have h2 : 128 ^ (k + 1) ≤ 128 ^ 9 := Nat.pow_le_pow_right (by omega) (by omega)
            omega
          obtain ⟨q', hq'⟩ : ∃ q', q + 128 ^ k * (x.toNat % 128) = q' := ⟨_, rfl⟩
          rw [hq'] at hb63
          have hor' : Hid (bits .or .u64 (q : Int) (IntKind.u64.wrap (IntKind.u64.wrap (bits .and .u8 (x.toNat : Int) 127) * 2 ^ (7 * k))) = (q' : Int)) := by
            rw [← hq']; exact hor
          by_cases hz : x.toNat = 0
          · by_cases hk0 : 0 < k
            · have hz1 : ((x.toNat : Int) == 0) = true := by simp; omega
              have hr := Lib.hid (none_.out (hzero'.out hz hk0))
              clear hz hq'
              go_wp2
              go_ret3
              rw [hr.out.1, hr.out.2.1, hr.out.2.2]
              exact ⟨rfl, rfl⟩
            · have hz1 : ((x.toNat : Int) == 0) = true := by simp; omega
              have hr := some_.out _ _ (hlast'.out (by omega) (fun h => hk0 h.2))
              rw [hq'] at hr
              have HR := Lib.hid hr
              clear hz hr hq'
              have ho := hor'.out
              go_wp2
              go_ret3
              rw [HR.out.1, HR.out.2.1, HR.out.2.2]
              exact ⟨by simp; omega, rfl⟩
          · have hz1 : ((x.toNat : Int) == 0) = false := by simp; omega
            have hr := some_.out _ _ (hlast'.out (by omega) (fun h => hz h.1))
            rw [hq'] at hr
            have HR := Lib.hid hr
            clear hz hr hq'
            have ho := hor'.out
            go_wp2
            go_ret3
            rw [HR.out.1, HR.out.2.1, HR.out.2.2]
            exact ⟨by simp; omega, rfl⟩
      · have hlt' : ¬ (a : Int) < (n : Int) - (k : Int) := by omega
        have hr := Lib.hid (none_.out (gvAt_stop hgv (.inr (by rw [HL.out]; omega))))
        clear hgv hq
        go_wp2
        go_ret3
        rw [hr.out.1, hr.out.2.1, hr.out.2.2]
        exact ⟨rfl, rfl⟩
    · have hr := Lib.hid (none_.out (gvAt_stop hgv (.inl (by omega))))
      clear hgv hq
      go_wp2
      go_ret3
      rw [hr.out.1, hr.out.2.1, hr.out.2.2]
      exact ⟨rfl, rfl⟩
end Go.Proofs.Ytoeknbogaclfdaa

namespace Go.Proofs.Ytoeknbogaclfdaa
open Go.RowKit
set_option linter.unusedVariables false
set_option linter.unusedSimpArgs false
set_option linter.unnecessarySimpa false
set_option maxRecDepth 100000
theorem byteCells_bv (s : ByteArray) : byteCells s = s.data.toList.map bv := rfl
theorem size_list (s : ByteArray) : s.data.toList.length = s.size := by rw [Array.length_toList]; rfl
theorem bits_Text (A : Option Addr) (n c : Nat) (l : List UInt8) (s : ByteArray) (w : World) (h : Sl w A n c l) (hn : n ≤ 1000000) (hs : s.size ≤ 1000000) :
    Calls Try.prog 46 #[.slice A n c, .string s] w fun e w' => ∃ A' n' c', e = .returned (.slice A' n' c') ∧ Byt U8 w' w.heap.size A' n' c' (l ++ varl s.size ++ s.data.toList) ∧ Ext w w' := by
  obtain ⟨i0, hi0, hz0, hz1, hz2⟩ := info_parts info_u8
  go_enter Try.func46, Try.ntmps46
  go_wp2_with fail
  refine (bits_Var A n c l (s.size : Int) _ h hn (by omega)).mono ?_
  rintro e w1 ⟨A1, n1, c1, rfl, hb1, hx1⟩
  rw [Int.toNat_natCast] at hb1
  have hn1 : n1 ≤ 1000009 := by
    have h1 := hb1.len
    have h2 := varl_length s.size
    rw [List.length_append, h.len] at h1
    omega
  go_wp2_with (at_builtin; refine wpList_append_mine _ rfl _ _ _ _ rfl w.heap.size U8 i0 _ 1 1 under_bytes hi0 hz0 hz1 hz2 rfl A1 n1 c1 _ rfl hb1.own _ rfl s.size _ (Src.ofString _ under_str s) (by simp only [maxLen]; omega) (by omega) hx1.size ?_; intro A2 c2 w2 hown hg _)
  have hb2 : Byt U8 w2 w.heap.size A2 (n1 + s.size) c2 (l ++ varl s.size ++ s.data.toList) := Byt.more hb1.len (size_list s) hown (byteCells_bv s)
  have hx2 : Ext w w2 := below_grown hx1 hb1.own hg hx1.size
  go_ret
  exact ⟨_, _, _, rfl, hb2, hx2⟩
theorem ref_Text (A : Option Addr) (n c : Nat) (l : List UInt8) (s : ByteArray) (w : World) (h : Sl w A n c l) (hn : n ≤ 1000000) (hs : s.size ≤ 1000000) :
    Calls Try.prog 89 #[.slice A n c, .string s] w fun e w' => ∃ A' n' c', e = .returned (.slice A' n' c') ∧ Byt U8 w' w.heap.size A' n' c' (l ++ varl s.size ++ s.data.toList) ∧ Ext w w' := by
  obtain ⟨i0, hi0, hz0, hz1, hz2⟩ := info_parts info_u8
  go_enter Try.func89, Try.ntmps89
  go_wp2_with fail
  refine (ref_Var A n c l (s.size : Int) _ h hn (by omega)).mono ?_
  rintro e w1 ⟨A1, n1, c1, rfl, hb1, hx1⟩
  rw [Int.toNat_natCast] at hb1
  have hn1 : n1 ≤ 1000009 := by
    have h1 := hb1.len
    have h2 := varl_length s.size
    rw [List.length_append, h.len] at h1
    omega
  go_wp2_with (at_builtin; refine wpList_append_mine _ rfl _ _ _ _ rfl w.heap.size U8 i0 _ 1 1 under_bytes hi0 hz0 hz1 hz2 rfl A1 n1 c1 _ rfl hb1.own _ rfl s.size _ (Src.ofString _ under_str s) (by simp only [maxLen]; omega) (by omega) hx1.size ?_; intro A2 c2 w2 hown hg _)
  have hb2 : Byt U8 w2 w.heap.size A2 (n1 + s.size) c2 (l ++ varl s.size ++ s.data.toList) := Byt.more hb1.len (size_list s) hown (byteCells_bv s)
  have hx2 : Ext w w2 := below_grown hx1 hb1.own hg hx1.size
  go_ret
  exact ⟨_, _, _, rfl, hb2, hx2⟩
def gtO (l : List UInt8) (a most : Int) : Option (List UInt8 × Int) :=
  (gvN l a).bind fun p => if (p.1 : Int) ≤ most ∧ a.toNat + p.2 + p.1 ≤ l.length then some ((l.drop (a.toNat + p.2)).take p.1, a + p.2 + p.1) else none
def gtA (l : List UInt8) (a most : Int) : List UInt8 := match gtO l a most with | some p => p.1 | none => []
def gtB (l : List UInt8) (a most : Int) : Int := match gtO l a most with | some p => p.2 | none => 0
def gtC (l : List UInt8) (a most : Int) : Bool := (gtO l a most).isSome
theorem gvN_bounds {l : List UInt8} {a : Int} {p : Nat × Nat} (h : gvN l a = some p) : 0 ≤ a ∧ p.1 < 9223372036854775808 ∧ 1 ≤ p.2 ∧ p.2 ≤ 9 ∧ a.toNat + p.2 ≤ l.length := by
  unfold gvN at h
  split at h
  · have := gvF_lt 9 0 _ p h
    rw [List.length_drop] at this
    omega
  · cases h
theorem bits_GetVar' {A : Option Addr} {n c : Nat} {l : List UInt8} {a : Int} {w : World} (hs : Sl w A n c l) (hn6 : n ≤ 1000000) {ga gb : Int} {gc : Bool} (h : Hid (gvA l a = ga ∧ gvB l a = gb ∧ gvC l a = gc)) :
    Calls Try.prog 84 #[.slice A n c, .int .i64 a] w fun e w' => e = .returned (.tuple #[.int .i64 ga, .int .i64 gb, .bool gc]) ∧ w = w' := by
  have := bits_GetVar A n c l a w hs
  rwa [h.out.1, h.out.2.1, h.out.2.2] at this
theorem bits_GetText (A : Option Addr) (n c : Nat) (l : List UInt8) (a most : Int) (w : World) (hs : Sl w A n c l) (hn : n ≤ 1000000) :
    Calls Try.prog 108 #[.slice A n c, .int .i64 a, .int .i64 most] w fun e w' => e = .returned (.tuple #[.string ⟨(gtA l a most).toArray⟩, .int .i64 (gtB l a most), .bool (gtC l a most)]) ∧ w = w' := by
  have h63 := hs.n63
  have hlen : l.length = n := hs.len
  have hcap := hs.cap
  cases ho : gvN l a with
  | none =>
    have hg : Hid (gvA l a = 0 ∧ gvB l a = 0 ∧ gvC l a = false) := by
      unfold Hid gvA gvB gvC
      rw [ho]
      exact ⟨rfl, rfl, rfl⟩
    have hr : gtA l a most = [] ∧ gtB l a most = 0 ∧ gtC l a most = false := by
      unfold gtA gtB gtC gtO
      rw [ho]
      exact ⟨rfl, rfl, rfl⟩
    rw [hr.1, hr.2.1, hr.2.2]
    clear hr ho hlen
    go_enter Try.func108, Try.ntmps108
    go_wp2_with fail
    refine (bits_GetVar' hs hn hg).mono ?_
    rintro e w1 ⟨rfl, rfl⟩
    go_wp2_with fail
    go_ret3
    exact ⟨rfl, rfl⟩
  | some p =>
    obtain ⟨q, k⟩ := p
    have hb := gvN_bounds ho
    simp only at hb
    obtain ⟨h0a, hq63, hk1, hk9, hakl⟩ := hb
    obtain ⟨a, rfl⟩ := Int.eq_ofNat_of_zero_le h0a
    rw [Int.toNat_natCast, hlen] at hakl
    have hg : Hid (gvA l a = (q : Int) ∧ gvB l a = ((a + k : Nat) : Int) ∧ gvC l a = true) := by
      unfold Hid gvA gvB gvC
      rw [ho]
      exact ⟨rfl, by simp, rfl⟩
    obtain ⟨t, ht⟩ : ∃ t, a + k = t := ⟨_, rfl⟩
    rw [ht] at hg hakl
    by_cases hok : (q : Int) ≤ most ∧ t + q ≤ n
    · have hr : gtA l a most = (l.drop t).take q ∧ gtB l a most = (t : Int) + q ∧ gtC l a most = true := by
        unfold gtA gtB gtC gtO
        rw [ho]
        simp only [Option.bind_some, Int.toNat_natCast, ht, hlen]
        rw [if_pos hok]
        refine ⟨rfl, ?_, rfl⟩
        simp only
        omega
      rw [hr.1, hr.2.1, hr.2.2]
      obtain ⟨hm, htq⟩ := hok
      clear hr ho hlen ht
      have hle : (q : Int) ≤ (n : Int) - (t : Int) := by omega
      obtain ⟨B, hB⟩ : ∃ B, (if c = t then A else A.map (·.add (t * 1))) = B := ⟨_, rfl⟩
      have hcut := hs.cut (lo := t) (hi := t + q) (by omega) htq
      rw [hB, Nat.add_sub_cancel_left] at hcut
      have htx := run_text_u8 hcut
      have hsl : ∀ w : World, (Instr.slice 23 (.slice A n c) (some (.int .i64 t)) (some (.int .i64 ((t : Int) + (q : Int)))) none).run Try.prog w = .ok (.slice B q (c - t)) w := by
        intro w
        have h1 := run_cut w A n c t (t + q) (by omega) (by omega)
        rw [hB, Nat.add_sub_cancel_left, Int.natCast_add] at h1
        exact h1
      clear hcut hB
      go_enter Try.func108, Try.ntmps108
      go_wp2_with fail
      refine (bits_GetVar' hs hn hg).mono ?_
      rintro e w1 ⟨rfl, rfl⟩
      go_wp2_with fail
      go_ret3
      exact ⟨rfl, rfl⟩
    · have hr : gtA l a most = [] ∧ gtB l a most = 0 ∧ gtC l a most = false := by
        unfold gtA gtB gtC gtO
        rw [ho]
        simp only [Option.bind_some, Int.toNat_natCast, ht, hlen]
        rw [if_neg hok]
        exact ⟨rfl, rfl, rfl⟩
      rw [hr.1, hr.2.1, hr.2.2]
      clear hr ho hlen ht
      by_cases hm : most < (q : Int)
      · clear hok
        go_enter Try.func108, Try.ntmps108
        go_wp2_with fail
        refine (bits_GetVar' hs hn hg).mono ?_
        rintro e w1 ⟨rfl, rfl⟩
        go_wp2_with fail
        go_ret3
        exact ⟨rfl, rfl⟩
      · have hle : (n : Int) - (t : Int) < (q : Int) := by omega
        clear hok
        go_enter Try.func108, Try.ntmps108
        go_wp2_with fail
        refine (bits_GetVar' hs hn hg).mono ?_
        rintro e w1 ⟨rfl, rfl⟩
        go_wp2_with fail
        go_ret3
        exact ⟨rfl, rfl⟩
end Go.Proofs.Ytoeknbogaclfdaa

namespace Go.Proofs.Ytoeknbogaclfdaa
open Go.RowKit
set_option linter.unusedVariables false
set_option linter.unusedSimpArgs false
set_option linter.unnecessarySimpa false
set_option maxRecDepth 100000
structure Tg where
  id : Int
  ow : Int
  he : Int
  pt : Int
  deriving DecidableEq
def tgR (x : Tg) (cs : List Value) (w : World) : Prop := cs = [.int .i64 x.id, .int .i64 x.ow, .int .i64 x.he, .int .i64 x.pt]
theorem tg_rep : Rep 4 tgR where
  len := by rintro x cs w rfl; rfl
  one := by
    rintro x cs w rfl u hu
    simp at hu
    rcases hu with rfl | rfl | rfl | rfl <;> rfl
  keep := by
    rintro x cs w w' rfl hk
    rfl
  lt := by
    rintro x cs w rfl k ⟨ad, m, c', hm, _⟩
    simp at hm
end Go.Proofs.Ytoeknbogaclfdaa
