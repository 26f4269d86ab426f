/-
  Contracts of package bits: Put, Var.
-/
import Derived.Test.YtoeknbogaclfdaaZCore
import Derived.Test.YtoeknbogaclfdaaZLePlain
namespace Go.Proofs.Ytoeknbogaclfdaa
open Go.RowKit
set_option linter.unusedVariables false
set_option maxRecDepth 100000

theorem bits_Put_loop (A : Option Addr) (n c : Nat) (l : List UInt8) (x wd : Nat) (w : World) (h : Sl w A n c l) (hn : n ≤ 1000000) (hx : x < 18446744073709551616) (hw1 : 1 ≤ wd) (hw8 : wd ≤ 8) :
    Calls Try.prog 82 #[.slice A n c, .int .u64 x, .int .i64 wd] w fun e w' => ∃ A' c', e = .returned (.slice A' (n + wd) c') ∧ Byt U8 w' w.heap.size A' (n + wd) c' (put l x wd) ∧ Ext w w' := by
  obtain ⟨i0, hi0, hz0, hz1, hz2⟩ := info_parts info_u8
  go_enter Try.func82, Try.ntmps82
  go_wp2_with (go_at_call 80; refine (slices_Clone A n c l _ h hn).mono ?_; rintro e w1 ⟨A1, c1, rfl, hb1, hx1⟩)
  go_loopw [7, 19] (fun v i wr => ∃ (k : Nat) (Ak : Option Addr) (ck : Nat), k ≤ wd ∧ i = .int .i64 k ∧ v = .slice Ak (n + k) ck ∧ Byt U8 wr w.heap.size Ak (n + k) ck (l ++ le k x) ∧ Ext w wr) (fun _ i _ => wd - (intOf i).toNat)
  case atStart => exact ⟨0, A1, c1, by omega, rfl, rfl, by simpa [le] using hb1, hx1⟩
  case round =>
    obtain ⟨k, Ak, ck, hk, rfl, rfl, hbk, hxk⟩ := hrel
    go_wp2_with (at_builtin; refine wpList_append_mine _ rfl _ _ _ _ rfl w.heap.size U8 i0 _ 1 1 under_bytes hi0 hz0 hz1 hz2 rfl Ak (n + k) ck _ rfl (hbk.own.alloc _) _ rfl 1 _ (src_one under_bytes _ rfl) (by simp only [maxLen]; omega) (by omega) (by have := hxk.size; simp; omega) ?_; intro A' c' w2 hown hg _)
    · have hk2 : k < wd := by assumption
      have hb2 : Byt U8 w2 w.heap.size A' (n + k + 1) c' (l ++ le (k + 1) x) := by
        have := Byt.more (l2 := [UInt8.ofNat (x / 256 ^ k)]) hbk.len rfl hown (by simp [byte_of_nat])
        rw [le_snoc]
        simpa using this
      have hx2 : Ext w w2 := below_grown (hxk.trans (Ext.alloc wr _)) (hbk.own.alloc _) hg (by have := hxk.size; simp; omega)
      clear hown hg hbk
      go_wp2
      go_roundw
      case rel => exact ⟨k + 1, A', c', by omega, by go_num, rfl, hb2, hx2⟩
      case measure => simp [intOf]; omega
    · have hk2 : k = wd := by omega
      subst hk2
      go_ret
      exact ⟨_, _, rfl, hbk, hxk⟩

def putI (l : List UInt8) (x : Nat) (wd : Int) : List UInt8 := if 1 ≤ wd ∧ wd ≤ 8 then put l x wd.toNat else l

theorem bits_Put (A : Option Addr) (n c : Nat) (l : List UInt8) (x : Nat) (wd : Int) (w : World) (h : Sl w A n c l) (hn : n ≤ 1000000) (hx : x < 18446744073709551616) :
    Calls Try.prog 82 #[.slice A n c, .int .u64 x, .int .i64 wd] w fun e w' => ∃ A' n' c', e = .returned (.slice A' n' c') ∧ Byt U8 w' w.heap.size A' n' c' (putI l x wd) ∧ Ext w w' := by
  by_cases hw : 1 ≤ wd ∧ wd ≤ 8
  · obtain ⟨m, rfl⟩ := Int.eq_ofNat_of_zero_le (by omega : 0 ≤ wd)
    refine (bits_Put_loop A n c l x m w h hn hx (by omega) (by omega)).mono ?_
    rintro e w' ⟨A', c', rfl, hb, hx⟩
    exact ⟨A', _, c', rfl, by unfold putI; rw [if_pos hw]; exact hb, hx⟩
  · have hp : putI l x wd = l := by unfold putI; rw [if_neg hw]
    rw [hp]
    clear hp
    by_cases h1 : wd < 1
    · go_enter Try.func82, Try.ntmps82
      go_wp2_with (go_at_call 80; refine (slices_Clone A n c l _ h hn).mono ?_; rintro e w1 ⟨A1, c1, rfl, hb1, hx1⟩)
      go_ret
      exact ⟨_, _, _, rfl, hb1, hx1⟩
    · have h2 : 8 < wd := by omega
      go_enter Try.func82, Try.ntmps82
      go_wp2_with (go_at_call 80; refine (slices_Clone A n c l _ h hn).mono ?_; rintro e w1 ⟨A1, c1, rfl, hb1, hx1⟩)
      go_ret
      exact ⟨_, _, _, rfl, hb1, hx1⟩

theorem ref_Put (A : Option Addr) (n c : Nat) (l : List UInt8) (x : Nat) (wd : Int) (w : World) (h : Sl w A n c l) (hn : n ≤ 1000000) (hx : x < 18446744073709551616) :
    Calls Try.prog 53 #[.slice A n c, .int .u64 x, .int .i64 wd] w fun e w' => ∃ A' n' c', e = .returned (.slice A' n' c') ∧ Byt U8 w' w.heap.size A' n' c' (putI l x wd) ∧ Ext w w' := by
  obtain ⟨i0, hi0, hz0, hz1, hz2⟩ := info_parts info_u8
  obtain ⟨m, hm⟩ : ∃ m : Nat, m = if 1 ≤ wd ∧ wd ≤ 8 then wd.toNat else 0 := ⟨_, rfl⟩
  have hm8 : m ≤ 8 := by split at hm <;> omega
  have hm0 : ∀ k : Nat, k < m ↔ ((k : Int) < wd ∧ wd ≤ 8) := by intro k; split at hm <;> omega
  have hp : Hid (putI l x wd = l ++ le m x) := by
    unfold Hid putI
    split <;> rename_i hc
    · rw [if_pos hc] at hm; rw [hm]; rfl
    · rw [if_neg hc] at hm; rw [hm]; simp [le]
  have H0 := Lib.hid hm0
  clear hm hm0
  go_enter Try.func53, Try.ntmps53
  go_wp2_with (at_builtin; refine wpList_append_mine _ rfl _ _ _ _ rfl w.heap.size U8 i0 _ 1 1 under_bytes hi0 hz0 hz1 hz2 rfl _ 0 0 [] rfl (Own.nil _ _ _ _ _) _ rfl n (l.map bv) ((h.ext (Ext.alloc _ _)).src under_bytes) (by simp only [maxLen]; omega) (by omega) (by simp) ?_; intro A1 c1 w1 hown hg _)
  have hb1 : Byt U8 w1 w.heap.size A1 n c1 l := ⟨h.len, by simpa using hown⟩
  have hx1 : Ext w w1 := below_grown (Ext.alloc w _) (Own.nil _ _ U8 1 _) hg (by simp)
  clear hown hg
  go_loopw [7, 8] (fun v i wr => ∃ (k : Nat) (Ak : Option Addr) (ck : Nat), k ≤ m ∧ i = .int .i64 k ∧ v = .slice Ak (n + k) ck ∧ Byt U8 wr w.heap.size Ak (n + k) ck (l ++ le k x) ∧ Ext w wr) (fun _ i _ => m - (intOf i).toNat)
  case atStart => exact ⟨0, A1, c1, by omega, rfl, rfl, by simpa [le] using hb1, hx1⟩
  case round =>
    obtain ⟨k, Ak, ck, hk, rfl, rfl, hbk, hxk⟩ := hrel
    clear hb1 hx1
    have hkm := H0.out k
    by_cases hlt : k < m
    · obtain ⟨hk1, hk2⟩ := hkm.1 hlt
      clear hkm
      go_wp2_with (at_builtin; refine wpList_append_mine _ rfl _ _ _ _ rfl w.heap.size U8 i0 _ 1 1 under_bytes hi0 hz0 hz1 hz2 rfl Ak (n + k) ck _ rfl (hbk.own.alloc _) _ rfl 1 _ (src_one under_bytes _ rfl) (by simp only [maxLen]; omega) (by omega) (by have := hxk.size; simp; omega) ?_; intro A' c' w2 hown hg _)
      have hb2 : Byt U8 w2 w.heap.size A' (n + k + 1) c' (l ++ le (k + 1) x) := by
        have := Byt.more (l2 := [UInt8.ofNat (x / 256 ^ k)]) hbk.len rfl hown (by simp [byte_of_nat])
        rw [le_snoc]
        simpa using this
      have hx2 : Ext w w2 := below_grown (hxk.trans (Ext.alloc wr _)) (hbk.own.alloc _) hg (by have := hxk.size; simp; omega)
      clear hown hg hbk
      go_wp2
      go_roundw
      case rel => exact ⟨k + 1, A', c', by omega, by go_num, rfl, hb2, hx2⟩
      case measure => simp [intOf]; omega
    · have hno : ¬ ((k : Int) < wd ∧ wd ≤ 8) := fun h => hlt (hkm.2 h)
      obtain rfl : k = m := by omega
      clear hkm
      by_cases h1 : (k : Int) < wd
      · have h2 : 8 < wd := by omega
        go_wp2
        go_ret
        exact ⟨_, _, _, rfl, by rw [hp.out]; exact hbk, hxk⟩
      · go_wp2
        go_ret
        exact ⟨_, _, _, rfl, by rw [hp.out]; exact hbk, hxk⟩
end Go.Proofs.Ytoeknbogaclfdaa
