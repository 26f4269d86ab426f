/-
  Bytes of another length: contract of the reference's Sized.
-/
import Derived.Test.YtcklkjklepmabaaZCore
namespace Go.Proofs.Ytcklkjklepmabaa
open Go.RowKit
set_option linter.unusedVariables false
set_option linter.unusedSimpArgs false
set_option linter.unnecessarySimpa false
set_option maxRecDepth 100000

def sizedL (l : List UInt8) (k : Nat) : List UInt8 := l.take k ++ List.replicate (k - l.length) 0

theorem ref_Sized (A : Option Addr) (n c : Nat) (l : List UInt8) (k : Nat) (w : World) (h : Sl w A n c l) (hn : n ≤ 1000000) (hk : k ≤ 1000000) :
    Calls Try.prog 22 #[.slice A n c, .int .i64 k] w fun e w' => ∃ A' c', e = .returned (.slice A' k c') ∧ Byt U8 w' w.heap.size A' k c' (sizedL l k) ∧ Ext w w' := by
  obtain ⟨i0, hi0, hz0, hz1, hz2⟩ := info_parts info_u8
  have hcap := h.cap
  have hlen := h.len
  have h63 := h.n63
  by_cases hkn : k ≤ n
  · have hcut := h.upto (hi := k) (by omega)
    cases A with
    | none =>
      have h0 : n = 0 := by
        rcases Nat.eq_zero_or_pos n with h0 | h0
        · exact h0
        · obtain ⟨ad, e, _⟩ := h.rd.2 h0; cases e
      have hl0 : l = [] := List.eq_nil_of_length_eq_zero (by rw [h.len, h0])
      subst h0 hl0
      obtain rfl : k = 0 := by omega
      go_enter Try.func22, Try.ntmps22
      go_wp2_with (at_builtin; refine wpList_append_mine _ rfl _ _ _ _ rfl w.heap.size U8 i0 _ 1 1 under_bytes hi0 hz0 hz1 hz2 rfl _ 0 0 _ rfl (Own.nil _ _ _ _ _) _ rfl 0 (([] : List UInt8).map bv) ((h.ext (Ext.alloc _ _)).src under_bytes) (by simp only [maxLen]; omega) (by omega) (by simp) ?_; intro P cpp wp hown hg _)
      have hb : Byt U8 wp w.heap.size P 0 cpp ([]) := ⟨h.len, by simpa using hown⟩
      have hx : Ext w wp := below_grown (Ext.alloc w _) (Own.nil _ _ U8 1 _) hg (by simp)
      clear hown hg
      go_loopw [5] (fun v wr => ∃ (j : Nat) (Ak : Option Addr) (ck : Nat), 0 + j ≤ 0 ∧ v = .slice Ak (0 + j) ck ∧ Byt U8 wr w.heap.size Ak (0 + j) ck ([] ++ List.replicate j 0) ∧ Ext w wr) (fun v _ => match v with | .slice _ m _ => 0 - m | _ => 0)
      case atStart => exact ⟨0, P, cpp, by omega, rfl, by simpa using hb, hx⟩
      case round =>
        obtain ⟨j, Ak, ck, hj, rfl, hbk, hxk⟩ := hrel
        by_cases hlt : 0 + j < 0
        · exact absurd hlt (by omega)
        · go_wp2
          go_ret
          have e : 0 + j = 0 := by omega
          refine ⟨Ak, ck, by rw [e]; rfl, ?_, hxk⟩
          rw [e] at hbk
          have e2 : sizedL [] 0 = [] ++ List.replicate j 0 := by
            unfold sizedL
            rw [List.take_nil, List.length_nil, show 0 - 0 = j by omega]
          rw [e2]
          exact hbk
    | some ad =>
      go_enter Try.func22, Try.ntmps22
      go_wp2_with (at_builtin; refine wpList_append_mine _ rfl _ _ _ _ rfl w.heap.size U8 i0 _ 1 1 under_bytes hi0 hz0 hz1 hz2 rfl _ 0 0 _ rfl (Own.nil _ _ _ _ _) _ rfl k ((l.take k).map bv) ((hcut.ext (Ext.alloc _ _)).src under_bytes) (by simp only [maxLen]; omega) (by omega) (by simp) ?_; intro P cpp wp hown hg _)
      have hb : Byt U8 wp w.heap.size P k cpp (l.take k) := ⟨hcut.len, by simpa using hown⟩
      have hx : Ext w wp := below_grown (Ext.alloc w _) (Own.nil _ _ U8 1 _) hg (by simp)
      clear hown hg
      go_loopw [5] (fun v wr => ∃ (j : Nat) (Ak : Option Addr) (ck : Nat), k + j ≤ k ∧ v = .slice Ak (k + j) ck ∧ Byt U8 wr w.heap.size Ak (k + j) ck (l.take k ++ List.replicate j 0) ∧ Ext w wr) (fun v _ => match v with | .slice _ m _ => k - m | _ => 0)
      case atStart => exact ⟨0, P, cpp, by omega, rfl, by simpa using hb, hx⟩
      case round =>
        obtain ⟨j, Ak, ck, hj, rfl, hbk, hxk⟩ := hrel
        by_cases hlt : k + j < k
        · exact absurd hlt (by omega)
        · go_wp2
          go_ret
          have e : k + j = k := by omega
          refine ⟨Ak, ck, by rw [e]; rfl, ?_, hxk⟩
          rw [e] at hbk
          have e2 : sizedL l k = l.take k ++ List.replicate j 0 := by
            unfold sizedL
            rw [show k - l.length = j by omega]
          rw [e2]
          exact hbk
  · have hcut := h.upto (hi := n) (by omega)
    have hl : l.take n = l := List.take_of_length_le (by omega)
    cases A with
    | none =>
      have h0 : n = 0 := by
        rcases Nat.eq_zero_or_pos n with h0 | h0
        · exact h0
        · obtain ⟨ad, e, _⟩ := h.rd.2 h0; cases e
      have hl0 : l = [] := List.eq_nil_of_length_eq_zero (by rw [h.len, h0])
      subst h0 hl0
      go_enter Try.func22, Try.ntmps22
      go_wp2_with (at_builtin; refine wpList_append_mine _ rfl _ _ _ _ rfl w.heap.size U8 i0 _ 1 1 under_bytes hi0 hz0 hz1 hz2 rfl _ 0 0 _ rfl (Own.nil _ _ _ _ _) _ rfl 0 (([] : List UInt8).map bv) ((h.ext (Ext.alloc _ _)).src under_bytes) (by simp only [maxLen]; omega) (by omega) (by simp) ?_; intro P cpp wp hown hg _)
      have hb : Byt U8 wp w.heap.size P 0 cpp ([]) := ⟨h.len, by simpa using hown⟩
      have hx : Ext w wp := below_grown (Ext.alloc w _) (Own.nil _ _ U8 1 _) hg (by simp)
      clear hown hg
      go_loopw [5] (fun v wr => ∃ (j : Nat) (Ak : Option Addr) (ck : Nat), 0 + j ≤ k ∧ v = .slice Ak (0 + j) ck ∧ Byt U8 wr w.heap.size Ak (0 + j) ck ([] ++ List.replicate j 0) ∧ Ext w wr) (fun v _ => match v with | .slice _ m _ => k - m | _ => 0)
      case atStart => exact ⟨0, P, cpp, by omega, rfl, by simpa using hb, hx⟩
      case round =>
        obtain ⟨j, Ak, ck, hj, rfl, hbk, hxk⟩ := hrel
        by_cases hlt : 0 + j < k
        · go_wp2_with (at_builtin; refine wpList_append_mine _ rfl _ _ _ _ rfl w.heap.size U8 i0 _ 1 1 under_bytes hi0 hz0 hz1 hz2 rfl Ak (0 + j) ck _ rfl (hbk.own.alloc _) _ rfl 1 _ (src_one under_bytes _ rfl) (by simp only [maxLen]; omega) (by omega) (by have := hxk.size; simp; omega) ?_; intro A' c' w2 hown hg _)
          have hb2 : Byt U8 w2 w.heap.size A' (0 + (j + 1)) c' ([] ++ List.replicate (j + 1) 0) := by
            have := Byt.more (l2 := [0]) hbk.len rfl hown rfl
            rw [List.replicate_succ', ← List.append_assoc]
            exact this
          have hx2 : Ext w w2 := below_grown (hxk.trans (Ext.alloc wr _)) (hbk.own.alloc _) hg (by have := hxk.size; simp; omega)
          clear hown hg hbk
          go_wp2
          go_roundw
          case rel => exact ⟨j + 1, A', c', by omega, by simp, hb2, hx2⟩
          case measure => simp; omega
        · go_wp2
          go_ret
          have e : 0 + j = k := by omega
          refine ⟨Ak, ck, by rw [e]; rfl, ?_, hxk⟩
          rw [e] at hbk
          have e2 : sizedL [] k = [] ++ List.replicate j 0 := by
            unfold sizedL
            rw [List.take_nil, List.length_nil, show k - 0 = j by omega]
          rw [e2]
          exact hbk
    | some ad =>
      go_enter Try.func22, Try.ntmps22
      go_wp2_with (at_builtin; refine wpList_append_mine _ rfl _ _ _ _ rfl w.heap.size U8 i0 _ 1 1 under_bytes hi0 hz0 hz1 hz2 rfl _ 0 0 _ rfl (Own.nil _ _ _ _ _) _ rfl n ((l).map bv) ((h.ext (Ext.alloc _ _)).src under_bytes) (by simp only [maxLen]; omega) (by omega) (by simp) ?_; intro P cpp wp hown hg _)
      have hb : Byt U8 wp w.heap.size P n cpp (l) := ⟨h.len, by simpa using hown⟩
      have hx : Ext w wp := below_grown (Ext.alloc w _) (Own.nil _ _ U8 1 _) hg (by simp)
      clear hown hg
      go_loopw [5] (fun v wr => ∃ (j : Nat) (Ak : Option Addr) (ck : Nat), n + j ≤ k ∧ v = .slice Ak (n + j) ck ∧ Byt U8 wr w.heap.size Ak (n + j) ck (l ++ List.replicate j 0) ∧ Ext w wr) (fun v _ => match v with | .slice _ m _ => k - m | _ => 0)
      case atStart => exact ⟨0, P, cpp, by omega, rfl, by simpa using hb, hx⟩
      case round =>
        obtain ⟨j, Ak, ck, hj, rfl, hbk, hxk⟩ := hrel
        by_cases hlt : n + j < k
        · go_wp2_with (at_builtin; refine wpList_append_mine _ rfl _ _ _ _ rfl w.heap.size U8 i0 _ 1 1 under_bytes hi0 hz0 hz1 hz2 rfl Ak (n + j) ck _ rfl (hbk.own.alloc _) _ rfl 1 _ (src_one under_bytes _ rfl) (by simp only [maxLen]; omega) (by omega) (by have := hxk.size; simp; omega) ?_; intro A' c' w2 hown hg _)
          have hb2 : Byt U8 w2 w.heap.size A' (n + (j + 1)) c' (l ++ List.replicate (j + 1) 0) := by
            have := Byt.more (l2 := [0]) hbk.len rfl hown rfl
            rw [List.replicate_succ', ← List.append_assoc]
            exact this
          have hx2 : Ext w w2 := below_grown (hxk.trans (Ext.alloc wr _)) (hbk.own.alloc _) hg (by have := hxk.size; simp; omega)
          clear hown hg hbk
          go_wp2
          go_roundw
          case rel => exact ⟨j + 1, A', c', by omega, rfl, hb2, hx2⟩
          case measure => simp; omega
        · go_wp2
          go_ret
          have e : n + j = k := by omega
          refine ⟨Ak, ck, by rw [e]; rfl, ?_, hxk⟩
          rw [e] at hbk
          have e2 : sizedL l k = l ++ List.replicate j 0 := by
            unfold sizedL
            rw [show k - l.length = j by omega, List.take_of_length_le (by omega)]
          rw [e2]
          exact hbk
end Go.Proofs.Ytcklkjklepmabaa
