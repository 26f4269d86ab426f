/-
  Chains cut, chains alike: contracts of the program's Cut and Same, the reference CutChain, slices.Clone and slices.Equal of tags.
-/
import Derived.Test.YtkoknleopmlhcaaChainOrd
import Derived.Test.YtkoknleopmlhcaaTagFlat
import Derived.Deep.QuietTactic
namespace Go.Proofs.Ytkoknleopmlhcaa
open Go.RowKit
set_option linter.unusedVariables false
set_option linter.unusedSimpArgs false
set_option linter.unnecessarySimpa false
set_option maxRecDepth 100000

theorem cut_yes {xs C : List Tg} {k : Nat} {x : Tg} {e : Int} (h : xs.take k ++ cutL (xs.drop k) e = C) (hx : xs[k]? = some x) (hp : x.pt ≤ e) : xs.take (k + 1) ++ cutL (xs.drop (k + 1)) e = C := by
  rw [drop_step hx, cutL, if_pos hp] at h
  rw [← h, List.take_add_one, hx]
  simp
theorem cut_no {xs C : List Tg} {k : Nat} {x : Tg} {e : Int} (h : xs.take k ++ cutL (xs.drop k) e = C) (hx : xs[k]? = some x) (hp : ¬ x.pt ≤ e) : C = xs.take k := by
  rw [drop_step hx, cutL, if_neg hp] at h
  rw [← h]
  simp
theorem cut_end {xs C : List Tg} {k : Nat} {e : Int} (h : xs.take k ++ cutL (xs.drop k) e = C) (hk : xs.length ≤ k) : C = xs.take k := by
  rw [List.drop_of_length_le hk, cutL] at h
  rw [← h]
  simp
set_option maxHeartbeats 1000000 in
theorem clone_tags {A : Option Addr} {n c : Nat} {l : List Tg} {w : World} (h : Lst 4 tgR w A n c l) (hn : n ≤ 1000000) :
    Calls Try.prog 57 #[.slice A n c] w fun e w' => ∃ A' c', e = .returned (.slice A' n c') ∧ OwnL TTg 4 tgR w' w.heap.size A' n c' l ∧ Ext w w' := by
  have he := fun w => Lib.run_eql_slice_nil (P := Try.prog) w 24 TTg A n c 0 0 under_tgs
  obtain ⟨i0, hi0, hz0, hz1, hz2⟩ := info_parts info_tg
  cases A with
  | none =>
    have h0 : n = 0 := by
      rcases Nat.eq_zero_or_pos n with h0 | h0
      · exact h0
      · obtain ⟨_, _, h2⟩ := h.rd
        obtain ⟨ad, e, _⟩ := h2.2 h0; cases e
    have hl : l = [] := List.eq_nil_of_length_eq_zero (by rw [h.len, h0])
    subst h0
    subst hl
    go_enter Try.func57, Try.ntmps57
    go_wp2
    go_ret
    exact ⟨_, _, rfl, OwnL.nil _ _ _ _, Ext.refl _⟩
  | some ad =>
    go_enter Try.func57, Try.ntmps57
    go_wp2_with (
      at_builtin
      refine wpList_append_flat (w0 := w) tg_rep (fun x cs w h => tag_nop h) rfl _ _ _ _ rfl TTg TTg i0 _ 32 under_tgs under_tgs hi0 hz0 hz1 hz2 rfl _ 0 0 [] rfl (OwnL.nil _ _ _ _) _ n c l rfl (h.ext tg_rep (Ext.alloc _ _)) n (by omega) l rfl (by simp only [maxLen]; omega) (by omega) (Ext.alloc _ _) ?_
      intro A3 c3 w3 hb3 hx3)
    go_ret
    exact ⟨_, _, rfl, hb3, hx3⟩
set_option maxHeartbeats 1000000 in
theorem chain_Cut {A : Option Addr} {n c : Nat} {xs : List Tg} {e : Int} {w : World} (l1 : Lst 4 tgR w A n c xs) (hn : n ≤ 1000000) {C : List Tg} (hC : Hid (cutL xs e = C)) :
    Calls Try.prog 31 #[.slice A n c, .int .i64 e] w fun e w' => ∃ A' n' c', e = .returned (.slice A' n' c') ∧ OwnL TTg 4 tgR w' w.heap.size A' n' c' C ∧ Ext w w' := by
  have h63 := l1.n63
  go_enter Try.func31, Try.ntmps31
  go_wp2_with fail
  go_loopw [5] (fun i wr => ∃ k : Nat, k ≤ n ∧ i = .int .i64 k ∧ Hid (xs.take k ++ cutL (xs.drop k) e = C) ∧ Ext w wr) (fun i _ => n - (intOf i).toNat)
  case atStart => exact ⟨0, by omega, rfl, by unfold Hid; rw [← hC.out]; simp, Ext.refl _⟩
  case round =>
    obtain ⟨k, hk, rfl, hrk, hxr⟩ := hrel
    clear hC
    have hcut := cut_tg l1 k (k : Int) rfl hk
    have lk := l1.upto tg_rep (m := k) hk
    by_cases hlt : k < n
    · obtain ⟨ga, oa, x, cs, rfl, hx, rfl, ha⟩ := l1.at2 tg_rep (by omega) hlt
      have a3 := hxr.cell (ha 3 _ rfl)
      by_cases hp : x.pt ≤ e
      · have HN := Lib.hid (cut_yes hrk.out hx hp)
        obtain ⟨x1, x2, x3, x4⟩ := x
        simp only at a3 hp
        clear ha hx hrk
        go_wp2_with fail
        go_roundw
        case rel => exact ⟨k + 1, by omega, by go_num, HN, hxr⟩
        case measure => simp [intOf]; omega
      · obtain rfl := cut_no hrk.out hx hp
        obtain ⟨x1, x2, x3, x4⟩ := x
        simp only at a3 hp
        clear ha hx hrk
        go_wp2_with fail
        refine (clone_tags (lk.ext tg_rep hxr) (by omega)).mono ?_
        rintro e w2 ⟨A2, c2, rfl, h2, hx2⟩
        go_wp2_with fail
        go_ret
        exact ⟨_, _, _, rfl, h2.low hxr.size, hxr.trans hx2⟩
    · obtain rfl := cut_end hrk.out (by rw [l1.len]; omega)
      clear hrk
      go_wp2_with fail
      refine (clone_tags (lk.ext tg_rep hxr) (by omega)).mono ?_
      rintro e w2 ⟨A2, c2, rfl, h2, hx2⟩
      go_wp2_with fail
      go_ret
      exact ⟨_, _, _, rfl, h2.low hxr.size, hxr.trans hx2⟩
set_option maxHeartbeats 1000000 in
theorem ref_CutChain {A : Option Addr} {n c : Nat} {xs : List Tg} {e : Int} {w : World} (l1 : Lst 4 tgR w A n c xs) (hn : n ≤ 1000000) {C : List Tg} (hC : Hid (cutL xs e = C)) :
    Calls Try.prog 42 #[.slice A n c, .int .i64 e] w fun e w' => ∃ A' n' c', e = .returned (.slice A' n' c') ∧ OwnL TTg 4 tgR w' w.heap.size A' n' c' C ∧ Ext w w' := by
  have h63 := l1.n63
  obtain ⟨i0, hi0, hz0, hz1, hz2⟩ := info_parts info_tg
  go_enter Try.func42, Try.ntmps42
  go_wp2_with fail
  go_loopw [5, 6] (fun v i wr => ∃ (k : Nat) (Ao : Option Addr) (co : Nat), k ≤ n ∧ v = .slice Ao k co ∧ i = .int .i64 k ∧ OwnL TTg 4 tgR wr w.heap.size Ao k co (xs.take k) ∧ Hid (xs.take k ++ cutL (xs.drop k) e = C) ∧ Ext w wr) (fun _ i _ => n - (intOf i).toNat)
  case atStart => exact ⟨0, none, 0, by omega, rfl, rfl, OwnL.nil _ _ _ _, by unfold Hid; rw [← hC.out]; simp, Ext.refl _⟩
  case round =>
    obtain ⟨k, Ao, co, hk, rfl, rfl, hown, hrk, hxr⟩ := hrel
    clear hC
    by_cases hlt : k < n
    · obtain ⟨ga, oa, x, cs, rfl, hx, rfl, ha⟩ := l1.at2 tg_rep (by omega) hlt
      have a0 : wr.cell? ⟨ga, oa + k * 4, none⟩ = _ := hxr.cell (ha 0 _ rfl)
      have a1 := hxr.cell (ha 1 _ rfl)
      have a2 := hxr.cell (ha 2 _ rfl)
      have a3 := hxr.cell (ha 3 _ rfl)
      by_cases hp : x.pt ≤ e
      · have HN := Lib.hid (cut_yes hrk.out hx hp)
        have HT : xs.take k ++ [x] = xs.take (k + 1) := by rw [List.take_add_one, hx]; rfl
        obtain ⟨x1, x2, x3, x4⟩ := x
        simp only at a0 a1 a2 a3 hp
        have lit := (tag_lit wr ⟨x1, x2, x3, x4⟩).lst
        have HT2 := Lib.hid HT
        clear ha hx hrk HT
        go_wp2_with (
          at_builtin
          refine wpList_append_flat (w0 := w) tg_rep (fun x cs w h => tag_nop h) rfl (.tmp 22) (.tmp 27) _ _ rfl TTg TTg i0 _ 32 under_tgs under_tgs hi0 hz0 hz1 hz2 rfl Ao k co (xs.take k) rfl (hown.ext tg_rep (Ext.alloc _ _)) _ 1 1 [⟨x1, x2, x3, x4⟩] rfl lit (k + 1) rfl _ HT2.out (by simp only [maxLen]; omega) (by omega) (hxr.allocs _) ?_
          intro A3 c3 w3 hb3 hx3)
        go_wp2_with fail
        go_roundw
        case rel => exact ⟨k + 1, A3, c3, by omega, rfl, by go_num, hb3, HN, hx3⟩
        case measure => simp [intOf]; omega
      · obtain rfl := cut_no hrk.out hx hp
        obtain ⟨x1, x2, x3, x4⟩ := x
        simp only at a0 a1 a2 a3 hp
        clear ha hx hrk
        go_wp2_with fail
        go_ret
        exact ⟨_, _, _, rfl, hown, hxr⟩
    · obtain rfl := cut_end hrk.out (by rw [l1.len]; omega)
      clear hrk
      go_wp2_with fail
      go_ret
      exact ⟨_, _, _, rfl, hown, hxr⟩
end Go.Proofs.Ytkoknleopmlhcaa
