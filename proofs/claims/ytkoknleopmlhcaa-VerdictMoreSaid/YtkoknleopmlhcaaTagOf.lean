/-
  Chains: whose tag an event has: contracts of both Of's.
-/
import Derived.Test.YtkoknleopmlhcaaTagLie
namespace Go.Proofs.Ytkoknleopmlhcaa
open Go.RowKit
set_option linter.unusedVariables false
set_option linter.unusedSimpArgs false
set_option linter.unnecessarySimpa false
set_option maxRecDepth 100000

/-- the last tag that begins ahead of an event -/
def ofI : List Tg → Int → Int → Int
  | [], _, d => d
  | x :: xs, s, d => ofI xs s (if x.pt < s then x.id else d)
theorem ofI_append (s : Int) : ∀ (xs ys : List Tg) (d : Int), ofI (xs ++ ys) s d = ofI ys s (ofI xs s d)
  | [], ys, d => rfl
  | x :: xs, ys, d => by rw [List.cons_append, ofI, ofI, ofI_append s xs ys]
theorem ofI_next {xs : List Tg} {k : Nat} {x : Tg} (hx : xs[k]? = some x) (s d : Int) : ofI (xs.take (k + 1)) s d = if x.pt < s then x.id else ofI (xs.take k) s d := by
  rw [List.take_add_one, hx, ofI_append]
  rfl
theorem ofI_back {xs : List Tg} {s : Int} : ∀ (f k : Nat), xs.length ≤ k + f → (∀ (j : Nat) (y : Tg), k ≤ j → xs[j]? = some y → ¬ y.pt < s) → ofI xs s 0 = ofI (xs.take k) s 0
  | 0, k, hk, h => by rw [List.take_of_length_le (by omega)]
  | f + 1, k, hk, h => by
    rw [ofI_back f (k + 1) (by omega) (fun j y hj hy => h j y (by omega) hy)]
    cases hx : xs[k]? with
    | none =>
      rw [List.getElem?_eq_none_iff] at hx
      rw [List.take_of_length_le (by omega), List.take_of_length_le (by omega)]
    | some x => rw [ofI_next hx, if_neg (h k x (Nat.le_refl _) hx)]

set_option maxHeartbeats 1000000 in
theorem ref_TagOf {A : Option Addr} {n c : Nat} {xs : List Tg} {s : Int} {w : World} (l1 : Lst 4 tgR w A n c xs) {r : Int} (hr : Hid (ofI xs s 0 = r)) :
    Calls Try.prog 41 #[.slice A n c, .int .i64 s] w fun e w' => e = .returned (.int .i64 r) ∧ Ext w w' := by
  have h63 := l1.n63
  go_enter Try.func41, Try.ntmps41
  go_wp2_with fail
  go_loopw [5, 6] (fun v i wr => ∃ (k : Nat) (d : Int), k ≤ n ∧ v = .int .i64 d ∧ i = .int .i64 k ∧ Hid (ofI (xs.take k) s 0 = d) ∧ Ext w wr) (fun _ i _ => n - (intOf i).toNat)
  case atStart => exact ⟨0, 0, by omega, rfl, rfl, rfl, Ext.refl _⟩
  case round =>
    obtain ⟨k, d, hk, rfl, rfl, hrk, hxr⟩ := hrel
    by_cases hlt : k < n
    · obtain ⟨ga, oa, x, cs, rfl, hx, rfl, ha⟩ := l1.at2 tg_rep (by omega) hlt
      have hn := ofI_next hx s 0
      rw [hrk.out] at hn
      have a0 : wr.cell? ⟨ga, oa + k * 4, none⟩ = _ := hxr.cell (ha 0 _ rfl)
      have a3 := hxr.cell (ha 3 _ rfl)
      obtain ⟨x1, x2, x3, x4⟩ := x
      simp only at hn a0 a3
      clear ha hx hrk
      by_cases hls : x4 < s
      · rw [if_pos hls] at hn
        have HN := Lib.hid hn
        clear hn
        go_wp2_with fail
        go_roundw
        case rel => exact ⟨k + 1, x1, by omega, rfl, by go_num, HN, hxr⟩
        case measure => simp [intOf]; omega
      · rw [if_neg hls] at hn
        have HN := Lib.hid hn
        clear hn
        go_wp2_with fail
        go_roundw
        case rel => exact ⟨k + 1, d, by omega, rfl, by go_num, HN, hxr⟩
        case measure => simp [intOf]; omega
    · obtain rfl : k = n := by omega
      obtain rfl : d = r := by rw [← hrk.out, ← hr.out, List.take_of_length_le (by rw [l1.len]; exact Nat.le_refl _)]
      clear hrk hr
      go_wp2_with fail
      go_ret
      exact ⟨rfl, hxr⟩
set_option maxHeartbeats 1000000 in
theorem chain_Of {A : Option Addr} {n c : Nat} {xs : List Tg} {s : Int} {w : World} (l1 : Lst 4 tgR w A n c xs) {r : Int} (hr : Hid (ofI xs s 0 = r)) :
    Calls Try.prog 36 #[.slice A n c, .int .i64 s] w fun e w' => e = .returned (.int .i64 r) ∧ Ext w w' := by
  have h63 := l1.n63
  go_enter Try.func36, Try.ntmps36
  go_wp2_with fail
  go_loopw [5] (fun i wr => ∃ k : Nat, k ≤ n ∧ i = .int .i64 ((k : Int) - 1) ∧ Hid (ofI (xs.take k) s 0 = r) ∧ Ext w wr) (fun i _ => (intOf i + 1).toNat)
  case atStart => exact ⟨n, by omega, rfl, by unfold Hid; rw [List.take_of_length_le (by rw [l1.len]; exact Nat.le_refl _)]; exact hr.out, Ext.refl _⟩
  case round =>
    obtain ⟨k, hk, rfl, hrk, hxr⟩ := hrel
    by_cases hk0 : 0 < k
    · obtain ⟨ga, oa, x, cs, rfl, hx, rfl, ha⟩ := l1.at2 tg_rep (i := k - 1) (by omega) (by omega)
      obtain ⟨k, rfl⟩ : ∃ k', k = k' + 1 := ⟨k - 1, by omega⟩
      simp only [Nat.add_sub_cancel] at hx ha
      have hn := hrk.out
      rw [ofI_next hx] at hn
      have a0 : wr.cell? ⟨ga, oa + k * 4, none⟩ = _ := hxr.cell (ha 0 _ rfl)
      have a3 := hxr.cell (ha 3 _ rfl)
      obtain ⟨x1, x2, x3, x4⟩ := x
      simp only at hn a0 a3
      clear ha hx hrk
      rw [show ((k + 1 : Nat) : Int) - 1 = (k : Int) by omega]
      by_cases hlt : x4 < s
      · rw [if_pos hlt] at hn
        subst hn
        go_wp2_with fail
        go_ret
        exact ⟨rfl, hxr⟩
      · rw [if_neg hlt] at hn
        have HN := Lib.hid hn
        clear hn
        go_wp2_with fail
        go_roundw
        case rel => exact ⟨k, by omega, rfl, HN, hxr⟩
        case measure => simp [intOf]
    · obtain rfl : k = 0 := by omega
      have hn : (0 : Int) = r := hrk.out
      subst hn
      clear hrk
      go_wp2_with fail
      go_ret
      exact ⟨rfl, hxr⟩
end Go.Proofs.Ytkoknleopmlhcaa
