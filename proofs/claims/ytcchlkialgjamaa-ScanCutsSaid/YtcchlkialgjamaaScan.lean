/-
  Chapter 11: contracts of the program's ends, Ends, Torn, First.
-/
import Derived.Test.YtcchlkialgjamaaScanPlain
import Derived.Test.YtcchlkialgjamaaBrow
import Derived.Test.YtcchlkialgjamaaInts
import Derived.Test.YtcchlkialgjamaaAppL
namespace Go.Proofs.Ytcchlkialgjamaa
open Go.RowKit
set_option linter.unusedVariables false
set_option linter.unusedSimpArgs false
set_option linter.unnecessarySimpa false
set_option maxRecDepth 100000

set_option maxHeartbeats 1000000 in
theorem scan_ends {A : Option Addr} {n c : Nat} {b : List UInt8} {last : Int} {w : World} (hb : Sl w A n c b) (hn6 : n ≤ 1000000) {am : Nat} (HAM : Hid (endL b last = am)) :
    Calls Try.prog 49 #[.slice A n c, .int .i64 last] w fun e w' => e = .returned (.int .i64 (am : Int)) ∧ Ext w w' := by
  have h63 := hb.n63
  have hbl := hb.len
  go_enter Try.func49, Try.ntmps49
  go_wp2_with fail
  go_loopw [5] (fun i wr => ∃ (k : Nat), Hid (Ended b last k) ∧ k ≤ n ∧ i = .int .i64 k ∧ Ext w wr) (fun i _ => n - (intOf i).toNat)
  case atStart => exact ⟨0, ended_zero b last, by omega, rfl, Ext.refl _⟩
  case round =>
    obtain ⟨k, hup, hkn, rfl, hxr⟩ := hrel
    have ht := tkA_at (b := b) (k := k) (by omega)
    by_cases h0 : tkE (b.drop k) = 0
    · rw [if_pos h0] at ht
      by_cases hS' : (tkS (b.drop k) : Int) ≤ last
      · have hnx := ended_next hup.out h0 hS'
        have hk1 : k + (tkN (b.drop k) + 22) ≤ n := by have := ended_le hnx; omega
        obtain ⟨T, hT⟩ : ∃ q, tkT (b.drop k) = q := ⟨_, rfl⟩
        obtain ⟨S, hS⟩ : ∃ q, tkS (b.drop k) = q := ⟨_, rfl⟩
        obtain ⟨D, hD⟩ : ∃ q, tkD (b.drop k) = q := ⟨_, rfl⟩
        obtain ⟨k2, hk2⟩ : ∃ q, k + (tkN (b.drop k) + 22) = q := ⟨_, rfl⟩
        have hkk : k + 22 ≤ k2 := by omega
        rw [hT, hS, hD, hk2] at ht
        rw [hk2] at hk1 hnx
        rw [hS] at hS'
        have HT := Lib.hid ht
        have HNX := Lib.hid hnx
        have hgt : ¬ (last < (S : Int)) := by omega
        clear ht hnx hT hS hD hk2 h0 hup hS'
        go_wp2_with fail
        refine (frame_Take (hb.ext hxr) hn6 HT).mono ?_
        rintro e w2 ⟨A2, n2, c2, rfl, hb2, hx2⟩
        clear hb2
        go_wp2_with fail
        go_roundw
        case rel => exact ⟨k2, HNX, hk1, rfl, (hxr.trans hx2).trans (Ext.alloc _ _)⟩
        case measure => simp [intOf]; omega
      · have he := ended_end hup.out (.inr hS')
        rw [HAM.out] at he
        subst he
        obtain ⟨T, hT⟩ : ∃ q, tkT (b.drop k) = q := ⟨_, rfl⟩
        obtain ⟨S, hS⟩ : ∃ q, tkS (b.drop k) = q := ⟨_, rfl⟩
        obtain ⟨D, hD⟩ : ∃ q, tkD (b.drop k) = q := ⟨_, rfl⟩
        obtain ⟨k2, hk2⟩ : ∃ q, k + (tkN (b.drop k) + 22) = q := ⟨_, rfl⟩
        rw [hT, hS, hD, hk2] at ht
        rw [hS] at hS'
        have HT := Lib.hid ht
        have hgt : last < (S : Int) := by omega
        clear ht hT hS hD hk2 h0 hup hS' HAM
        go_wp2_with fail
        refine (frame_Take (hb.ext hxr) hn6 HT).mono ?_
        rintro e w2 ⟨A2, n2, c2, rfl, hb2, hx2⟩
        clear hb2
        go_wp2_with fail
        go_ret
        exact ⟨rfl, (hxr.trans hx2).trans (Ext.alloc _ _)⟩
    · rw [if_neg h0] at ht
      have he := ended_end hup.out (.inl h0)
      rw [HAM.out] at he
      subst he
      obtain ⟨er, her⟩ : ∃ q, tkE (b.drop k) = q := ⟨_, rfl⟩
      rw [her] at ht h0
      have hern : ((er : Int) != 0) = true := by simpa using h0
      have HT := Lib.hid ht
      clear ht h0 her hup HAM
      go_wp2_with fail
      refine (frame_Take (hb.ext hxr) hn6 HT).mono ?_
      rintro e w2 ⟨A2, n2, c2, rfl, hb2, hx2⟩
      clear hb2
      go_wp2_with fail
      go_ret
      exact ⟨rfl, (hxr.trans hx2).trans (Ext.alloc _ _)⟩

/-- rows that are short -/
def Short (rows : List (List UInt8)) : Prop := ∀ r ∈ rows, r.length ≤ 10000
theorem map_next {α β : Type} {f : α → β} {xs : List α} {k : Nat} {x : α} (h : xs[k]? = some x) : (xs.take (k + 1)).map f = (xs.take k).map f ++ [f x] := by
  rw [List.take_add_one, h]
  simp
theorem pts_int {x : Int} {k : Nat} {p : Prop} : Pts [.int .i64 x] k → p := by
  rintro ⟨ad, m, c', hm, _⟩
  simp at hm

set_option maxHeartbeats 1000000 in
theorem scan_Ends {A : Option Addr} {n c : Nat} {rows : List (List UInt8)} {last : Int} {w : World} (hl : Lst 1 blR w A n c rows) (hn : n ≤ 40) (hs : Short rows) :
    Calls Try.prog 36 #[.slice A n c, .int .i64 last] w fun e w' => ∃ A' c', e = .returned (.slice A' n c') ∧ OwnL INT 1 intR w' w.heap.size A' n c' (endsL rows last) ∧ Ext w w' := by
  have h63 := hl.n63
  obtain ⟨i0, hi0, hz0, hz1, hz2⟩ := info_parts info_int
  obtain ⟨F, hF⟩ : ∃ q : List UInt8 → Int, (fun r => (endL r last : Int)) = q := ⟨_, rfl⟩
  have HF := Lib.hid hF
  unfold endsL
  rw [hF]
  clear hF
  go_enter Try.func36, Try.ntmps36
  go_wp2_with fail
  go_loopw [5, 10] (fun v i wr => ∃ (k : Nat) (Ak : Option Addr) (ck : Nat) (es : List Int), k ≤ n ∧ i = .int .i64 k ∧ v = .slice Ak k ck ∧ OwnL INT 1 intR wr w.heap.size Ak k ck es ∧ Hid ((rows.take k).map F = es) ∧ Ext w wr) (fun _ i _ => n - (intOf i).toNat)
  case atStart => exact ⟨0, none, 0, [], by omega, rfl, rfl, OwnL.nil _ _ _ _, rfl, Ext.refl _⟩
  case round =>
    obtain ⟨k, Ak, ck, es, hk, rfl, rfl, hown, hes, hxr⟩ := hrel
    by_cases hlt : k < n
    · obtain ⟨ga, oa, r, Ar, nr, cr, rfl, hr, a0, hsl⟩ := row_at hl hlt
      have hnr : nr ≤ 1000000 := by have := hs r (List.mem_of_getElem? hr); rw [hsl.len] at this; omega
      have hnx := map_next (f := F) hr
      rw [hes.out] at hnx
      replace a0 := hxr.cell a0
      replace hsl := hsl.ext hxr
      obtain ⟨m, hm⟩ : ∃ q, endL r last = q := ⟨_, rfl⟩
      have hFr : F r = (m : Int) := by have := congrFun HF.out r; rw [← this, ← hm]
      rw [hFr] at hnx
      have HM := Lib.hid hm
      have HNX := Lib.hid hnx
      clear hm hnx hFr hr hes hs HF
      go_wp2_with fail
      refine (scan_ends hsl hnr HM).mono ?_
      rintro e w2 ⟨rfl, hx2⟩
      have hown2 := hown.ext int_rep hx2
      have hx3 := hxr.trans hx2
      clear a0 hsl
      have hfd : Feed Try.prog 1 intR (w2.alloc (.cells #[.int .i64 (m : Int)] INT)) 46 Ak ck (.slice (some ⟨w2.heap.size, 0, none⟩) 1 1) 1 [(m : Int)] := Feed.lit int_rep _ _ rfl under_ints (fun k hk => pts_int hk) rfl
      go_wp2_with (at_builtin; refine wpList_append_lst (w0 := w) int_rep rfl _ _ _ _ rfl INT i0 _ 8 under_ints hi0 hz0 hz1 hz2 rfl Ak k ck _ rfl (hown2.ext int_rep (Ext.alloc _ _)) _ 1 [(m : Int)] rfl hfd (k + 1) rfl _ rfl (by simp only [maxLen]; omega) (by omega) (hx3.allocs _) ?_; intro A3 c3 w3 hown3 hx4)
      go_wp2_with fail
      go_roundw
      case rel => exact ⟨k + 1, A3, c3, _, by omega, by go_num, rfl, hown3, HNX, hx4⟩
      case measure => simp [intOf]; omega
    · obtain rfl : k = n := by omega
      rw [← hes.out, List.take_of_length_le (by rw [hl.len]; exact Nat.le_refl _)] at hown
      clear hes HF
      go_wp2_with fail
      go_ret
      exact ⟨_, _, rfl, hown, hxr⟩

theorem any_next {f : List UInt8 → Bool} {xs : List (List UInt8)} {k : Nat} {x : List UInt8} (h : xs[k]? = some x) (h0 : (xs.take k).any f = false) : (xs.take (k + 1)).any f = f x := by
  rw [List.take_add_one, h, List.any_append, h0]
  simp
set_option maxHeartbeats 1000000 in
theorem scan_Torn {A : Option Addr} {n c : Nat} {rows : List (List UInt8)} {last : Int} {w : World} (hl : Lst 1 blR w A n c rows) (hn : n ≤ 40) (hs : Short rows) {res : Bool} (HR : Hid (tornL rows last = res)) :
    Calls Try.prog 33 #[.slice A n c, .int .i64 last] w fun e w' => e = .returned (.bool res) ∧ Ext w w' := by
  have h63 := hl.n63
  obtain ⟨F, hF⟩ : ∃ q : List UInt8 → Bool, (fun r => decide (endL r last < r.length)) = q := ⟨_, rfl⟩
  have HF := Lib.hid hF
  have HR2 : Hid (rows.any F = res) := by rw [← hF]; exact HR
  clear hF HR
  go_enter Try.func33, Try.ntmps33
  go_wp2_with fail
  go_loopw [9] (fun i wr => ∃ (k : Nat), k ≤ n ∧ i = .int .i64 k ∧ Hid ((rows.take k).any F = false) ∧ Ext w wr) (fun i _ => n - (intOf i).toNat)
  case atStart => exact ⟨0, by omega, rfl, rfl, Ext.refl _⟩
  case round =>
    obtain ⟨k, hk, rfl, hes, hxr⟩ := hrel
    by_cases hlt : k < n
    · obtain ⟨ga, oa, r, Ar, nr, cr, rfl, hr, a0, hsl⟩ := row_at hl hlt
      have hrl := hsl.len
      have hnr : nr ≤ 1000000 := by have := hs r (List.mem_of_getElem? hr); omega
      have hnx := any_next (f := F) hr hes.out
      replace a0 := hxr.cell a0
      replace hsl := hsl.ext hxr
      obtain ⟨m, hm⟩ : ∃ q, endL r last = q := ⟨_, rfl⟩
      have hFr : F r = decide (m < nr) := by have := congrFun HF.out r; rw [← this]; simp only [hm, hrl]
      rw [hFr] at hnx
      have hmr : r ∈ rows := List.mem_of_getElem? hr
      by_cases hmn : m < nr
      · have e : res = true := by
          rw [← HR2.out, List.any_eq_true]
          exact ⟨r, hmr, by rw [hFr]; simpa using hmn⟩
        subst e
        have HM := Lib.hid hm
        clear hm hnx hFr hr hes hs HF HR2 hmr hrl
        go_wp2_with fail
        refine (scan_ends hsl hnr HM).mono ?_
        rintro e w2 ⟨rfl, hx2⟩
        go_wp2_with fail
        go_ret
        exact ⟨rfl, hxr.trans hx2⟩
      · have HNX : Hid ((rows.take (k + 1)).any F = false) := by unfold Hid; rw [hnx]; simpa using hmn
        have HM := Lib.hid hm
        clear hm hnx hFr hr hes hs HF HR2 hmr hrl
        go_wp2_with fail
        refine (scan_ends hsl hnr HM).mono ?_
        rintro e w2 ⟨rfl, hx2⟩
        go_wp2_with fail
        go_roundw
        case rel => exact ⟨k + 1, by omega, by go_num, HNX, hxr.trans hx2⟩
        case measure => simp [intOf]; omega
    · obtain rfl : k = n := by omega
      have e := hes.out
      rw [List.take_of_length_le (by rw [hl.len]; exact Nat.le_refl _), HR2.out] at e
      subst e
      clear hes HF HR2
      go_wp2_with fail
      go_ret
      exact ⟨rfl, hxr⟩
end Go.Proofs.Ytcchlkialgjamaa
