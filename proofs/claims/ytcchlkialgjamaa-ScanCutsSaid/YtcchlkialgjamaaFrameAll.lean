/-
  Frames: contracts of the program's All, Seek and of the reference's AllFrames.
-/
import Derived.Test.YtcchlkialgjamaaFrameTake
import Derived.Test.YtcchlkialgjamaaLst
namespace Go.Proofs.Ytcchlkialgjamaa
open Go.RowKit
set_option linter.unusedVariables false
set_option linter.unusedSimpArgs false
set_option linter.unnecessarySimpa false
set_option maxRecDepth 100000

def enL (l : List Fr) : List En := l.map fun f => ⟨f.t, f.s, f.d⟩
theorem tkA_at {b : List UInt8} {k : Nat} (hk : k ≤ b.length) : tkA b (k : Int) = if tkE (b.drop k) = 0 then (tkT (b.drop k), tkS (b.drop k), tkD (b.drop k), ((k + (tkN (b.drop k) + 22) : Nat) : Int), 0) else (0, 0, [], 0, tkE (b.drop k)) := by
  unfold tkA
  rw [if_neg (by omega), Int.toNat_natCast]
  split
  · simp; omega
  · rfl
/-- how far a row of frames is taken -/
def Upto (b : List UInt8) (k : Nat) (es : List En) : Prop := k ≤ b.length ∧ es ++ enL (allL (b.drop k)).1 = enL (allL b).1 ∧ k + (allL (b.drop k)).2 = (allL b).2
theorem upto_zero (b : List UInt8) : Upto b 0 [] := ⟨Nat.zero_le _, by simp, by simp⟩
theorem upto_next {b : List UInt8} {k : Nat} {es : List En} (h : Upto b k es) (h0 : tkE (b.drop k) = 0) : Upto b (k + (tkN (b.drop k) + 22)) (es ++ [⟨tkT (b.drop k), tkS (b.drop k), tkD (b.drop k)⟩]) := by
  obtain ⟨h1, h2, h3⟩ := h
  have h6 := (lay_take h0).2.2.2
  rw [List.length_drop] at h6
  rw [allL_yes h0] at h2 h3
  refine ⟨by omega, ?_, ?_⟩
  · rw [← h2, List.append_assoc, List.drop_drop]
    rfl
  · rw [← h3, List.drop_drop]
    simp only
    omega
theorem upto_end {b : List UInt8} {k : Nat} {es : List En} (h : Upto b k es) (h0 : tkE (b.drop k) ≠ 0) : es = enL (allL b).1 ∧ k = (allL b).2 := by
  obtain ⟨h1, h2, h3⟩ := h
  rw [allL_no h0] at h2 h3
  exact ⟨by simpa [enL] using h2, by simpa using h3⟩

set_option maxHeartbeats 1000000 in
theorem frame_All {A : Option Addr} {n c : Nat} {b : List UInt8} {w : World} (hb : Sl w A n c b) (hn6 : n ≤ 1000000) :
    Calls Try.prog 26 #[.slice A n c] w fun e w' => ∃ A' n' c', e = .returned (.tuple #[.slice A' n' c', .int .i64 (allL b).2]) ∧ OwnL TEn 3 enR w' w.heap.size A' n' c' (enL (allL b).1) ∧ Ext w w' := by
  have h63 := hb.n63
  have hbl := hb.len
  obtain ⟨i0, hi0, hz0, hz1, hz2⟩ := info_parts info_en
  obtain ⟨ae, hae⟩ : ∃ q, enL (allL b).1 = q := ⟨_, rfl⟩
  obtain ⟨am, ham⟩ : ∃ q, (allL b).2 = q := ⟨_, rfl⟩
  rw [hae, ham]
  have HAE := Lib.hid hae
  have HAM := Lib.hid ham
  clear hae ham
  go_enter Try.func26, Try.ntmps26
  go_wp2_with fail
  go_loopw [4, 5] (fun v i wr => ∃ (k : Nat) (es : List En) (Ak : Option Addr) (m ck : Nat), Hid (Upto b k es) ∧ k ≤ n ∧ m * 22 ≤ k ∧ v = .slice Ak m ck ∧ i = .int .i64 k ∧ OwnL TEn 3 enR wr w.heap.size Ak m ck es ∧ Ext w wr) (fun _ i _ => n - (intOf i).toNat)
  case atStart => exact ⟨0, [], none, 0, 0, upto_zero b, by omega, by omega, rfl, rfl, OwnL.nil _ _ _ _, Ext.refl _⟩
  case round =>
    obtain ⟨k, es, Ak, m, ck, hup, hkn, hmk, rfl, rfl, hown, hxr⟩ := hrel
    have ht := tkA_at (b := b) (k := k) (by omega)
    by_cases h0 : tkE (b.drop k) = 0
    · rw [if_pos h0] at ht
      have hnx := upto_next hup.out h0
      have hk1 : k + (tkN (b.drop k) + 22) ≤ n := by have := hnx.1; omega
      obtain ⟨T, hT⟩ : ∃ q, tkT (b.drop k) = q := ⟨_, rfl⟩
      obtain ⟨S, hS⟩ : ∃ q, tkS (b.drop k) = q := ⟨_, rfl⟩
      obtain ⟨D, hD⟩ : ∃ q, tkD (b.drop k) = q := ⟨_, rfl⟩
      obtain ⟨k2, hk2⟩ : ∃ q, k + (tkN (b.drop k) + 22) = q := ⟨_, rfl⟩
      have hkk : k + 22 ≤ k2 := by omega
      rw [hT, hS, hD, hk2] at ht hnx
      rw [hk2] at hk1
      have HT := Lib.hid ht
      have HNX := Lib.hid hnx
      clear ht hnx hT hS hD hk2 h0 hup
      go_wp2_with fail
      refine (frame_Take (hb.ext hxr) hn6 HT).mono ?_
      rintro e w2 ⟨A2, n2, c2, rfl, hb2, hx2⟩
      have hr2 := hxr.size
      have hw2 := hx2.size
      obtain ⟨css, ha, ho, hp⟩ := (hown.ext en_rep hx2).own
      have hlen := hown.len
      have hrow := hown.row_lt
      have hA2 : All2 enR ((w2.alloc (.cells #[.int .i64 T, .int .i64 S, .slice A2 n2 c2] 24)).alloc (.cells #[.int .i64 T, .int .i64 S, .slice A2 n2 c2] 24)) [⟨T, S, D⟩] [[.int .i64 T, .int .i64 S, .slice A2 n2 c2]] := .cons ⟨A2, n2, c2, rfl, (hb2.sl.ext (Ext.alloc _ _)).ext (Ext.alloc _ _)⟩ .nil
      have hsrc : Src Try.prog 3 32 (.slice (some ⟨w2.heap.size + 1, 0, none⟩) 1 1) 1 [.int .i64 T, .int .i64 S, .slice A2 n2 c2] ((w2.alloc (.cells #[.int .i64 T, .int .i64 S, .slice A2 n2 c2] 24)).alloc (.cells #[.int .i64 T, .int .i64 S, .slice A2 n2 c2] 24)) := by
        have := src_cells (P := Try.prog) (w := w2.alloc (.cells #[.int .i64 T, .int .i64 S, .slice A2 n2 c2] 24)) (e := 24) under_ens #[.int .i64 T, .int .i64 S, .slice A2 n2 c2] rfl (by intro u hu; simp at hu; rcases hu with rfl | rfl | rfl <;> rfl)
        rw [show (w2.alloc (.cells #[.int .i64 T, .int .i64 S, .slice A2 n2 c2] 24)).heap.size = w2.heap.size + 1 by simp] at this
        exact this
      have hk3 : ∀ cs ∈ [[Value.int .i64 T, .int .i64 S, .slice A2 n2 c2]], ∀ k, Pts cs k → rowOf Ak ck ≠ some k := by
        intro cs hcs k hk e
        simp at hcs
        subst hcs
        obtain ⟨ad, e1, e2, e3⟩ := pts_en hk
        have h4 := hb2.fr ad e1 e2
        have h5 := (hrow k e).2
        omega
      go_wp2_with (at_builtin; refine wpList_append_mine _ rfl _ _ _ _ rfl w.heap.size TEn i0 _ 3 40 under_ens hi0 hz0 hz1 hz2 rfl Ak m ck _ rfl ((ho.alloc _).alloc _) _ rfl 1 _ hsrc (by simp only [maxLen]; omega) (by omega) (by simp; omega) ?_; intro A3 c3 w3 hown3 hg3 hr3)
      have hnew : OwnL TEn 3 enR w3 w.heap.size A3 (m + 1) c3 (es ++ [⟨T, S, D⟩]) := OwnL.more en_rep hlen rfl (ha.mono fun x cs _ hr => en_rep.keep _ _ _ _ hr fun k hk => Below.block ((Ext.alloc _ _).allocs _) k (en_rep.lt _ _ _ hr k hk)) hp hA2 hk3 (by simpa using hown3) hg3 hr3
      have hx3 : Ext w w3 := below_grown (((hxr.trans hx2).allocs _).allocs _) ((ho.alloc _).alloc _) hg3 (by simp; omega)
      clear hown3 hg3 hr3 hk3 hsrc hA2 ha ho hp hown hb2 hrow
      go_wp2_with fail
      go_roundw
      case rel => exact ⟨k2, _, A3, m + 1, c3, HNX, hk1, by omega, rfl, rfl, hnew, hx3⟩
      case measure => simp [intOf]; omega
    · rw [if_neg h0] at ht
      obtain ⟨e1, e2⟩ := upto_end hup.out h0
      obtain ⟨er, her⟩ : ∃ q, tkE (b.drop k) = q := ⟨_, rfl⟩
      rw [her] at ht h0
      have hern : ((er : Int) != 0) = true := by simpa using h0
      have HT := Lib.hid ht
      rw [HAE.out] at e1
      rw [HAM.out] at e2
      subst e1 e2
      clear ht h0 her hup
      go_wp2_with fail
      refine (frame_Take (hb.ext hxr) hn6 HT).mono ?_
      rintro e w2 ⟨A2, n2, c2, rfl, hb2, hx2⟩
      go_wp2_with fail
      go_ret2
      exact ⟨_, _, _, rfl, (hown.ext en_rep hx2).ext en_rep (Ext.alloc _ _), (hxr.trans hx2).trans (Ext.alloc _ _)⟩
set_option maxHeartbeats 1000000 in
theorem ref_AllFrames {A : Option Addr} {n c : Nat} {b : List UInt8} {w : World} (hb : Sl w A n c b) (hn6 : n ≤ 1000000) :
    Calls Try.prog 27 #[.slice A n c] w fun e w' => ∃ A' n' c', e = .returned (.tuple #[.slice A' n' c', .int .i64 (allL b).2]) ∧ OwnL TEn 3 enR w' w.heap.size A' n' c' (enL (allL b).1) ∧ Ext w w' := by
  have h63 := hb.n63
  have hbl := hb.len
  obtain ⟨i0, hi0, hz0, hz1, hz2⟩ := info_parts info_en
  obtain ⟨ae, hae⟩ : ∃ q, enL (allL b).1 = q := ⟨_, rfl⟩
  obtain ⟨am, ham⟩ : ∃ q, (allL b).2 = q := ⟨_, rfl⟩
  rw [hae, ham]
  have HAE := Lib.hid hae
  have HAM := Lib.hid ham
  clear hae ham
  go_enter Try.func27, Try.ntmps27
  go_wp2_with fail
  go_loopw [4, 5] (fun v i wr => ∃ (k : Nat) (es : List En) (Ak : Option Addr) (m ck : Nat), Hid (Upto b k es) ∧ k ≤ n ∧ m * 22 ≤ k ∧ v = .slice Ak m ck ∧ i = .int .i64 k ∧ OwnL TEn 3 enR wr w.heap.size Ak m ck es ∧ Ext w wr) (fun _ i _ => n - (intOf i).toNat)
  case atStart => exact ⟨0, [], none, 0, 0, upto_zero b, by omega, by omega, rfl, rfl, OwnL.nil _ _ _ _, Ext.refl _⟩
  case round =>
    obtain ⟨k, es, Ak, m, ck, hup, hkn, hmk, rfl, rfl, hown, hxr⟩ := hrel
    have ht := tkA_at (b := b) (k := k) (by omega)
    by_cases hlt : k < n
    case neg =>
      have h0 : tkE (b.drop k) ≠ 0 := by rw [List.drop_of_length_le (by omega)]; decide
      obtain ⟨e1, e2⟩ := upto_end hup.out h0
      rw [HAE.out] at e1
      rw [HAM.out] at e2
      subst e1 e2
      clear ht h0 hup
      go_wp2_with fail
      go_ret2
      exact ⟨_, _, _, rfl, hown, hxr⟩
    by_cases h0 : tkE (b.drop k) = 0
    · rw [if_pos h0] at ht
      have hnx := upto_next hup.out h0
      have hk1 : k + (tkN (b.drop k) + 22) ≤ n := by have := hnx.1; omega
      obtain ⟨T, hT⟩ : ∃ q, tkT (b.drop k) = q := ⟨_, rfl⟩
      obtain ⟨S, hS⟩ : ∃ q, tkS (b.drop k) = q := ⟨_, rfl⟩
      obtain ⟨D, hD⟩ : ∃ q, tkD (b.drop k) = q := ⟨_, rfl⟩
      obtain ⟨k2, hk2⟩ : ∃ q, k + (tkN (b.drop k) + 22) = q := ⟨_, rfl⟩
      have hkk : k + 22 ≤ k2 := by omega
      rw [hT, hS, hD, hk2] at ht hnx
      rw [hk2] at hk1
      have HT := Lib.hid ht
      have HNX := Lib.hid hnx
      clear ht hnx hT hS hD hk2 h0 hup
      go_wp2_with fail
      refine (ref_TakeFrame (hb.ext hxr) hn6 HT).mono ?_
      rintro e w2 ⟨A2, n2, c2, rfl, hb2, hx2⟩
      have hr2 := hxr.size
      have hw2 := hx2.size
      obtain ⟨css, ha, ho, hp⟩ := (hown.ext en_rep hx2).own
      have hlen := hown.len
      have hrow := hown.row_lt
      have hA2 : All2 enR ((w2.alloc (.cells #[.int .i64 T, .int .i64 S, .slice A2 n2 c2] 24)).alloc (.cells #[.int .i64 T, .int .i64 S, .slice A2 n2 c2] 24)) [⟨T, S, D⟩] [[.int .i64 T, .int .i64 S, .slice A2 n2 c2]] := .cons ⟨A2, n2, c2, rfl, (hb2.sl.ext (Ext.alloc _ _)).ext (Ext.alloc _ _)⟩ .nil
      have hsrc : Src Try.prog 3 32 (.slice (some ⟨w2.heap.size + 1, 0, none⟩) 1 1) 1 [.int .i64 T, .int .i64 S, .slice A2 n2 c2] ((w2.alloc (.cells #[.int .i64 T, .int .i64 S, .slice A2 n2 c2] 24)).alloc (.cells #[.int .i64 T, .int .i64 S, .slice A2 n2 c2] 24)) := by
        have := src_cells (P := Try.prog) (w := w2.alloc (.cells #[.int .i64 T, .int .i64 S, .slice A2 n2 c2] 24)) (e := 24) under_ens #[.int .i64 T, .int .i64 S, .slice A2 n2 c2] rfl (by intro u hu; simp at hu; rcases hu with rfl | rfl | rfl <;> rfl)
        rw [show (w2.alloc (.cells #[.int .i64 T, .int .i64 S, .slice A2 n2 c2] 24)).heap.size = w2.heap.size + 1 by simp] at this
        exact this
      have hk3 : ∀ cs ∈ [[Value.int .i64 T, .int .i64 S, .slice A2 n2 c2]], ∀ k, Pts cs k → rowOf Ak ck ≠ some k := by
        intro cs hcs k hk e
        simp at hcs
        subst hcs
        obtain ⟨ad, e1, e2, e3⟩ := pts_en hk
        have h4 := hb2.fr ad e1 e2
        have h5 := (hrow k e).2
        omega
      go_wp2_with (at_builtin; refine wpList_append_mine _ rfl _ _ _ _ rfl w.heap.size TEn i0 _ 3 40 under_ens hi0 hz0 hz1 hz2 rfl Ak m ck _ rfl ((ho.alloc _).alloc _) _ rfl 1 _ hsrc (by simp only [maxLen]; omega) (by omega) (by simp; omega) ?_; intro A3 c3 w3 hown3 hg3 hr3)
      have hnew : OwnL TEn 3 enR w3 w.heap.size A3 (m + 1) c3 (es ++ [⟨T, S, D⟩]) := OwnL.more en_rep hlen rfl (ha.mono fun x cs _ hr => en_rep.keep _ _ _ _ hr fun k hk => Below.block ((Ext.alloc _ _).allocs _) k (en_rep.lt _ _ _ hr k hk)) hp hA2 hk3 (by simpa using hown3) hg3 hr3
      have hx3 : Ext w w3 := below_grown (((hxr.trans hx2).allocs _).allocs _) ((ho.alloc _).alloc _) hg3 (by simp; omega)
      clear hown3 hg3 hr3 hk3 hsrc hA2 ha ho hp hown hb2 hrow
      go_wp2_with fail
      go_roundw
      case rel => exact ⟨k2, _, A3, m + 1, c3, HNX, hk1, by omega, rfl, rfl, hnew, hx3⟩
      case measure => simp [intOf]; omega
    · rw [if_neg h0] at ht
      obtain ⟨e1, e2⟩ := upto_end hup.out h0
      obtain ⟨er, her⟩ : ∃ q, tkE (b.drop k) = q := ⟨_, rfl⟩
      rw [her] at ht h0
      have hern : ((er : Int) != 0) = true := by simpa using h0
      have HT := Lib.hid ht
      rw [HAE.out] at e1
      rw [HAM.out] at e2
      subst e1 e2
      clear ht h0 her hup
      go_wp2_with fail
      refine (ref_TakeFrame (hb.ext hxr) hn6 HT).mono ?_
      rintro e w2 ⟨A2, n2, c2, rfl, hb2, hx2⟩
      go_wp2_with fail
      go_ret2
      exact ⟨_, _, _, rfl, (hown.ext en_rep hx2).ext en_rep (Ext.alloc _ _), (hxr.trans hx2).trans (Ext.alloc _ _)⟩

/-- the first place with a frame, from a place on -/
def seekF : Nat → List UInt8 → Nat → Int
  | 0, _, _ => -1
  | f + 1, b, k => if k < b.length then (if tkE (b.drop k) = 0 then (k : Int) else seekF f b (k + 1)) else -1
def seekL (b : List UInt8) (a : Int) : Int := seekF (b.length + 1 - (max a 0).toNat) b (max a 0).toNat
theorem seekF_done {b : List UInt8} {k : Nat} (h : ¬ k < b.length) (f : Nat) : seekF f b k = -1 := by
  cases f with
  | zero => rfl
  | succ f => rw [seekF, if_neg h]
theorem seekF_yes {b : List UInt8} {k : Nat} (h : k < b.length) (h0 : tkE (b.drop k) = 0) : seekF (b.length + 1 - k) b k = (k : Int) := by
  obtain ⟨f, hf⟩ : ∃ f, b.length + 1 - k = f + 1 := ⟨b.length - k, by omega⟩
  rw [hf, seekF, if_pos h, if_pos h0]
theorem seekF_no {b : List UInt8} {k : Nat} (h : k < b.length) (h0 : tkE (b.drop k) ≠ 0) : seekF (b.length + 1 - k) b k = seekF (b.length + 1 - (k + 1)) b (k + 1) := by
  obtain ⟨f, hf⟩ : ∃ f, b.length + 1 - k = f + 1 := ⟨b.length - k, by omega⟩
  rw [hf, seekF, if_pos h, if_neg h0]
  congr 1
  omega
set_option maxHeartbeats 1000000 in
theorem frame_Seek {A : Option Addr} {n c : Nat} {b : List UInt8} {a : Int} {w : World} (hb : Sl w A n c b) (hn6 : n ≤ 1000000) (ha : a ≤ 9223372036854775807) {r : Int} (hr : Hid (seekL b a = r)) :
    Calls Try.prog 24 #[.slice A n c, .int .i64 a] w fun e w' => e = .returned (.int .i64 r) ∧ Ext w w' := by
  have h63 := hb.n63
  have hbl := hb.len
  obtain ⟨k0, hk0⟩ : ∃ k0 : Nat, max a 0 = (k0 : Int) := ⟨(max a 0).toNat, by omega⟩
  have hk0b : k0 ≤ 9223372036854775807 := by omega
  have hr0 : Hid (seekF (b.length + 1 - k0) b k0 = r) := by
    unfold Hid
    have := hr.out
    unfold seekL at this
    rw [hk0, Int.toNat_natCast] at this
    exact this
  clear hr
  by_cases ha0 : 0 ≤ a
  · obtain rfl : (a = (k0 : Int)) := by omega
    clear hk0
    go_enter Try.func24, Try.ntmps24
    go_wp2_with fail
    go_loopw [1] (fun i wr => ∃ k : Nat, k ≤ 9223372036854775807 ∧ i = .int .i64 k ∧ Hid (seekF (b.length + 1 - k) b k = r) ∧ Ext w wr) (fun i _ => n - (intOf i).toNat)
    case atStart => exact ⟨k0, by omega, rfl, hr0, Ext.refl _⟩
    case round =>
      obtain ⟨k, hkb, rfl, hrk, hxr⟩ := hrel
      clear hr0
      by_cases hlt : k < n
      · have ht := tkA_at (b := b) (k := k) (by omega)
        have hk1 := hrk.out
        by_cases h0 : tkE (b.drop k) = 0
        · rw [if_pos h0] at ht
          rw [seekF_yes (by omega) h0] at hk1
          have HT := Lib.hid ht
          subst hk1
          clear ht h0 hrk
          go_wp2_with fail
          refine (frame_Take (hb.ext hxr) hn6 HT).mono ?_
          rintro e w2 ⟨A2, n2, c2, rfl, hb2, hx2⟩
          go_wp2_with fail
          go_ret
          exact ⟨rfl, (hxr.trans hx2).trans (Ext.alloc _ _)⟩
        · rw [if_neg h0] at ht
          rw [seekF_no (by omega) h0] at hk1
          obtain ⟨er, her⟩ : ∃ q, tkE (b.drop k) = q := ⟨_, rfl⟩
          rw [her] at ht h0
          have hern : ((er : Int) == 0) = false := by simpa using h0
          have HT := Lib.hid ht
          have HK1 := Lib.hid hk1
          clear ht h0 hrk hk1 her
          go_wp2_with fail
          refine (frame_Take (hb.ext hxr) hn6 HT).mono ?_
          rintro e w2 ⟨A2, n2, c2, rfl, hb2, hx2⟩
          go_wp2_with fail
          go_roundw
          case rel => exact ⟨k + 1, by omega, by go_num, HK1, (hxr.trans hx2).trans (Ext.alloc _ _)⟩
          case measure => simp [intOf]; omega
      · have hk1 := hrk.out
        rw [seekF_done (by omega)] at hk1
        subst hk1
        clear hrk
        go_wp2_with fail
        go_ret
        exact ⟨rfl, hxr⟩
  · obtain rfl : (k0 = 0) := by omega
    clear hk0
    go_enter Try.func24, Try.ntmps24
    go_wp2_with fail
    go_loopw [1] (fun i wr => ∃ k : Nat, k ≤ 9223372036854775807 ∧ i = .int .i64 k ∧ Hid (seekF (b.length + 1 - k) b k = r) ∧ Ext w wr) (fun i _ => n - (intOf i).toNat)
    case atStart => exact ⟨0, by omega, rfl, hr0, Ext.refl _⟩
    case round =>
      obtain ⟨k, hkb, rfl, hrk, hxr⟩ := hrel
      clear hr0
      by_cases hlt : k < n
      · have ht := tkA_at (b := b) (k := k) (by omega)
        have hk1 := hrk.out
        by_cases h0 : tkE (b.drop k) = 0
        · rw [if_pos h0] at ht
          rw [seekF_yes (by omega) h0] at hk1
          have HT := Lib.hid ht
          subst hk1
          clear ht h0 hrk
          go_wp2_with fail
          refine (frame_Take (hb.ext hxr) hn6 HT).mono ?_
          rintro e w2 ⟨A2, n2, c2, rfl, hb2, hx2⟩
          go_wp2_with fail
          go_ret
          exact ⟨rfl, (hxr.trans hx2).trans (Ext.alloc _ _)⟩
        · rw [if_neg h0] at ht
          rw [seekF_no (by omega) h0] at hk1
          obtain ⟨er, her⟩ : ∃ q, tkE (b.drop k) = q := ⟨_, rfl⟩
          rw [her] at ht h0
          have hern : ((er : Int) == 0) = false := by simpa using h0
          have HT := Lib.hid ht
          have HK1 := Lib.hid hk1
          clear ht h0 hrk hk1 her
          go_wp2_with fail
          refine (frame_Take (hb.ext hxr) hn6 HT).mono ?_
          rintro e w2 ⟨A2, n2, c2, rfl, hb2, hx2⟩
          go_wp2_with fail
          go_roundw
          case rel => exact ⟨k + 1, by omega, by go_num, HK1, (hxr.trans hx2).trans (Ext.alloc _ _)⟩
          case measure => simp [intOf]; omega
      · have hk1 := hrk.out
        rw [seekF_done (by omega)] at hk1
        subst hk1
        clear hrk
        go_wp2_with fail
        go_ret
        exact ⟨rfl, hxr⟩
end Go.Proofs.Ytcchlkialgjamaa
