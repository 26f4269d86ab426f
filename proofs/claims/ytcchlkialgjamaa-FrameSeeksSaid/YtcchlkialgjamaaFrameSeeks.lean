/-
  The walk of one statement of chapter 4.
-/
import Derived.Test.YtcchlkialgjamaaFrameLaws
import Derived.Test.YtcchlkialgjamaaFrameAll
namespace Go.Proofs.Ytcchlkialgjamaa
open Go.RowKit
set_option linter.unusedVariables false
set_option linter.unusedSimpArgs false
set_option linter.unnecessarySimpa false
set_option maxRecDepth 100000

theorem seekF_le {b : List UInt8} {j : Nat} (hj : j < b.length) (h0 : tkE (b.drop j) = 0) : ∀ (d k : Nat), k + d = j → 0 ≤ seekF (b.length + 1 - k) b k ∧ seekF (b.length + 1 - k) b k ≤ (j : Int)
  | 0, k, h => by
    obtain rfl : k = j := by omega
    rw [seekF_yes hj h0]
    omega
  | d + 1, k, h => by
    by_cases hk : tkE (b.drop k) = 0
    · rw [seekF_yes (by omega) hk]
      omega
    · rw [seekF_no (by omega) hk]
      exact seekF_le hj h0 d (k + 1) (by omega)

set_option maxHeartbeats 2000000 in
theorem law_FrameSeeks (B : Option Addr) (nb cb : Nat) (d : List UInt8) (tg sq : Int) (A : Option Addr) (n c : Nat) (l : List UInt8) (a : Int) (w : World) (hd : Sl w B nb cb d) (hsl : Sl w A n c l) (htg : tg ≤ 9223372036854775807) (hsq : sq ≤ 9223372036854775807) (ha1 : a ≤ 9223372036854775807) :
    Calls Try.prog 6 #[.slice B nb cb, enV tg sq A n c, .int .i64 a] w fun e w' => e = .returned (.bool true) ∧ Ext w w' := by
  have h63 := hsl.n63
  have h63b := hd.n63
  have haM := Lib.hid ha1
  by_cases t1 : 100 < nb
  · clear ha1
    go_enter Try.func6, Try.ntmps6
    go_wp2_with fail
    refine (law4_known _).mono ?_
    rintro e w2 ⟨rfl, hx1⟩
    go_wp2_with fail
    go_ret
    exact ⟨rfl, (Ext.alloc w _).trans hx1⟩
  obtain ⟨r, hr⟩ : ∃ q, rightN tg sq n = q := ⟨_, rfl⟩
  have HR := Lib.hid hr
  cases r with
  | false =>
    clear hr ha1
    go_enter Try.func6, Try.ntmps6
    go_wp2_with fail
    refine (ref_RightEntry tg sq A n c _ h63.1).mono ?_
    rintro e w1 ⟨rfl, hx0⟩
    rw [HR.out]
    go_wp2_with fail
    refine (law4_known _).mono ?_
    rintro e w2 ⟨rfl, hx1⟩
    go_wp2_with fail
    go_ret
    exact ⟨rfl, ((Ext.alloc w _).trans hx0).trans hx1⟩
  | true =>
  have hrn := rightN_iff.1 hr
  obtain ⟨tg, rfl⟩ := Int.eq_ofNat_of_zero_le (by omega : 0 ≤ tg)
  obtain ⟨sq, rfl⟩ := Int.eq_ofNat_of_zero_le (by omega : 0 ≤ sq)
  have hlr : rightN tg sq l.length = true := by rw [hsl.len]; exact hr
  obtain ⟨F, hF⟩ : ∃ q, layL tg sq n l = q := ⟨_, rfl⟩
  have hFe : layE tg sq l = F := by rw [← hF]; unfold layL; rw [hr]; rfl
  have hFl : F.length = n + 22 := by rw [← hFe, layE_length, hsl.len]; omega
  obtain ⟨L, hL⟩ : ∃ L, d ++ F = L := ⟨_, rfl⟩
  have hLl : L.length = nb + (n + 22) := by rw [← hL, List.length_append, hd.len, hFl]
  have hat : tkE (L.drop nb) = 0 := by
    have := (take_lay tg sq l [] hlr).1
    rw [List.append_nil, hFe] at this
    rw [← hL, ← hd.len, List.drop_left]
    exact this
  have hle := seekF_le (b := L) (j := nb) (by omega) hat
  obtain ⟨r, hrr⟩ : ∃ q, seekL L a = q := ⟨_, rfl⟩
  obtain ⟨k0, hk0⟩ : ∃ k0 : Nat, max a 0 = (k0 : Int) := ⟨(max a 0).toNat, by omega⟩
  have hk0b : k0 ≤ 9223372036854775807 := by omega
  have HS := Lib.hid hrr
  have hr0 : Hid (seekF (L.length + 1 - k0) L k0 = r) := by
    unfold Hid
    have := hrr
    unfold seekL at this
    rw [hk0, Int.toNat_natCast] at this
    exact this
  have hin : a ≤ 0 → 0 ≤ r ∧ r ≤ nb := fun h => by
    obtain rfl : k0 = 0 := by omega
    rw [← hr0.out]
    exact hle nb 0 (by omega)
  have hn90 : n ≤ 90 := by omega
  have HS0 : Hid (seekL [] a = -1) := by
    unfold Hid seekL
    cases (([] : List UInt8).length + 1 - (max a 0).toNat) <;> simp [seekF]
  have HF := Lib.hid hF
  have HLL := Lib.hid hLl
  have hN6 : nb + (n + 22) ≤ 1000000 := by omega
  have HL := Lib.hid hL
  clear hr hrn hlr hF hFe hFl hL hLl hat hle hrr
  obtain ⟨i0, hi0, hz0, hz1, hz2⟩ := info_parts info_u8
  by_cases ha0 : 0 ≤ a
  · obtain rfl : (a = (k0 : Int)) := by omega
    clear hk0 ha1
    go_enter Try.func6, Try.ntmps6
    go_wp2_with fail
    refine (ref_RightEntry tg sq A n c _ h63.1).mono ?_
    rintro e w1 ⟨rfl, hx1⟩
    rw [HR.out]
    have ec0 : w1.cell? ⟨w.heap.size, 0, none⟩ = some (.int .i64 tg) := hx1.cell (cell_newF w _ _ 0)
    have ec1 : w1.cell? ⟨w.heap.size, 1, none⟩ = some (.int .i64 sq) := hx1.cell (cell_newF w _ _ 1)
    have ec2 : w1.cell? ⟨w.heap.size, 2, none⟩ = some (.slice A n c) := hx1.cell (cell_newF w _ _ 2)
    have hx := (Ext.alloc w (.cells #[.int .i64 tg, .int .i64 sq, .slice A n c] 24)).trans hx1
    clear hx1
    go_wp2_with fail
    refine (ref_Lay (hsl.ext hx) HR HF).mono ?_
    rintro e w2 ⟨A2, n2, c2, rfl, hb2, hx2⟩
    rw [show (if true = true then (0 : Int) else 1) = 0 from rfl]
    obtain rfl : n2 = n + 22 := by
      have h1 := hb2.len
      have h2 := HLL.out
      rw [← HL.out, List.length_append, hd.len] at h2
      omega
    replace hx := hx.trans hx2
    clear hx2 ec0 ec1 ec2
    have hd2 := hd.ext hx
    have hb2 := hb2.sl
    go_wp2_with (first | (at_builtin; refine wpList_append_mine _ rfl (.tmp 29) (.tmp 30) _ _ rfl w2.heap.size U8 i0 _ 1 1 under_bytes hi0 hz0 hz1 hz2 rfl _ 0 0 _ rfl (Own.nil _ _ _ _ _) _ rfl nb (d.map bv) ((hd2.ext (Ext.alloc _ _)).src under_bytes) (by simp only [maxLen]; omega) (by omega) (by simp) ?_; intro B3 c3 w3 hown3 hg3 _; have hb3 : Byt U8 w3 w2.heap.size B3 nb c3 d := ⟨hd2.len, by simpa using hown3⟩; have hx3 : Ext w2 w3 := below_grown (Ext.alloc w2 _) (Own.nil _ _ U8 1 _) hg3 (by simp); clear hown3 hg3; have hb23 := hb2.ext hx3) | (at_builtin; refine wpList_append_mine _ rfl (.tmp 31) (.tmp 32) _ _ rfl w2.heap.size U8 i0 _ 1 1 under_bytes hi0 hz0 hz1 hz2 rfl B3 nb c3 _ rfl hb3.own _ rfl (n + 22) (F.map bv) (hb23.src under_bytes) (by simp only [maxLen]; omega) (by omega) hx3.size ?_; intro B4 c4 w4 hown4 hg4 _; skip))
    have hb4 : Byt U8 w4 w2.heap.size B4 (nb + (n + 22)) c4 (d ++ F) := Byt.more hd2.len hb2.len hown4 rfl
    have hx4 : Ext w2 w4 := below_grown hx3 hb3.own hg4 hx3.size
    replace hx := hx.trans hx4
    rw [HL.out] at hb4
    have hb4 := hb4.sl
    clear hx4 hx3 hown4 hg4 hb3 hb23 hd2 hb2
    go_wp2_with fail
    go_loopw [10, 11] (fun wv iv wr => ∃ (wt : Int) (k : Nat), k ≤ 9223372036854775807 ∧ wv = .int .i64 wt ∧ iv = .int .i64 k ∧ (wt = -1 ∧ Hid (seekF (L.length + 1 - k) L k = r) ∨ wt = r ∧ 0 ≤ r) ∧ Ext w4 wr) (fun _ i _ => nb + (n + 22) - (intOf i).toNat)
    case atStart => exact ⟨-1, k0, by omega, rfl, rfl, .inl ⟨rfl, hr0⟩, Ext.refl _⟩
    case round =>
      obtain ⟨wt, k, hkb, rfl, rfl, hor, hxr⟩ := hrel
      clear hr0
      have hbr := hb4.ext hxr
      by_cases hlt : k < nb + (n + 22)
      · have ht := tkA_at (b := L) (k := k) (by rw [HLL.out]; omega)
        rcases hor with ⟨rfl, hrk⟩ | ⟨rfl, hr0⟩
        · have hk1 := hrk.out
          by_cases h0 : tkE (L.drop k) = 0
          · rw [if_pos h0] at ht
            rw [seekF_yes (by rw [HLL.out]; omega) h0] at hk1
            have HT := Lib.hid ht
            subst hk1
            clear ht h0 hrk
            go_wp2_with fail
            refine (ref_TakeFrame hbr hN6 HT).mono ?_
            rintro e w5 ⟨A5, n5, c5, rfl, hb5, hx5⟩
            go_wp2_with fail
            go_roundw
            case rel => exact ⟨_, k + 1, by omega, rfl, by go_num, .inr ⟨rfl, by omega⟩, (hxr.trans hx5).trans (Ext.alloc _ _)⟩
            case measure => simp [intOf]; omega
          · rw [if_neg h0] at ht
            rw [seekF_no (by rw [HLL.out]; omega) h0] at hk1
            obtain ⟨er, her⟩ : ∃ q, tkE (L.drop k) = q := ⟨_, rfl⟩
            rw [her] at ht h0
            have hern : ((er : Int) == 0) = false := by simpa using h0
            have HT := Lib.hid ht
            have HK1 := Lib.hid hk1
            clear ht h0 hrk hk1 her
            go_wp2_with fail
            refine (ref_TakeFrame hbr hN6 HT).mono ?_
            rintro e w5 ⟨A5, n5, c5, rfl, hb5, hx5⟩
            go_wp2_with fail
            go_roundw
            case rel => exact ⟨-1, k + 1, by omega, rfl, by go_num, .inl ⟨rfl, HK1⟩, (hxr.trans hx5).trans (Ext.alloc _ _)⟩
            case measure => simp [intOf]; omega
        · clear ht
          replace hxr := hx.trans hxr
          by_cases hz : 0 < k0
          · clear hin
            try (exfalso; omega)
            all_goals
              skip
              go_wp2_with fail
              refine (frame_Seek hbr hN6 haM.out HS).mono ?_
              rintro e v0 ⟨rfl, hy0⟩
              go_wp2_with fail
              refine (frame_Seek (Sl.nil _) (by omega) haM.out HS0).mono ?_
              rintro e v8 ⟨rfl, hz8⟩
              go_wp2_with fail
              refine (law4_known _).mono ?_
              rintro e v9 ⟨rfl, hz9⟩
              go_wp2_with fail
              go_ret
              exact ⟨rfl, ((hxr.trans hy0).trans hz8).trans hz9⟩
          · have hin := hin (by omega)
            go_wp2_with fail
            refine (frame_Seek hbr hN6 haM.out HS).mono ?_
            rintro e v0 ⟨rfl, hy0⟩
            go_wp2_with fail
            refine (frame_Seek (hbr.ext hy0) hN6 haM.out HS).mono ?_
            rintro e v1 ⟨rfl, hz1⟩
            have hy1 := hy0.trans hz1
            go_wp2_with fail
            refine (frame_Seek (hbr.ext hy1) hN6 haM.out HS).mono ?_
            rintro e v2 ⟨rfl, hz2⟩
            have hy2 := hy1.trans hz2
            go_wp2_with fail
            refine (frame_Seek (Sl.nil _) (by omega) haM.out HS0).mono ?_
            rintro e v8 ⟨rfl, hz8⟩
            go_wp2_with fail
            refine (law4_known _).mono ?_
            rintro e v9 ⟨rfl, hz9⟩
            go_wp2_with fail
            go_ret
            exact ⟨rfl, ((hxr.trans hy2).trans hz8).trans hz9⟩
      · obtain ⟨rfl, hlr⟩ : wt = r ∧ -1 ≤ r := by
          rcases hor with ⟨rfl, hrk⟩ | ⟨rfl, hr0⟩
          · have hk1 := hrk.out
            rw [seekF_done (by rw [HLL.out]; omega)] at hk1
            exact ⟨hk1, by omega⟩
          · exact ⟨rfl, by omega⟩
        clear hor
        replace hxr := hx.trans hxr
        by_cases hz : 0 < k0
        · clear hin
          try (exfalso; omega)
          all_goals
            skip
            go_wp2_with fail
            refine (frame_Seek hbr hN6 haM.out HS).mono ?_
            rintro e v0 ⟨rfl, hy0⟩
            go_wp2_with fail
            refine (frame_Seek (Sl.nil _) (by omega) haM.out HS0).mono ?_
            rintro e v8 ⟨rfl, hz8⟩
            go_wp2_with fail
            refine (law4_known _).mono ?_
            rintro e v9 ⟨rfl, hz9⟩
            go_wp2_with fail
            go_ret
            exact ⟨rfl, ((hxr.trans hy0).trans hz8).trans hz9⟩
        · have hin := hin (by omega)
          go_wp2_with fail
          refine (frame_Seek hbr hN6 haM.out HS).mono ?_
          rintro e v0 ⟨rfl, hy0⟩
          go_wp2_with fail
          refine (frame_Seek (hbr.ext hy0) hN6 haM.out HS).mono ?_
          rintro e v1 ⟨rfl, hz1⟩
          have hy1 := hy0.trans hz1
          go_wp2_with fail
          refine (frame_Seek (hbr.ext hy1) hN6 haM.out HS).mono ?_
          rintro e v2 ⟨rfl, hz2⟩
          have hy2 := hy1.trans hz2
          go_wp2_with fail
          refine (frame_Seek (Sl.nil _) (by omega) haM.out HS0).mono ?_
          rintro e v8 ⟨rfl, hz8⟩
          go_wp2_with fail
          refine (law4_known _).mono ?_
          rintro e v9 ⟨rfl, hz9⟩
          go_wp2_with fail
          go_ret
          exact ⟨rfl, ((hxr.trans hy2).trans hz8).trans hz9⟩
  · obtain rfl : (k0 = 0) := by omega
    clear hk0 ha1
    go_enter Try.func6, Try.ntmps6
    go_wp2_with fail
    refine (ref_RightEntry tg sq A n c _ h63.1).mono ?_
    rintro e w1 ⟨rfl, hx1⟩
    rw [HR.out]
    have ec0 : w1.cell? ⟨w.heap.size, 0, none⟩ = some (.int .i64 tg) := hx1.cell (cell_newF w _ _ 0)
    have ec1 : w1.cell? ⟨w.heap.size, 1, none⟩ = some (.int .i64 sq) := hx1.cell (cell_newF w _ _ 1)
    have ec2 : w1.cell? ⟨w.heap.size, 2, none⟩ = some (.slice A n c) := hx1.cell (cell_newF w _ _ 2)
    have hx := (Ext.alloc w (.cells #[.int .i64 tg, .int .i64 sq, .slice A n c] 24)).trans hx1
    clear hx1
    go_wp2_with fail
    refine (ref_Lay (hsl.ext hx) HR HF).mono ?_
    rintro e w2 ⟨A2, n2, c2, rfl, hb2, hx2⟩
    rw [show (if true = true then (0 : Int) else 1) = 0 from rfl]
    obtain rfl : n2 = n + 22 := by
      have h1 := hb2.len
      have h2 := HLL.out
      rw [← HL.out, List.length_append, hd.len] at h2
      omega
    replace hx := hx.trans hx2
    clear hx2 ec0 ec1 ec2
    have hd2 := hd.ext hx
    have hb2 := hb2.sl
    go_wp2_with (first | (at_builtin; refine wpList_append_mine _ rfl (.tmp 29) (.tmp 30) _ _ rfl w2.heap.size U8 i0 _ 1 1 under_bytes hi0 hz0 hz1 hz2 rfl _ 0 0 _ rfl (Own.nil _ _ _ _ _) _ rfl nb (d.map bv) ((hd2.ext (Ext.alloc _ _)).src under_bytes) (by simp only [maxLen]; omega) (by omega) (by simp) ?_; intro B3 c3 w3 hown3 hg3 _; have hb3 : Byt U8 w3 w2.heap.size B3 nb c3 d := ⟨hd2.len, by simpa using hown3⟩; have hx3 : Ext w2 w3 := below_grown (Ext.alloc w2 _) (Own.nil _ _ U8 1 _) hg3 (by simp); clear hown3 hg3; have hb23 := hb2.ext hx3) | (at_builtin; refine wpList_append_mine _ rfl (.tmp 31) (.tmp 32) _ _ rfl w2.heap.size U8 i0 _ 1 1 under_bytes hi0 hz0 hz1 hz2 rfl B3 nb c3 _ rfl hb3.own _ rfl (n + 22) (F.map bv) (hb23.src under_bytes) (by simp only [maxLen]; omega) (by omega) hx3.size ?_; intro B4 c4 w4 hown4 hg4 _; skip))
    have hb4 : Byt U8 w4 w2.heap.size B4 (nb + (n + 22)) c4 (d ++ F) := Byt.more hd2.len hb2.len hown4 rfl
    have hx4 : Ext w2 w4 := below_grown hx3 hb3.own hg4 hx3.size
    replace hx := hx.trans hx4
    rw [HL.out] at hb4
    have hb4 := hb4.sl
    clear hx4 hx3 hown4 hg4 hb3 hb23 hd2 hb2
    go_wp2_with fail
    go_loopw [10, 11] (fun wv iv wr => ∃ (wt : Int) (k : Nat), k ≤ 9223372036854775807 ∧ wv = .int .i64 wt ∧ iv = .int .i64 k ∧ (wt = -1 ∧ Hid (seekF (L.length + 1 - k) L k = r) ∨ wt = r ∧ 0 ≤ r) ∧ Ext w4 wr) (fun _ i _ => nb + (n + 22) - (intOf i).toNat)
    case atStart => exact ⟨-1, 0, by omega, rfl, rfl, .inl ⟨rfl, hr0⟩, Ext.refl _⟩
    case round =>
      obtain ⟨wt, k, hkb, rfl, rfl, hor, hxr⟩ := hrel
      clear hr0
      have hbr := hb4.ext hxr
      by_cases hlt : k < nb + (n + 22)
      · have ht := tkA_at (b := L) (k := k) (by rw [HLL.out]; omega)
        rcases hor with ⟨rfl, hrk⟩ | ⟨rfl, hr0⟩
        · have hk1 := hrk.out
          by_cases h0 : tkE (L.drop k) = 0
          · rw [if_pos h0] at ht
            rw [seekF_yes (by rw [HLL.out]; omega) h0] at hk1
            have HT := Lib.hid ht
            subst hk1
            clear ht h0 hrk
            go_wp2_with fail
            refine (ref_TakeFrame hbr hN6 HT).mono ?_
            rintro e w5 ⟨A5, n5, c5, rfl, hb5, hx5⟩
            go_wp2_with fail
            go_roundw
            case rel => exact ⟨_, k + 1, by omega, rfl, by go_num, .inr ⟨rfl, by omega⟩, (hxr.trans hx5).trans (Ext.alloc _ _)⟩
            case measure => simp [intOf]; omega
          · rw [if_neg h0] at ht
            rw [seekF_no (by rw [HLL.out]; omega) h0] at hk1
            obtain ⟨er, her⟩ : ∃ q, tkE (L.drop k) = q := ⟨_, rfl⟩
            rw [her] at ht h0
            have hern : ((er : Int) == 0) = false := by simpa using h0
            have HT := Lib.hid ht
            have HK1 := Lib.hid hk1
            clear ht h0 hrk hk1 her
            go_wp2_with fail
            refine (ref_TakeFrame hbr hN6 HT).mono ?_
            rintro e w5 ⟨A5, n5, c5, rfl, hb5, hx5⟩
            go_wp2_with fail
            go_roundw
            case rel => exact ⟨-1, k + 1, by omega, rfl, by go_num, .inl ⟨rfl, HK1⟩, (hxr.trans hx5).trans (Ext.alloc _ _)⟩
            case measure => simp [intOf]; omega
        · clear ht
          replace hxr := hx.trans hxr
          by_cases hz : 0 < a
          · clear hin
            try (exfalso; omega)
            all_goals
              skip
              go_wp2_with fail
              refine (frame_Seek hbr hN6 haM.out HS).mono ?_
              rintro e v0 ⟨rfl, hy0⟩
              go_wp2_with fail
              refine (frame_Seek (Sl.nil _) (by omega) haM.out HS0).mono ?_
              rintro e v8 ⟨rfl, hz8⟩
              go_wp2_with fail
              refine (law4_known _).mono ?_
              rintro e v9 ⟨rfl, hz9⟩
              go_wp2_with fail
              go_ret
              exact ⟨rfl, ((hxr.trans hy0).trans hz8).trans hz9⟩
          · have hin := hin (by omega)
            go_wp2_with fail
            refine (frame_Seek hbr hN6 haM.out HS).mono ?_
            rintro e v0 ⟨rfl, hy0⟩
            go_wp2_with fail
            refine (frame_Seek (hbr.ext hy0) hN6 haM.out HS).mono ?_
            rintro e v1 ⟨rfl, hz1⟩
            have hy1 := hy0.trans hz1
            go_wp2_with fail
            refine (frame_Seek (hbr.ext hy1) hN6 haM.out HS).mono ?_
            rintro e v2 ⟨rfl, hz2⟩
            have hy2 := hy1.trans hz2
            go_wp2_with fail
            refine (frame_Seek (Sl.nil _) (by omega) haM.out HS0).mono ?_
            rintro e v8 ⟨rfl, hz8⟩
            go_wp2_with fail
            refine (law4_known _).mono ?_
            rintro e v9 ⟨rfl, hz9⟩
            go_wp2_with fail
            go_ret
            exact ⟨rfl, ((hxr.trans hy2).trans hz8).trans hz9⟩
      · obtain ⟨rfl, hlr⟩ : wt = r ∧ -1 ≤ r := by
          rcases hor with ⟨rfl, hrk⟩ | ⟨rfl, hr0⟩
          · have hk1 := hrk.out
            rw [seekF_done (by rw [HLL.out]; omega)] at hk1
            exact ⟨hk1, by omega⟩
          · exact ⟨rfl, by omega⟩
        clear hor
        replace hxr := hx.trans hxr
        by_cases hz : 0 < a
        · clear hin
          try (exfalso; omega)
          all_goals
            skip
            go_wp2_with fail
            refine (frame_Seek hbr hN6 haM.out HS).mono ?_
            rintro e v0 ⟨rfl, hy0⟩
            go_wp2_with fail
            refine (frame_Seek (Sl.nil _) (by omega) haM.out HS0).mono ?_
            rintro e v8 ⟨rfl, hz8⟩
            go_wp2_with fail
            refine (law4_known _).mono ?_
            rintro e v9 ⟨rfl, hz9⟩
            go_wp2_with fail
            go_ret
            exact ⟨rfl, ((hxr.trans hy0).trans hz8).trans hz9⟩
        · have hin := hin (by omega)
          go_wp2_with fail
          refine (frame_Seek hbr hN6 haM.out HS).mono ?_
          rintro e v0 ⟨rfl, hy0⟩
          go_wp2_with fail
          refine (frame_Seek (hbr.ext hy0) hN6 haM.out HS).mono ?_
          rintro e v1 ⟨rfl, hz1⟩
          have hy1 := hy0.trans hz1
          go_wp2_with fail
          refine (frame_Seek (hbr.ext hy1) hN6 haM.out HS).mono ?_
          rintro e v2 ⟨rfl, hz2⟩
          have hy2 := hy1.trans hz2
          go_wp2_with fail
          refine (frame_Seek (Sl.nil _) (by omega) haM.out HS0).mono ?_
          rintro e v8 ⟨rfl, hz8⟩
          go_wp2_with fail
          refine (law4_known _).mono ?_
          rintro e v9 ⟨rfl, hz9⟩
          go_wp2_with fail
          go_ret
          exact ⟨rfl, ((hxr.trans hy2).trans hz8).trans hz9⟩
end Go.Proofs.Ytcchlkialgjamaa
