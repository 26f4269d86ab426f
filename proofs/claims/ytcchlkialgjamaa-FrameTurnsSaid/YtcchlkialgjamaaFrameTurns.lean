/-
  The walk of one statement of chapter 4.
-/
import Derived.Test.YtcchlkialgjamaaFrameLaws
namespace Go.Proofs.Ytcchlkialgjamaa
open Go.RowKit
set_option linter.unusedVariables false
set_option linter.unusedSimpArgs false
set_option linter.unnecessarySimpa false
set_option maxRecDepth 100000

theorem u32_bitF (t k : Nat) (ht : t < 4294967296) : (bits .and .u32 ((t : Int) / 2 ^ k) 1 == 1) = decide (t / 2 ^ k % 2 = 1) := by
  have h1 : t / 2 ^ k < 4294967296 := Nat.lt_of_le_of_lt (Nat.div_le_self _ _) ht
  have e : (t : Int) / 2 ^ k = ((t / 2 ^ k : Nat) : Int) := by simp
  rw [e, odd_and _ h1, Bool.eq_iff_iff, beq_iff_eq, decide_eq_true_eq]
  omega
theorem tkN_two {L : List UInt8} (h : 18 ≤ L.length) : tkN L = (L.getD 16 0).toNat + 256 * (L.getD 17 0).toNat := by
  unfold tkN
  rw [unle_drop (by omega), unle_drop (by omega)]
  simp [unle]
/-- a frame of which bits are turned, but not in its number of bytes -/
theorem frame_turned {t s : Nat} {l L : List UInt8} (hr : rightN t s l.length = true) {M K : Nat} (hl : L.length = (layE t s l).length) (hu : unle L = unle (layE t s l) ^^^ (M * 2 ^ K)) (hM : M < 4294967296) (hK : K ≤ 8 * (layE t s l).length)
    (h16 : L.getD 16 0 = (layE t s l).getD 16 0) (h17 : L.getD 17 0 = (layE t s l).getD 17 0) :
    if M = 0 then tkA L 0 = (t, s, l, (l.length : Int) + 22, 0) else ∃ er, tkA L 0 = (0, 0, [], 0, er) ∧ er ≠ 0 := by
  have hlen := layE_length t s l
  have ha : ¬ ((0 : Int) < 0 ∨ (L.length : Int) < 0) := by omega
  by_cases h0 : M = 0
  · rw [if_pos h0]
    subst h0
    have e : L = layE t s l := unle_inj hl (by rw [hu]; simp)
    have ht := take_lay t s l [] hr
    rw [List.append_nil] at ht
    subst e
    unfold tkA
    rw [if_neg ha]
    simp only [Int.toNat_zero, List.drop_zero]
    rw [if_pos ht.1, ht.2.1, ht.2.2.1, ht.2.2.2.1, ht.2.2.2.2]
    simp
  · rw [if_neg h0]
    have hne : tkE L ≠ 0 := by
      intro he
      obtain ⟨h1, h2, h3, h4⟩ := tkE_ok.1 he
      have hN : tkN L = l.length := by
        have hf := take_lay t s l [] hr
        rw [List.append_nil] at hf
        rw [tkN_two (by omega), h16, h17, ← tkN_two (by omega), hf.2.2.2.1]
      have ho := open_sum (r := L) (by rw [hN]; omega)
      rw [hN, h4, List.take_of_length_le (by omega), if_pos rfl] at ho
      have hs : (layE t s l).drop ((layE t s l).length - 4) = le 4 (crcOf ((layE t s l).take ((layE t s l).length - 4))) := by
        have e : (layE t s l).length - 4 = (headE t s l).length := by rw [hlen, headE_length]; omega
        rw [e]
        unfold layE put
        rw [List.drop_left, List.take_left]
      have hc := crcOpen_turned (by omega) hs hl hu hM hK
      rw [if_neg h0, ho] at hc
      cases hc
    refine ⟨tkE L, ?_, hne⟩
    unfold tkA
    rw [if_neg ha]
    simp only [Int.toNat_zero, List.drop_zero]
    rw [if_neg hne]

set_option maxHeartbeats 2000000 in
theorem law_FrameTurns (tg sq : Int) (A : Option Addr) (n c : Nat) (l : List UInt8) (m t : Int) (w : World) (hsl : Sl w A n c l) (htg : tg ≤ 9223372036854775807) (hsq : sq ≤ 9223372036854775807) (hm0 : -9223372036854775808 ≤ m) (hm1 : m ≤ 9223372036854775807) (ht0 : 0 ≤ t) (ht1 : t ≤ 4294967295) :
    Calls Try.prog 4 #[enV tg sq A n c, .int .i64 m, .int .u32 t] w fun e w' => e = .returned (.bool true) ∧ Ext w w' := by
  have h63 := hsl.n63
  obtain ⟨t, rfl⟩ := Int.eq_ofNat_of_zero_le ht0
  have htl : t < 4294967296 := by omega
  clear ht0 ht1
  obtain ⟨r, hr⟩ : ∃ q, rightN tg sq n = q := ⟨_, rfl⟩
  obtain ⟨F, hF⟩ : ∃ q, layL tg sq n l = q := ⟨_, rfl⟩
  have HR := Lib.hid hr
  have HF := Lib.hid hF
  cases r with
  | false =>
    clear hr hF hm0 hm1
    go_enter Try.func4, Try.ntmps4
    go_wp2_with fail
    refine (frame_Lay (hsl.ext (Ext.alloc _ _)) htg hsq HR HF).mono ?_
    rintro e w1 ⟨A1, n1, c1, rfl, hb1, hx1⟩
    go_wp2_with fail
    refine (law4_known _).mono ?_
    rintro e w4 ⟨rfl, hxk⟩
    go_wp2_with fail
    go_ret
    exact ⟨rfl, ((Ext.alloc w _).trans hx1).trans hxk⟩
  | true =>
  have hrn := rightN_iff.1 hr
  obtain ⟨tg, rfl⟩ := Int.eq_ofNat_of_zero_le (by omega : 0 ≤ tg)
  obtain ⟨sq, rfl⟩ := Int.eq_ofNat_of_zero_le (by omega : 0 ≤ sq)
  have hFe : layE tg sq l = F := by rw [← hF]; unfold layL; rw [hr]; rfl
  have hFl : F.length = n + 22 := by rw [← hFe, layE_length, hsl.len]; omega
  have hrt : Hid (rightN tg sq l.length = true) := by unfold Hid; rw [hsl.len]; exact hr
  have hn90 : n ≤ 90 ∧ 1 ≤ n := by omega
  have HSL := Lib.hid hFl
  have HFE := Lib.hid hFe
  clear hr hF hrn hFe hFl
  by_cases hm : m < 0
  · clear hm0 hm1
    go_enter Try.func4, Try.ntmps4
    go_wp2_with fail
    refine (frame_Lay (hsl.ext (Ext.alloc _ _)) htg hsq HR HF).mono ?_
    rintro e w1 ⟨A1, n1, c1, rfl, hb1, hx1⟩
    go_wp2_with fail
    refine (law4_known _).mono ?_
    rintro e w4 ⟨rfl, hxk⟩
    go_wp2_with fail
    go_ret
    exact ⟨rfl, ((Ext.alloc w _).trans hx1).trans hxk⟩
  obtain ⟨m, rfl⟩ := Int.eq_ofNat_of_zero_le (by omega : 0 ≤ m)
  have hmm : m ≤ 9223372036854775807 := by omega
  clear hm0 hm1 hm
  go_enter Try.func4, Try.ntmps4
  go_wp2_with fail
  refine (frame_Lay (hsl.ext (Ext.alloc _ _)) htg hsq HR HF).mono ?_
  rintro e w1 ⟨A1, n1, c1, rfl, hb1, hx1⟩
  obtain rfl : n1 = n + 22 := by rw [← hb1.len]; exact HSL.out
  replace hx1 := (Ext.alloc w _).trans hx1
  have hb1 := hb1.low (B' := w.heap.size) (by simp)
  obtain ⟨g, rfl, hgB, hgl, _⟩ := hb1.open_ (by omega)
  go_wp2_with fail
  obtain ⟨K, hK, hKl⟩ : ∃ K : Nat, (m : Int) % (8 * ((n : Int) + 22)) = (K : Int) ∧ K < 8 * (n + 22) := ⟨m % (8 * (n + 22)), by simp, Nat.mod_lt _ (by omega)⟩
  rw [hK]
  clear hK
  have hu0 : Hid (unle F = unle F ^^^ (t % 2 ^ 0 * 2 ^ K)) := by
    unfold Hid
    simp [Nat.mod_one]
  go_loopw [10, 11] (fun tr i wr => ∃ (k : Nat) (L : List UInt8) (b : Bool), k ≤ 32 ∧ K + k ≤ 8 * (n + 22) ∧ i = .int .i64 k ∧ tr = .bool b ∧ Hid (b = decide (t % 2 ^ k ≠ 0)) ∧ Byt U8 wr w.heap.size (some ⟨g, 0, none⟩) (n + 22) c1 L ∧ Hid (unle L = unle (layE tg sq l) ^^^ (t % 2 ^ k * 2 ^ K)) ∧ Hid (L.getD 16 0 = (layE tg sq l).getD 16 0) ∧ Hid (L.getD 17 0 = (layE tg sq l).getD 17 0) ∧ Ext w wr) (fun _ i _ => (32 - intOf i).toNat)
  case atStart => exact ⟨0, F, false, by omega, by omega, rfl, rfl, by simp [Hid, Nat.mod_one], hb1, by rw [HFE.out]; exact hu0, by rw [HFE.out]; rfl, by rw [HFE.out]; rfl, hx1⟩
  case round =>
    obtain ⟨k, L, b, hk, hKk, rfl, rfl, hbb, hbL, huL, h6, h7, hxr⟩ := hrel
    clear hu0 hb1 hx1
    by_cases h32 : k < 32
    · by_cases hend : K + k < 8 * (n + 22)
      · have hbit := u32_bitF t k htl
        obtain ⟨hcell, hfroz⟩ : wr.cell? ⟨g, (K + k) / 8, none⟩ = some (.int .u8 ((L.getD ((K + k) / 8) 0).toNat : Int)) ∧ wr.frozen? ⟨g, (K + k) / 8, none⟩ = false := by
          obtain ⟨g', hg', _, _, h4⟩ := hbL.open_ (by omega)
          injection hg' with hg'
          injection hg' with hg'
          subst hg'
          exact h4 _ (by omega)
        obtain ⟨x, hx⟩ : ∃ x, x = L.getD ((K + k) / 8) 0 := ⟨_, rfl⟩
        rw [← hx] at hcell
        have HX := Lib.hid hx
        clear hx
        by_cases h1 : t / 2 ^ k % 2 = 1
        · have hbit1 : (bits .and .u32 ((t : Int) / 2 ^ k) 1 == 1) = true := by rw [hbit]; simpa using h1
          have H1 := Lib.hid h1
          clear hbit h1
          by_cases h8 : (K + k) / 16 = 8
          · have h8' : (((K : Int) + (k : Int)) / 16 == 8) = true := by simp; omega
            have hxs : Ext w (wr.setCell ⟨g, (K + k) / 8, none⟩ (.int .u8 (bits .xor .u8 (x.toNat : Int) (2 ^ ((K + k) % 8) % 256)))) := hxr.sets hgB _
            clear h8
            go_wp2_with fail
            refine (law4_known _).mono ?_
            rintro e w4 ⟨rfl, hx5⟩
            go_wp2_with fail
            go_ret
            exact ⟨rfl, hxs.trans hx5⟩
          have h8' : (((K : Int) + (k : Int)) / 16 == 8) = false := by simp; omega
          go_wp2
          go_roundw
          case rel =>
            have hval : bits .xor .u8 (x.toNat : Int) (2 ^ ((K + k) % 8) % 256) = (((x ^^^ UInt8.ofNat (2 ^ ((K + k) % 8))).toNat : Nat) : Int) := by
              have e : (2 : Int) ^ ((K + k) % 8) % 256 = (((UInt8.ofNat (2 ^ ((K + k) % 8))).toNat : Nat) : Int) := by simp
              rw [e, u8_xor_nat _ _ x.toNat_lt (UInt8.toNat_lt _), UInt8.toNat_xor]
            rw [hval]
            have hn16 : (K + k) / 8 ≠ 16 ∧ (K + k) / 8 ≠ 17 := by omega
            refine ⟨k + 1, L.set ((K + k) / 8) (x ^^^ UInt8.ofNat (2 ^ ((K + k) % 8))), true, by omega, by omega, by go_num, rfl, ?_, hbL.set_ (by omega) _, ?_, ?_, ?_, hxr.sets hgB _⟩
            · unfold Hid
              rw [low_bits_succ, H1.out]
              have := Nat.two_pow_pos k
              symm
              simp
            · unfold Hid
              rw [HX.out, unle_set_xor L _ _ (by rw [hbL.len]; omega), bit_of_byte _ _ (Nat.mod_lt _ (by omega)), huL.out, low_bits_succ, H1.out, Nat.one_mul, xor_next_bit (Nat.mod_lt _ (Nat.two_pow_pos k)), Nat.xor_assoc]
              congr 3
              omega
            · unfold Hid
              rw [List.getD_eq_getElem?_getD, List.getElem?_set_ne hn16.1, ← List.getD_eq_getElem?_getD]
              exact h6.out
            · unfold Hid
              rw [List.getD_eq_getElem?_getD, List.getElem?_set_ne hn16.2, ← List.getD_eq_getElem?_getD]
              exact h7.out
          case measure => simp [intOf]; omega
        · have hbit1 : (bits .and .u32 ((t : Int) / 2 ^ k) 1 == 1) = false := by rw [hbit]; simpa using h1
          have H1 := Lib.hid h1
          clear hbit h1
          go_wp2
          go_roundw
          case rel =>
            have h0 : t / 2 ^ k % 2 = 0 := by have := H1.out; omega
            have e : t % 2 ^ (k + 1) = t % 2 ^ k := by rw [low_bits_succ, h0]; simp
            exact ⟨k + 1, L, b, by omega, by omega, by go_num, rfl, by rw [e]; exact hbb, hbL, by rw [e]; exact huL, h6, h7, hxr⟩
          case measure => simp [intOf]; omega
      · skip
        have hM : t % 2 ^ k < 4294967296 := Nat.lt_of_le_of_lt (Nat.mod_le _ _) htl
        have ho := frame_turned hrt.out (by rw [hbL.len, HFE.out, HSL.out]) (by rw [huL.out]) hM (by rw [HFE.out, HSL.out]; omega) h6.out h7.out
        have hsE := hbL.sl
        clear hM huL
        by_cases h0 : t % 2 ^ k = 0
        · have hbf : b = false := by rw [hbb.out]; simp [h0]
          rw [if_pos h0] at ho
          have HO := Lib.hid ho
          subst hbf
          clear ho hbb h0
          go_wp2_with fail
          refine (frame_Take hsE (by omega) HO).mono ?_
          rintro e w3 ⟨A2, n2, c2, rfl, hb2, hx2⟩
          have hpos : (0 : Int) < (l.length : Int) + 22 := by omega
          go_wp2_with fail
          refine (law4_known _).mono ?_
          rintro e w4 ⟨rfl, hx5⟩
          go_wp2_with fail
          go_ret
          exact ⟨rfl, ((hxr.trans hx2).trans (Ext.alloc _ _)).trans hx5⟩
        · have hbf : b = true := by rw [hbb.out]; simp [h0]
          rw [if_neg h0] at ho
          obtain ⟨er, ho, hern⟩ := ho
          have HO := Lib.hid ho
          have hern2 : ((er : Int) == 0) = false := by simpa using hern
          subst hbf
          clear ho hbb h0 hern
          go_wp2_with fail
          refine (frame_Take hsE (by omega) HO).mono ?_
          rintro e w3 ⟨A2, n2, c2, rfl, hb2, hx2⟩
          go_wp2_with fail
          refine (law4_known _).mono ?_
          rintro e w4 ⟨rfl, hx5⟩
          go_wp2_with fail
          go_ret
          exact ⟨rfl, ((hxr.trans hx2).trans (Ext.alloc _ _)).trans hx5⟩
    · skip
      have hM : t % 2 ^ k < 4294967296 := Nat.lt_of_le_of_lt (Nat.mod_le _ _) htl
      have ho := frame_turned hrt.out (by rw [hbL.len, HFE.out, HSL.out]) (by rw [huL.out]) hM (by rw [HFE.out, HSL.out]; omega) h6.out h7.out
      have hsE := hbL.sl
      clear hM huL
      by_cases h0 : t % 2 ^ k = 0
      · have hbf : b = false := by rw [hbb.out]; simp [h0]
        rw [if_pos h0] at ho
        have HO := Lib.hid ho
        subst hbf
        clear ho hbb h0
        go_wp2_with fail
        refine (frame_Take hsE (by omega) HO).mono ?_
        rintro e w3 ⟨A2, n2, c2, rfl, hb2, hx2⟩
        have hpos : (0 : Int) < (l.length : Int) + 22 := by omega
        go_wp2_with fail
        refine (law4_known _).mono ?_
        rintro e w4 ⟨rfl, hx5⟩
        go_wp2_with fail
        go_ret
        exact ⟨rfl, ((hxr.trans hx2).trans (Ext.alloc _ _)).trans hx5⟩
      · have hbf : b = true := by rw [hbb.out]; simp [h0]
        rw [if_neg h0] at ho
        obtain ⟨er, ho, hern⟩ := ho
        have HO := Lib.hid ho
        have hern2 : ((er : Int) == 0) = false := by simpa using hern
        subst hbf
        clear ho hbb h0 hern
        go_wp2_with fail
        refine (frame_Take hsE (by omega) HO).mono ?_
        rintro e w3 ⟨A2, n2, c2, rfl, hb2, hx2⟩
        go_wp2_with fail
        refine (law4_known _).mono ?_
        rintro e w4 ⟨rfl, hx5⟩
        go_wp2_with fail
        go_ret
        exact ⟨rfl, ((hxr.trans hx2).trans (Ext.alloc _ _)).trans hx5⟩
end Go.Proofs.Ytcchlkialgjamaa
