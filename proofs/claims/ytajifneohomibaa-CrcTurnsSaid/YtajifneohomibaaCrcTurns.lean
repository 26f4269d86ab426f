/-
  The walk of one statement of chapter 2.
-/
import Derived.Test.YtajifneohomibaaCrcLaws
namespace Go.Proofs.Ytajifneohomibaa
open Go.RowKit
set_option linter.unusedVariables false
set_option maxRecDepth 100000

theorem u32_bit (t k : Nat) (ht : t < 4294967296) : (bits .and .u32 ((t : Int) / 2 ^ k) 1 == 1) = decide (t / 2 ^ k % 2 = 1) := by
  have h1 : t / 2 ^ k < 4294967296 := Nat.lt_of_le_of_lt (Nat.div_le_self _ _) ht
  have e : (t : Int) / 2 ^ k = ((t / 2 ^ k : Nat) : Int) := by simp
  rw [e, odd_and _ h1, Bool.eq_iff_iff, beq_iff_eq, decide_eq_true_eq]
  omega

set_option maxHeartbeats 1000000 in
theorem law_CrcTurns (A : Option Addr) (n cp : Nat) (l : List UInt8) (m t : Int) (w : World) (hs : Sl w A n cp l) (hm0 : -9223372036854775808 ≤ m) (hm1 : m ≤ 9223372036854775807) (ht0 : 0 ≤ t) (ht1 : t ≤ 4294967295) :
    Calls Try.prog 4 #[.slice A n cp, .int .i64 m, .int .u32 t] w fun e w' => e = .returned (.bool true) ∧ Ext w w' := by
  have h63 := hs.n63
  obtain ⟨t, rfl⟩ := Int.eq_ofNat_of_zero_le ht0
  have htl : t < 4294967296 := by omega
  clear ht0 ht1
  by_cases hn : 200 < n
  · clear hm0 hm1
    go_enter Try.func4, Try.ntmps4
    go_wp2_with fail
    refine (law2_known _).mono ?_
    rintro e w1 ⟨rfl, hx1⟩
    go_wp2_with fail
    go_ret
    exact ⟨rfl, hx1⟩
  by_cases hm : m < 0
  · clear hm0 hm1
    go_enter Try.func4, Try.ntmps4
    go_wp2_with fail
    refine (law2_known _).mono ?_
    rintro e w1 ⟨rfl, hx1⟩
    go_wp2_with fail
    go_ret
    exact ⟨rfl, hx1⟩
  obtain ⟨m, rfl⟩ := Int.eq_ofNat_of_zero_le (by omega : 0 ≤ m)
  have hmm : m ≤ 9223372036854775807 := by omega
  clear hm0 hm1 hm
  have hn' : n ≤ 200 := by omega
  have hlen : l.length = n := hs.len
  obtain ⟨s0, hs0⟩ : ∃ s, put l (crcOf l) 4 = s := ⟨_, rfl⟩
  have hs0l : s0.length = n + 4 := by rw [← hs0, put, List.length_append, le_length, hs.len]
  have hsealed : Hid (s0.drop (s0.length - 4) = le 4 (crcOf (s0.take (s0.length - 4))) ∧ s0.take (s0.length - 4) = l) := by
    unfold Hid
    have e : s0.length - 4 = l.length := by rw [hs0l, hs.len]; omega
    rw [e, ← hs0, put, List.take_left, List.drop_left]
    exact ⟨rfl, rfl⟩
  have HS := Lib.hid hs0
  have HSL := Lib.hid hs0l
  have HLL := Lib.hid hlen
  clear hs0 hs0l hlen
  go_enter Try.func4, Try.ntmps4
  go_wp2_with fail
  refine (crc_Seal A n cp l _ hs (by omega)).mono ?_
  rintro e w1 ⟨A1, c1, rfl, hb1, hx1⟩
  rw [HS.out] at hb1
  obtain ⟨g, rfl, hgB, hgl, _⟩ := hb1.open_ (by omega)
  go_wp2_with fail
  obtain ⟨K, hK, hKl⟩ : ∃ K : Nat, (m : Int) % (8 * ((n : Int) + 4)) = (K : Int) ∧ K < 8 * (n + 4) := ⟨m % (8 * (n + 4)), by simp, Nat.mod_lt _ (by omega)⟩
  rw [hK]
  clear hK
  have hu0 : Hid (unle s0 = unle s0 ^^^ (t % 2 ^ 0 * 2 ^ K)) := by
    unfold Hid
    simp [Nat.mod_one]
  go_loopw [9, 10] (fun tr i wr => ∃ (k : Nat) (L : List UInt8) (b : Bool), k ≤ 32 ∧ K + k ≤ 8 * (n + 4) ∧ i = .int .i64 k ∧ tr = .bool b ∧ Hid (b = decide (t % 2 ^ k ≠ 0)) ∧ Byt U8 wr w.heap.size (some ⟨g, 0, none⟩) (n + 4) c1 L ∧ Hid (unle L = unle s0 ^^^ (t % 2 ^ k * 2 ^ K)) ∧ Ext w wr) (fun _ i _ => (32 - intOf i).toNat)
  case atStart => exact ⟨0, s0, false, by omega, by omega, rfl, rfl, by simp [Hid, Nat.mod_one], hb1, hu0, hx1⟩
  case round =>
    obtain ⟨k, L, b, hk, hKk, rfl, rfl, hb, hbL, huL, hxr⟩ := hrel
    clear hu0 hb1 hx1
    by_cases h32 : k < 32
    · by_cases hend : K + k < 8 * (n + 4)
      · have hbit := u32_bit t k htl
        obtain ⟨hcell, hfroz⟩ : wr.cell? ⟨g, (K + k) / 8, none⟩ = some (.int .u8 ((L.getD ((K + k) / 8) 0).toNat : Int)) ∧ wr.frozen? ⟨g, (K + k) / 8, none⟩ = false := by
          obtain ⟨g', hg', _, _, h4⟩ := hbL.open_ (by omega)
          injection hg' with hg'
          injection hg' with hg'
          subst hg'
          exact h4 _ (by omega)
        obtain ⟨x, hx⟩ : ∃ x, x = L.getD ((K + k) / 8) 0 := ⟨_, rfl⟩
        rw [← hx] at hcell
        have HX := Lib.hid hx
        clear hx
        by_cases h1 : t / 2 ^ k % 2 = 1
        · have hbit1 : (bits .and .u32 ((t : Int) / 2 ^ k) 1 == 1) = true := by rw [hbit]; simpa using h1
          have H1 := Lib.hid h1
          clear hbit h1
          go_wp2
          go_roundw
          case rel =>
            have hval : bits .xor .u8 (x.toNat : Int) (2 ^ ((K + k) % 8) % 256) = (((x ^^^ UInt8.ofNat (2 ^ ((K + k) % 8))).toNat : Nat) : Int) := by
              have e : (2 : Int) ^ ((K + k) % 8) % 256 = (((UInt8.ofNat (2 ^ ((K + k) % 8))).toNat : Nat) : Int) := by simp
              rw [e, u8_xor_nat _ _ x.toNat_lt (UInt8.toNat_lt _), UInt8.toNat_xor]
            rw [hval]
            refine ⟨k + 1, L.set ((K + k) / 8) (x ^^^ UInt8.ofNat (2 ^ ((K + k) % 8))), true, by omega, by omega, by go_num, rfl, ?_, hbL.set_ (by omega) _, ?_, Below.setCell hxr hgB _⟩
            · unfold Hid
              rw [low_bits_succ, H1.out]
              have := Nat.two_pow_pos k
              symm
              simp
            · unfold Hid
              rw [HX.out, unle_set_xor L _ _ (by rw [hbL.len]; omega), bit_of_byte _ _ (Nat.mod_lt _ (by omega)), huL.out, low_bits_succ, H1.out, Nat.one_mul, xor_next_bit (Nat.mod_lt _ (Nat.two_pow_pos k)), Nat.xor_assoc]
              congr 3
              omega
          case measure => simp [intOf]; omega
        · have hbit1 : (bits .and .u32 ((t : Int) / 2 ^ k) 1 == 1) = false := by rw [hbit]; simpa using h1
          have H1 := Lib.hid h1
          clear hbit h1
          go_wp2
          go_roundw
          case rel =>
            have h0 : t / 2 ^ k % 2 = 0 := by have := H1.out; omega
            have e : t % 2 ^ (k + 1) = t % 2 ^ k := by rw [low_bits_succ, h0]; simp
            exact ⟨k + 1, L, b, by omega, by omega, by go_num, rfl, by rw [e]; exact hb, hbL, by rw [e]; exact huL, hxr⟩
          case measure => simp [intOf]; omega
      · skip
        have hM : t % 2 ^ k < 4294967296 := Nat.lt_of_le_of_lt (Nat.mod_le _ _) htl
        have ho := crcOpen_turned (s := s0) (L := L) (by rw [HSL.out]; omega) hsealed.out.1 (by rw [hbL.len, HSL.out]) huL.out hM (by rw [HSL.out]; omega)
        rw [hsealed.out.2] at ho
        have hsE := hbL.sl
        clear hM huL hsealed
        by_cases h0 : t % 2 ^ k = 0
        · have hbf : b = false := by rw [hb.out]; simp [h0]
          rw [if_pos h0] at ho
          have HO := Lib.hid ho
          subst hbf
          clear ho hb h0
          go_wp2_with fail
          refine (crc_Open_any _ (n + 4) c1 L _ hsE (by omega) HO).mono ?_
          rintro e w1 ⟨A2, n2, c2, rfl, hb2, hx2⟩
          have hn2 : n2 = n := by rw [← hb2.len, ← HLL.out]; rfl
          subst hn2
          clear hb2
          rcases Nat.eq_zero_or_pos n2 with hz | hz
          · subst hz
            go_wp2_with fail
            refine (law2_known _).mono ?_
            rintro e w1 ⟨rfl, hx5⟩
            go_wp2_with fail
            go_ret
            exact ⟨rfl, hxr.trans (hx2.trans hx5)⟩
          · have hz2 : ((n2 : Int) == 0) = false := by simp; omega
            go_wp2_with fail
            refine (law2_known _).mono ?_
            rintro e w1 ⟨rfl, hx5⟩
            go_wp2_with fail
            go_ret
            exact ⟨rfl, hxr.trans (hx2.trans hx5)⟩
        · have hbf : b = true := by rw [hb.out]; simp [h0]
          rw [if_neg h0] at ho
          have HO := Lib.hid ho
          subst hbf
          clear ho hb h0
          go_wp2_with fail
          refine (crc_Open_any _ (n + 4) c1 L _ hsE (by omega) HO).mono ?_
          rintro e w1 ⟨A2, n2, c2, rfl, hb2, hx2⟩
          have hn2 : n2 = 0 := by rw [← hb2.len]; rfl
          subst hn2
          clear hb2
          rcases Nat.eq_zero_or_pos n with hz | hz
          · subst hz
            go_wp2_with fail
            refine (law2_known _).mono ?_
            rintro e w1 ⟨rfl, hx5⟩
            go_wp2_with fail
            go_ret
            exact ⟨rfl, hxr.trans (hx2.trans hx5)⟩
          · have hz2 : ((n : Int) == 0) = false := by simp; omega
            go_wp2_with fail
            refine (law2_known _).mono ?_
            rintro e w1 ⟨rfl, hx5⟩
            go_wp2_with fail
            go_ret
            exact ⟨rfl, hxr.trans (hx2.trans hx5)⟩
    · skip
      have hM : t % 2 ^ k < 4294967296 := Nat.lt_of_le_of_lt (Nat.mod_le _ _) htl
      have ho := crcOpen_turned (s := s0) (L := L) (by rw [HSL.out]; omega) hsealed.out.1 (by rw [hbL.len, HSL.out]) huL.out hM (by rw [HSL.out]; omega)
      rw [hsealed.out.2] at ho
      have hsE := hbL.sl
      clear hM huL hsealed
      by_cases h0 : t % 2 ^ k = 0
      · have hbf : b = false := by rw [hb.out]; simp [h0]
        rw [if_pos h0] at ho
        have HO := Lib.hid ho
        subst hbf
        clear ho hb h0
        go_wp2_with fail
        refine (crc_Open_any _ (n + 4) c1 L _ hsE (by omega) HO).mono ?_
        rintro e w1 ⟨A2, n2, c2, rfl, hb2, hx2⟩
        have hn2 : n2 = n := by rw [← hb2.len, ← HLL.out]; rfl
        subst hn2
        clear hb2
        rcases Nat.eq_zero_or_pos n2 with hz | hz
        · subst hz
          go_wp2_with fail
          refine (law2_known _).mono ?_
          rintro e w1 ⟨rfl, hx5⟩
          go_wp2_with fail
          go_ret
          exact ⟨rfl, hxr.trans (hx2.trans hx5)⟩
        · have hz2 : ((n2 : Int) == 0) = false := by simp; omega
          go_wp2_with fail
          refine (law2_known _).mono ?_
          rintro e w1 ⟨rfl, hx5⟩
          go_wp2_with fail
          go_ret
          exact ⟨rfl, hxr.trans (hx2.trans hx5)⟩
      · have hbf : b = true := by rw [hb.out]; simp [h0]
        rw [if_neg h0] at ho
        have HO := Lib.hid ho
        subst hbf
        clear ho hb h0
        go_wp2_with fail
        refine (crc_Open_any _ (n + 4) c1 L _ hsE (by omega) HO).mono ?_
        rintro e w1 ⟨A2, n2, c2, rfl, hb2, hx2⟩
        have hn2 : n2 = 0 := by rw [← hb2.len]; rfl
        subst hn2
        clear hb2
        rcases Nat.eq_zero_or_pos n with hz | hz
        · subst hz
          go_wp2_with fail
          refine (law2_known _).mono ?_
          rintro e w1 ⟨rfl, hx5⟩
          go_wp2_with fail
          go_ret
          exact ⟨rfl, hxr.trans (hx2.trans hx5)⟩
        · have hz2 : ((n : Int) == 0) = false := by simp; omega
          go_wp2_with fail
          refine (law2_known _).mono ?_
          rintro e w1 ⟨rfl, hx5⟩
          go_wp2_with fail
          go_ret
          exact ⟨rfl, hxr.trans (hx2.trans hx5)⟩
end Go.Proofs.Ytajifneohomibaa
