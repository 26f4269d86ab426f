/-
  The walks of the statements of chapter 2.
-/
import Derived.Test.YtajifneohomibaaCrc
import Derived.Test.YtajifneohomibaaCrcMath
namespace Go.Proofs.Ytajifneohomibaa
open Go.RowKit
set_option linter.unusedVariables false
set_option maxRecDepth 100000

theorem law2_known (w : World) : Calls Try.prog 17 #[] w fun e w' => e = .returned (.bool true) ∧ Ext w w' := by
  have hcv := @run_conv_bytes
  go_enter Try.func17, Try.ntmps17
  go_wp2_with fail
  have hs := sl_new w #[.int .u8 97] U8 (1, 2) [97] rfl (by simp [maxLen])
  refine (crc_Seal _ 1 1 [97] _ hs (by omega)).mono ?_
  rintro e w1 ⟨A1, c1, rfl, hb1, hx1⟩
  obtain ⟨L, hL⟩ : ∃ L, L = put [97] (crcOf [97]) 4 := ⟨_, rfl⟩
  rw [← hL] at hb1
  have ho : crcOpen L = some [97] := by rw [hL]; exact crcOpen_put _
  clear hL
  go_wp2_with fail
  refine (crc_Open _ _ _ L _ hb1.sl (by omega) (by omega)).mono ?_
  rintro e w2 ⟨A2, n2, c2, rfl, hb2, hx2⟩
  rw [ho] at hb2 ⊢
  clear ho
  have hb2' : Byt U8 w2 w1.heap.size A2 n2 c2 [97] := hb2
  clear hb2
  have hx : Ext w w2 := (Ext.alloc w _).trans (hx1.trans hx2)
  go_wp2_with fail
  have hs3 := sl_new w2 #[.int .u8 49, .int .u8 50, .int .u8 51, .int .u8 52, .int .u8 53, .int .u8 54, .int .u8 55, .int .u8 56, .int .u8 57] U8 (9, 10) [49, 50, 51, 52, 53, 54, 55, 56, 57] rfl (by simp [maxLen])
  refine (crc_Of _ 9 9 _ _ hs3).mono ?_
  rintro e w3 ⟨rfl, rfl⟩
  rw [crcOf_nine]
  go_wp2_with fail
  refine (crc_Of _ 0 0 _ _ (Sl.nil _)).mono ?_
  rintro e w3 ⟨rfl, rfl⟩
  rw [crcOf_nil]
  have ht := run_text_u8 ((hb2'.ext (Ext.alloc w2 (.cells #[.int .u8 49, .int .u8 50, .int .u8 51, .int .u8 52, .int .u8 53, .int .u8 54, .int .u8 55, .int .u8 56, .int .u8 57] U8 (9, 10)))).sl)
  go_wp2_with fail
  go_ret
  exact ⟨rfl, hx.trans (Ext.alloc _ _)⟩

theorem law_CrcSteps (A : Option Addr) (n cap : Nat) (l : List UInt8) (c d x : Int) (w : World) (hs : Sl w A n cap l) (hc0 : 0 ≤ c) (hc1 : c ≤ 4294967295) (hd0 : 0 ≤ d) (hd1 : d ≤ 4294967295) (hx0 : 0 ≤ x) (hx1 : x ≤ 255) :
    Calls Try.prog 6 #[.slice A n cap, .int .u32 c, .int .u32 d, .int .u8 x] w fun e w' => e = .returned (.bool true) ∧ Ext w w' := by
  have h63 := hs.n63
  obtain ⟨c, rfl⟩ := Int.eq_ofNat_of_zero_le hc0
  obtain ⟨d, rfl⟩ := Int.eq_ofNat_of_zero_le hd0
  obtain ⟨x, rfl⟩ := Int.eq_ofNat_of_zero_le hx0
  have hcx : c < 4294967296 := by omega
  have hdx : d < 4294967296 := by omega
  have hxx : x < 256 := by omega
  clear hc0 hc1 hd0 hd1 hx0 hx1
  by_cases hn : 200 < n
  · go_enter Try.func6, Try.ntmps6
    go_wp2_with fail
    refine (law2_known _).mono ?_
    rintro e w1 ⟨rfl, hx1⟩
    go_wp2_with fail
    go_ret
    exact ⟨rfl, hx1⟩
  go_enter Try.func6, Try.ntmps6
  go_wp2
  go_loop [9, 10] (fun s i => ∃ k : Nat, k ≤ n ∧ i = .int .i64 k ∧ s = .int .u32 (crcRun 4294967295 (l.take k))) (fun _ i => (n - (intOf i).toNat))
  case atStart => exact ⟨0, by omega, rfl, rfl⟩
  case round =>
    obtain ⟨k, hk, rfl, rfl⟩ := hrel
    have hl := crcRun_lt (l.take k) (c := 4294967295) (by omega)
    obtain ⟨q, hq⟩ : ∃ q, q = crcRun 4294967295 (l.take k) := ⟨_, rfl⟩
    rw [← hq]
    rw [← hq] at hl
    have HQ := Lib.hid hq
    clear hq
    by_cases hlt : k < n
    · obtain ⟨ad, rfl, hcell⟩ := hs.atD hlt
      have hb := (l.getD k 0).toNat_lt
      have HS : Hid (crcNext q (l.getD k 0).toNat = crcRun 4294967295 (l.take (k + 1))) := by rw [HQ.out]; exact (crcRun_take _ (by rw [hs.len]; exact hlt)).symm
      obtain ⟨b, hb'⟩ : ∃ b, b = l.getD k 0 := ⟨_, rfl⟩
      rw [← hb'] at hcell hb HS
      clear hb'
      go_wp2_with (go_at_call 20; refine (crc_Next q b.toNat _ hl hb).mono ?_; rintro e w1 ⟨rfl, rfl⟩)
      go_round
      case rel => exact ⟨k + 1, by omega, by go_num, by rw [HS.out]⟩
      case measure => simp [intOf]; omega
    · have hkn : k = n := by omega
      have e : l.take k = l := List.take_of_length_le (by rw [hs.len]; omega)
      rw [e] at HQ
      obtain ⟨o, ho⟩ : ∃ o, crcOf l = o := ⟨_, rfl⟩
      obtain ⟨a1, h1⟩ : ∃ a1, crcNext c x = a1 := ⟨_, rfl⟩
      obtain ⟨a2, h2⟩ : ∃ a2, crcNext d x = a2 := ⟨_, rfl⟩
      obtain ⟨a3, h3⟩ : ∃ a3, crcNext (c ^^^ d) 0 = a3 := ⟨_, rfl⟩
      have hl1 : a1 < 4294967296 := by rw [← h1]; exact crcNext_lt hcx hxx
      have hl2 : a2 < 4294967296 := by rw [← h2]; exact crcNext_lt hdx hxx
      have hlaws := crcNext_laws c d x hcx hdx hxx
      rw [h1, h2, h3] at hlaws
      have f1 : (bits .xor .u32 IntKind.u32.max (q : Int) == (o : Int)) = true := by
        rw [not_u32 q hl, ← ho, HQ.out]
        simp [crcOf]
      obtain ⟨b, hb⟩ : ∃ b : Bool, b = decide (c = d) := ⟨_, rfl⟩
      have f2 : ((c : Int) == (d : Int)) = b := by
        rw [hb, Bool.eq_iff_iff, beq_iff_eq, decide_eq_true_eq]
        omega
      have f3 : ((a1 : Int) == (a2 : Int)) = b := by
        rw [hb, Bool.eq_iff_iff, beq_iff_eq, decide_eq_true_eq, ← hlaws.1]
        omega
      have f4 : (bits .xor .u32 (a1 : Int) (a2 : Int) == (a3 : Int)) = true := by
        rw [u32_xor_nat a1 a2 hl1 hl2, hlaws.2]
        simp
      have f5 := Lib.hid (u32_xor_nat c d hcx hdx)
      have hlx := xor_lt32 hcx hdx
      have H1 := Lib.hid h1
      have H2 := Lib.hid h2
      have H3 := Lib.hid h3
      have HO := Lib.hid ho
      clear hkn e HQ h1 h2 h3 ho hb hlaws
      go_wp2_with fail
      refine (crc_Of' hs HO).mono ?_
      rintro e w1 ⟨rfl, rfl⟩
      go_wp2_with fail
      refine (crc_Next' hcx hxx H1).mono ?_
      rintro e w1 ⟨rfl, rfl⟩
      go_wp2_with fail
      refine (crc_Next' hdx hxx H2).mono ?_
      rintro e w1 ⟨rfl, rfl⟩
      go_wp2_with fail
      refine (crc_Next' hcx hxx H1).mono ?_
      rintro e w1 ⟨rfl, rfl⟩
      go_wp2_with fail
      refine (crc_Next' hdx hxx H2).mono ?_
      rintro e w1 ⟨rfl, rfl⟩
      go_wp2_with fail
      rw [f5.out]
      refine (crc_Next' hlx (by omega) H3).mono ?_
      rintro e w1 ⟨rfl, rfl⟩
      go_wp2_with fail
      refine (law2_known _).mono ?_
      rintro e w1 ⟨rfl, hx1⟩
      go_wp2_with fail
      go_ret
      exact ⟨rfl, hx1⟩
end Go.Proofs.Ytajifneohomibaa
