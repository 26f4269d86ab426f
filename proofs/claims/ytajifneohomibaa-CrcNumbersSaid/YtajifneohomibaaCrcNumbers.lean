/-
  The walk of one statement of chapter 2.
-/
import Derived.Test.YtajifneohomibaaCrcLaws
namespace Go.Proofs.Ytajifneohomibaa
open Go.RowKit
set_option linter.unusedVariables false
set_option maxRecDepth 100000

def upd (f : Nat → UInt8) (l : List UInt8) (k : Nat) : List UInt8 := (List.range 32).map fun i => if i < k then f i else l.getD i 0
theorem upd_set (f : Nat → UInt8) (l : List UInt8) (k : Nat) (h : k < 32) : (upd f l k).set k (f k) = upd f l (k + 1) := by
  refine List.ext_getElem (by simp [upd]) fun i h1 h2 => ?_
  simp [upd] at h1 h2
  rw [List.getElem_set]
  simp only [upd, List.getElem_map, List.getElem_range]
  by_cases e : k = i
  · subst e
    rw [if_pos rfl, if_pos (by omega)]
  · rw [if_neg e]
    by_cases h3 : i < k
    · rw [if_pos h3, if_pos (by omega)]
    · rw [if_neg h3, if_neg (by omega)]
theorem upd_zero (f : Nat → UInt8) (l : List UInt8) (h : l.length = 32) : upd f l 0 = l := by
  refine List.ext_getElem (by simp [upd, h]) fun i h1 h2 => ?_
  simp [upd, List.getD_eq_getElem?_getD, List.getElem?_eq_getElem h2]
theorem num1 : crcOf (List.replicate 32 0) = 2324772522 := by decide +kernel
theorem num2 : crcOf (upd (fun _ => 255) (List.replicate 32 0) 32) = 1655221059 := by decide +kernel
theorem num3 : crcOf (upd (fun i => UInt8.ofNat i) (upd (fun _ => 255) (List.replicate 32 0) 32) 32) = 1188919630 := by decide +kernel

theorem own_cell {w : World} {B n c g k : Nat} {L : List UInt8} (h : Byt U8 w B (some ⟨g, 0, none⟩) n c L) (hk : k < n) : w.cell? ⟨g, k, none⟩ = some (.int .u8 ((L.getD k 0).toNat : Int)) ∧ w.frozen? ⟨g, k, none⟩ = false := by
  obtain ⟨g', hg', _, _, h4⟩ := h.open_ (by omega)
  injection hg' with hg'
  injection hg' with hg'
  subst hg'
  exact h4 _ hk

theorem law_CrcNumbers (w : World) : Calls Try.prog 3 #[] w fun e w' => e = .returned (.bool true) ∧ Ext w w' := by
  obtain ⟨Z, hZ⟩ : ∃ Z : Array Value, Z = ((List.replicate 32 (0 : UInt8)).map bv).toArray := ⟨_, rfl⟩
  have hmk : ∀ w : World, (Instr.makeSlice 22 (.int .i64 32) (.int .i64 32)).run Try.prog w = .ok (.slice (some ⟨w.heap.size, 0, none⟩) 32 32) (w.alloc (.cells Z U8)) := by
    intro w
    rw [hZ]
    kernel_rfl
  have hb : Byt U8 (w.alloc (.cells Z U8)) w.heap.size (some ⟨w.heap.size, 0, none⟩) 32 32 (List.replicate 32 0) := by
    refine ⟨by simp, ?_⟩
    have := Own.made w w.heap.size U8 1 Z 32 32 (Nat.le_refl _) (Nat.le_refl _) (by simp [maxLen]) (by rw [hZ]; simp)
    have e : Z.toList.take (32 * 1) = (List.replicate 32 (0 : UInt8)).map bv := by
      rw [hZ]
      exact List.take_of_length_le (by simp)
    rwa [e] at this
  obtain ⟨L1, hL1⟩ : ∃ L, L = List.replicate 32 (0 : UInt8) := ⟨_, rfl⟩
  obtain ⟨L2, hL2⟩ : ∃ L, L = upd (fun _ => 255) L1 32 := ⟨_, rfl⟩
  obtain ⟨L3, hL3⟩ : ∃ L, L = upd (fun i => UInt8.ofNat i) L2 32 := ⟨_, rfl⟩
  have n1 : Hid (crcOf L1 = 2324772522) := by rw [hL1]; exact num1
  have n2 : Hid (crcOf L2 = 1655221059) := by rw [hL2, hL1]; exact num2
  have n3 : Hid (crcOf L3 = 1188919630) := by rw [hL3, hL2, hL1]; exact num3
  have u1 : Hid (upd (fun _ => 255) L1 0 = L1) := upd_zero _ _ (by rw [hL1]; simp)
  have u2 : Hid (upd (fun i => UInt8.ofNat i) L2 0 = L2) := upd_zero _ _ (by rw [hL2]; simp [upd])
  have HL2 := Lib.hid hL2
  have HL3 := Lib.hid hL3
  rw [← hL1] at hb
  clear hZ hL1 hL2 hL3
  go_enter Try.func3, Try.ntmps3
  go_wp2_with fail
  refine (crc_Of' hb.sl n1).mono ?_
  rintro e w1 ⟨rfl, rfl⟩
  go_wp2_with fail
  go_loopw [2] (fun i wr => ∃ k : Nat, k ≤ 32 ∧ i = .int .i64 k ∧ Byt U8 wr w.heap.size (some ⟨w.heap.size, 0, none⟩) 32 32 (upd (fun _ => 255) L1 k) ∧ Ext w wr) (fun i _ => (32 - (intOf i).toNat))
  case atStart => exact ⟨0, by omega, rfl, by rw [u1.out]; exact hb, Ext.alloc _ _⟩
  case round =>
    obtain ⟨k, hk, rfl, hbk, hxk⟩ := hrel
    clear hb
    by_cases hlt : k < 32
    · obtain ⟨hc, hf⟩ := own_cell hbk hlt
      obtain ⟨u, hu⟩ : ∃ u, u = (upd (fun _ => 255) L1 k).getD k 0 := ⟨_, rfl⟩
      rw [← hu] at hc
      clear hu
      have hb2 := hbk.set_ hlt 255
      rw [upd_set _ _ _ hlt] at hb2
      go_wp2
      go_roundw
      case rel => exact ⟨k + 1, by omega, by go_num, hb2, Below.setCell hxk (Nat.le_refl _) _⟩
      case measure => simp [intOf]; omega
    · obtain rfl : k = 32 := by omega
      rw [← HL2.out] at hbk
      clear hlt
      go_wp2_with fail
      refine (crc_Of' hbk.sl n2).mono ?_
      rintro e w1 ⟨rfl, rfl⟩
      go_wp2_with fail
      go_loopw [3] (fun i wr => ∃ k : Nat, k ≤ 32 ∧ i = .int .i64 k ∧ Byt U8 wr w.heap.size (some ⟨w.heap.size, 0, none⟩) 32 32 (upd (fun i => UInt8.ofNat i) L2 k) ∧ Ext w wr) (fun i _ => (32 - (intOf i).toNat))
      case atStart => exact ⟨0, by omega, rfl, by rw [u2.out]; exact hbk, hxk⟩
      case round =>
        obtain ⟨k, hk, rfl, hbk, hxk⟩ := hrel
        by_cases hlt : k < 32
        · obtain ⟨hc, hf⟩ := own_cell hbk hlt
          obtain ⟨u, hu⟩ : ∃ u, u = (upd (fun i => UInt8.ofNat i) L2 k).getD k 0 := ⟨_, rfl⟩
          rw [← hu] at hc
          clear hu
          have hb2 := hbk.set_ hlt (UInt8.ofNat k)
          rw [upd_set (fun i => UInt8.ofNat i) _ _ hlt] at hb2
          have e : ((UInt8.ofNat k).toNat : Int) = (k : Int) := by simp; omega
          rw [bv, e] at hb2
          clear e
          go_wp2
          go_roundw
          case rel => exact ⟨k + 1, by omega, by go_num, hb2, Below.setCell hxk (Nat.le_refl _) _⟩
          case measure => simp [intOf]; omega
        · obtain rfl : k = 32 := by omega
          rw [← HL3.out] at hbk
          clear hlt
          go_wp2_with fail
          refine (crc_Of' hbk.sl n3).mono ?_
          rintro e w1 ⟨rfl, rfl⟩
          go_wp2_with fail
          refine (law2_known _).mono ?_
          rintro e w1 ⟨rfl, hx5⟩
          go_wp2_with fail
          go_ret
          exact ⟨rfl, hxk.trans hx5⟩
end Go.Proofs.Ytajifneohomibaa
