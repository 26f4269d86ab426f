/-
  Messages in bytes: contract of the program's Put.
-/
import Derived.Test.YtoeknbogaclfdaaZFromMsPartsToMsRight
import Derived.Test.YtoeknbogaclfdaaZFromFrameTakeToInts
import Derived.Test.YtoeknbogaclfdaaZFromMksPutToMsParse
import Derived.Test.YtoeknbogaclfdaaZFromTagPutToTagFlat
import Derived.Test.YtoeknbogaclfdaaZFromSumToFrame
namespace Go.Proofs.Ytoeknbogaclfdaa
open Go.RowKit
set_option linter.unusedVariables false
set_option linter.unusedSimpArgs false
set_option linter.unnecessarySimpa false
set_option maxRecDepth 100000
theorem byt_madeM (w : World) (cs : Array Value) (e : TypeId) (B : Nat) (l : List UInt8) (hcs : cs.toList = l.map bv) (hm : l.length ≤ maxLen) (hB : B ≤ w.heap.size) : Byt e (w.alloc (.cells cs e)) B (some ⟨w.heap.size, 0, none⟩) l.length l.length l := by
  have hl : cs.size = l.length := by rw [← Array.length_toList, hcs, List.length_map]
  have := Own.made w B e 1 cs l.length l.length hB (Nat.le_refl _) hm (by omega)
  rw [hcs, List.take_of_length_le (by simp)] at this
  exact ⟨rfl, this⟩
def putMr (m : Ms) (r : Bool) : List UInt8 := if r then putM m else []
def kdB (k : Int) : UInt8 := UInt8.ofNat k.toNat
theorem run_kind {k : Int} (hk : 1 ≤ k ∧ k ≤ 9) (u : World) : (convert 3 U8 (.int .i64 k)).run Try.prog u = .ok (.int .u8 ((kdB k).toNat : Int)) u := by
  have hk9 : k = 1 ∨ k = 2 ∨ k = 3 ∨ k = 4 ∨ k = 5 ∨ k = 6 ∨ k = 7 ∨ k = 8 ∨ k = 9 := by omega
  clear hk
  rcases hk9 with h | h | h | h | h | h | h | h | h
  · subst h
    have e : (convert 3 U8 (.int .i64 1)).run Try.prog u = .ok (.int .u8 ((kdB 1).toNat : Int)) u := by kernel_rfl
    exact e
  · subst h
    have e : (convert 3 U8 (.int .i64 2)).run Try.prog u = .ok (.int .u8 ((kdB 2).toNat : Int)) u := by kernel_rfl
    exact e
  · subst h
    have e : (convert 3 U8 (.int .i64 3)).run Try.prog u = .ok (.int .u8 ((kdB 3).toNat : Int)) u := by kernel_rfl
    exact e
  · subst h
    have e : (convert 3 U8 (.int .i64 4)).run Try.prog u = .ok (.int .u8 ((kdB 4).toNat : Int)) u := by kernel_rfl
    exact e
  · subst h
    have e : (convert 3 U8 (.int .i64 5)).run Try.prog u = .ok (.int .u8 ((kdB 5).toNat : Int)) u := by kernel_rfl
    exact e
  · subst h
    have e : (convert 3 U8 (.int .i64 6)).run Try.prog u = .ok (.int .u8 ((kdB 6).toNat : Int)) u := by kernel_rfl
    exact e
  · subst h
    have e : (convert 3 U8 (.int .i64 7)).run Try.prog u = .ok (.int .u8 ((kdB 7).toNat : Int)) u := by kernel_rfl
    exact e
  · subst h
    have e : (convert 3 U8 (.int .i64 8)).run Try.prog u = .ok (.int .u8 ((kdB 8).toNat : Int)) u := by kernel_rfl
    exact e
  · subst h
    have e : (convert 3 U8 (.int .i64 9)).run Try.prog u = .ok (.int .u8 ((kdB 9).toNat : Int)) u := by kernel_rfl
    exact e
theorem rightM_bds {m : Ms} (hr : rightM m = true) : (1 ≤ m.kind ∧ m.kind ≤ 9) ∧ (m.nonce ≤ 9223372036854775807 ∧ m.pos ≤ 9223372036854775807 ∧ m.en ≤ 9223372036854775807 ∧ m.stage ≤ 9223372036854775807 ∧ m.num ≤ 9223372036854775807) ∧ m.data.length ≤ 64 ∧ tailM m = true := by
  unfold rightM at hr
  rw [Bool.and_eq_true, headM_iff] at hr
  exact ⟨hr.1.1, by omega, hr.1.2.2.2, hr.2⟩
theorem boxed {w w' : World} {B : Nat} {A : Option Addr} {c n size : Nat} {e : TypeId} {xs : List Value} {p : Addr} {u : Value} (hp : p.block < B) (ho : Own w B e size A n c xs) (hg : w.grownBy w' (rowOf A c)) (hc : w.cell? p = some u) : w'.cell? p = some u := by
  rw [← hc]
  refine World.cell?_of_block (hg.block p.block (World.block_lt_of_cell? _ _ hc) fun e => ?_)
  have := (ho.row_ge _ e.symm).1
  omega
set_option maxHeartbeats 4000000 in
theorem msg_Put_0 {k : Int} (hk0 : Hid (¬ (k = 2 ∨ k = 4 ∨ k = 6))) {n p e' s q : Int} {ch : List Tg} {en : List En} {mk : List Mk} {da : List UInt8} {A1 : Option Addr} {An1 Ac1 : Nat} {A2 : Option Addr} {An2 Ac2 : Nat} {A3 : Option Addr} {An3 Ac3 : Nat} {A4 : Option Addr} {An4 Ac4 : Nat} {w : World} (h : MsR w ⟨k, n, p, e', s, q, ch, en, mk, da⟩ A1 An1 Ac1 A2 An2 Ac2 A3 An3 Ac3 A4 An4 Ac4) (hf : Hid (EnFit en)) (hs : Hid (Shorts mk)) (hr : Hid (rightM ⟨k, n, p, e', s, q, ch, en, mk, da⟩ = true)) {L : List UInt8} (hL : Hid (putMr ⟨k, n, p, e', s, q, ch, en, mk, da⟩ true = L)) :
    Calls Try.prog 13 #[msV ⟨k, n, p, e', s, q, ch, en, mk, da⟩ A1 An1 Ac1 A2 An2 Ac2 A3 An3 Ac3 A4 An4 Ac4] w fun e w' => ∃ A' n' c', e = .returned (.tuple #[.slice A' n' c', .int .i64 (if true then 0 else 1)]) ∧ Byt U8 w' w.heap.size A' n' c' L ∧ Ext w w' := by
  have hbd := rightM_bds hr.out
  simp only at hbd
  obtain ⟨HK, HD, hda, ht⟩ := hbd
  have HD := Lib.hid HD
  have hcv := fun u => run_kind HK u
  have HT := Lib.hid ht
  have HL : Hid (putM ⟨k, n, p, e', s, q, ch, en, mk, da⟩ = L) := hL.out
  have HRC := Lib.hid (msg_Right (h.ext (Ext.alloc w (.cells (msC ⟨k, n, p, e', s, q, ch, en, mk, da⟩ A1 An1 Ac1 A2 An2 Ac2 A3 An3 Ac3 A4 An4 Ac4) TMs))) hf hs hr)
  obtain ⟨kb, hkb⟩ : ∃ z, kdB k = z := ⟨_, rfl⟩
  rw [hkb] at hcv
  have HKB := Lib.hid hkb
  obtain ⟨i0, hi0, hz0, hz1, hz2⟩ := info_parts info_u8
  clear hL hr ht hkb
  rw [show (if true = true then (0 : Int) else 1) = 0 from rfl]
  go_enter Try.func13, Try.ntmps13
  go_wp2_with fail
  refine HRC.out.mono ?_
  rintro e w2 ⟨rfl, hx2⟩
  have b0 : w2.cell? ⟨w.heap.size, 0, none⟩ = some (.int .i64 k) := hx2.cell (cell_new w (msC ⟨k, n, p, e', s, q, ch, en, mk, da⟩ A1 An1 Ac1 A2 An2 Ac2 A3 An3 Ac3 A4 An4 Ac4) TMs 0)
  have b1 : w2.cell? ⟨w.heap.size, 1, none⟩ = some (.int .i64 n) := hx2.cell (cell_new w (msC ⟨k, n, p, e', s, q, ch, en, mk, da⟩ A1 An1 Ac1 A2 An2 Ac2 A3 An3 Ac3 A4 An4 Ac4) TMs 1)
  have b2 : w2.cell? ⟨w.heap.size, 2, none⟩ = some (.int .i64 p) := hx2.cell (cell_new w (msC ⟨k, n, p, e', s, q, ch, en, mk, da⟩ A1 An1 Ac1 A2 An2 Ac2 A3 An3 Ac3 A4 An4 Ac4) TMs 2)
  have b3 : w2.cell? ⟨w.heap.size, 3, none⟩ = some (.int .i64 e') := hx2.cell (cell_new w (msC ⟨k, n, p, e', s, q, ch, en, mk, da⟩ A1 An1 Ac1 A2 An2 Ac2 A3 An3 Ac3 A4 An4 Ac4) TMs 3)
  have b4 : w2.cell? ⟨w.heap.size, 4, none⟩ = some (.int .i64 s) := hx2.cell (cell_new w (msC ⟨k, n, p, e', s, q, ch, en, mk, da⟩ A1 An1 Ac1 A2 An2 Ac2 A3 An3 Ac3 A4 An4 Ac4) TMs 4)
  have b5 : w2.cell? ⟨w.heap.size, 5, none⟩ = some (.int .i64 q) := hx2.cell (cell_new w (msC ⟨k, n, p, e', s, q, ch, en, mk, da⟩ A1 An1 Ac1 A2 An2 Ac2 A3 An3 Ac3 A4 An4 Ac4) TMs 5)
  have b6 : w2.cell? ⟨w.heap.size, 6, none⟩ = some (.slice A1 An1 Ac1) := hx2.cell (cell_new w (msC ⟨k, n, p, e', s, q, ch, en, mk, da⟩ A1 An1 Ac1 A2 An2 Ac2 A3 An3 Ac3 A4 An4 Ac4) TMs 6)
  have b7 : w2.cell? ⟨w.heap.size, 7, none⟩ = some (.slice A2 An2 Ac2) := hx2.cell (cell_new w (msC ⟨k, n, p, e', s, q, ch, en, mk, da⟩ A1 An1 Ac1 A2 An2 Ac2 A3 An3 Ac3 A4 An4 Ac4) TMs 7)
  have b8 : w2.cell? ⟨w.heap.size, 8, none⟩ = some (.slice A3 An3 Ac3) := hx2.cell (cell_new w (msC ⟨k, n, p, e', s, q, ch, en, mk, da⟩ A1 An1 Ac1 A2 An2 Ac2 A3 An3 Ac3 A4 An4 Ac4) TMs 8)
  have b9 : w2.cell? ⟨w.heap.size, 9, none⟩ = some (.slice A4 An4 Ac4) := hx2.cell (cell_new w (msC ⟨k, n, p, e', s, q, ch, en, mk, da⟩ A1 An1 Ac1 A2 An2 Ac2 A3 An3 Ac3 A4 An4 Ac4) TMs 9)
  have f0 : (w2.alloc (.cells #[.int .u8 ((kb).toNat : Int)] U8)).cell? ⟨w.heap.size, 0, none⟩ = some (.int .i64 k) := (Ext.alloc _ _).cell b0
  have f1 : (w2.alloc (.cells #[.int .u8 ((kb).toNat : Int)] U8)).cell? ⟨w.heap.size, 1, none⟩ = some (.int .i64 n) := (Ext.alloc _ _).cell b1
  have f2 : (w2.alloc (.cells #[.int .u8 ((kb).toNat : Int)] U8)).cell? ⟨w.heap.size, 2, none⟩ = some (.int .i64 p) := (Ext.alloc _ _).cell b2
  have f3 : (w2.alloc (.cells #[.int .u8 ((kb).toNat : Int)] U8)).cell? ⟨w.heap.size, 3, none⟩ = some (.int .i64 e') := (Ext.alloc _ _).cell b3
  have f4 : (w2.alloc (.cells #[.int .u8 ((kb).toNat : Int)] U8)).cell? ⟨w.heap.size, 4, none⟩ = some (.int .i64 s) := (Ext.alloc _ _).cell b4
  have f5 : (w2.alloc (.cells #[.int .u8 ((kb).toNat : Int)] U8)).cell? ⟨w.heap.size, 5, none⟩ = some (.int .i64 q) := (Ext.alloc _ _).cell b5
  have f6 : (w2.alloc (.cells #[.int .u8 ((kb).toNat : Int)] U8)).cell? ⟨w.heap.size, 6, none⟩ = some (.slice A1 An1 Ac1) := (Ext.alloc _ _).cell b6
  have f7 : (w2.alloc (.cells #[.int .u8 ((kb).toNat : Int)] U8)).cell? ⟨w.heap.size, 7, none⟩ = some (.slice A2 An2 Ac2) := (Ext.alloc _ _).cell b7
  have f8 : (w2.alloc (.cells #[.int .u8 ((kb).toNat : Int)] U8)).cell? ⟨w.heap.size, 8, none⟩ = some (.slice A3 An3 Ac3) := (Ext.alloc _ _).cell b8
  have f9 : (w2.alloc (.cells #[.int .u8 ((kb).toNat : Int)] U8)).cell? ⟨w.heap.size, 9, none⟩ = some (.slice A4 An4 Ac4) := (Ext.alloc _ _).cell b9
  have gx2 : Ext w w2 := (Ext.alloc _ _).trans hx2
  have gx2b : w.heap.size < w2.heap.size := World.block_lt_of_cell? _ _ b0
  clear hx2 HRC
  have hB2 := gx2.size
  go_wp2_with fail
  obtain ⟨W, hW⟩ : ∃ W, W = w2.alloc (.cells #[.int .u8 ((kb).toNat : Int)] U8) := ⟨_, rfl⟩
  have hb0 : Byt U8 W w2.heap.size (some ⟨w2.heap.size, 0, none⟩) 1 1 [kb] := by rw [hW]; exact byt_madeM w2 _ _ _ [kb] rfl (by simp [maxLen]) (Nat.le_refl _)
  have hxW : Ext w2 W := by rw [hW]; exact Ext.alloc _ _
  rw [← hW]
  clear hW f0 f1 f2 f3 f4 f5 f6 f7 f8 f9 hB2
  clear hcv
  go_loopw [4, 34] (fun v i wr => ∃ (j : Nat) (Ab : Option Addr) (m cb : Nat) (H : List UInt8), j ≤ 5 ∧ v = .slice Ab m cb ∧ i = .int .i64 j ∧ Byt U8 wr w2.heap.size Ab m cb H ∧ Hid (kb :: varsL ([n, p, e', s, q].take j) = H) ∧ m ≤ 1 + 9 * j ∧ Ext w2 wr) (fun _ i _ => 5 - (intOf i).toNat)
  case atStart => exact ⟨0, _, 1, 1, [kb], by omega, rfl, rfl, hb0, rfl, by omega, hxW⟩
  case round =>
    clear hb0 hxW
    obtain ⟨j, Ac, m, cc, H, hj, rfl, rfl, hbH, hH, hp, hxq⟩ := hrel
    have gsz := hxq.size
    have f0 := hxq.cell b0
    have f6 := hxq.cell b6
    have f7 := hxq.cell b7
    have f8 := hxq.cell b8
    have f9 := hxq.cell b9
    clear b0 b1 b2 b3 b4 b5 b6 b7 b8 b9
    have hj6 : j = 0 ∨ j = 1 ∨ j = 2 ∨ j = 3 ∨ j = 4 ∨ 5 ≤ j := by omega
    rcases hj6 with rfl | rfl | rfl | rfl | rfl | hj5
    · have ix : ∀ w, (Instr.index 72 (.agg #[.int .i64 n, .int .i64 p, .int .i64 e', .int .i64 s, .int .i64 q]) (.int .i64 0)).run Try.prog w = .ok (.int .i64 n) w := fun _ => by kernel_rfl
      go_wp2_with fail
      refine (bits_Var Ac m cc H n _ hbH.sl (by omega) HD.out.1).mono ?_
      rintro e w4 ⟨A5, n4, c4, rfl, hb4, hx4⟩
      have hl4 : n4 ≤ m + 9 := by
        have := varl_length (n).toNat
        rw [← hb4.len, List.length_append, hbH.len]
        omega
      go_wp2_with fail
      go_roundw
      case rel => exact ⟨1, A5, n4, c4, _, by omega, rfl, rfl, hb4.low gsz, by unfold Hid; rw [← hH.out]; simp [varsL], by omega, hxq.trans hx4⟩
      case measure => simp [intOf]
    · have ix : ∀ w, (Instr.index 72 (.agg #[.int .i64 n, .int .i64 p, .int .i64 e', .int .i64 s, .int .i64 q]) (.int .i64 1)).run Try.prog w = .ok (.int .i64 p) w := fun _ => by kernel_rfl
      go_wp2_with fail
      refine (bits_Var Ac m cc H p _ hbH.sl (by omega) HD.out.2.1).mono ?_
      rintro e w4 ⟨A5, n4, c4, rfl, hb4, hx4⟩
      have hl4 : n4 ≤ m + 9 := by
        have := varl_length (p).toNat
        rw [← hb4.len, List.length_append, hbH.len]
        omega
      go_wp2_with fail
      go_roundw
      case rel => exact ⟨2, A5, n4, c4, _, by omega, rfl, rfl, hb4.low gsz, by unfold Hid; rw [← hH.out]; simp [varsL], by omega, hxq.trans hx4⟩
      case measure => simp [intOf]
    · have ix : ∀ w, (Instr.index 72 (.agg #[.int .i64 n, .int .i64 p, .int .i64 e', .int .i64 s, .int .i64 q]) (.int .i64 2)).run Try.prog w = .ok (.int .i64 e') w := fun _ => by kernel_rfl
      go_wp2_with fail
      refine (bits_Var Ac m cc H e' _ hbH.sl (by omega) HD.out.2.2.1).mono ?_
      rintro e w4 ⟨A5, n4, c4, rfl, hb4, hx4⟩
      have hl4 : n4 ≤ m + 9 := by
        have := varl_length (e').toNat
        rw [← hb4.len, List.length_append, hbH.len]
        omega
      go_wp2_with fail
      go_roundw
      case rel => exact ⟨3, A5, n4, c4, _, by omega, rfl, rfl, hb4.low gsz, by unfold Hid; rw [← hH.out]; simp [varsL], by omega, hxq.trans hx4⟩
      case measure => simp [intOf]
    · have ix : ∀ w, (Instr.index 72 (.agg #[.int .i64 n, .int .i64 p, .int .i64 e', .int .i64 s, .int .i64 q]) (.int .i64 3)).run Try.prog w = .ok (.int .i64 s) w := fun _ => by kernel_rfl
      go_wp2_with fail
      refine (bits_Var Ac m cc H s _ hbH.sl (by omega) HD.out.2.2.2.1).mono ?_
      rintro e w4 ⟨A5, n4, c4, rfl, hb4, hx4⟩
      have hl4 : n4 ≤ m + 9 := by
        have := varl_length (s).toNat
        rw [← hb4.len, List.length_append, hbH.len]
        omega
      go_wp2_with fail
      go_roundw
      case rel => exact ⟨4, A5, n4, c4, _, by omega, rfl, rfl, hb4.low gsz, by unfold Hid; rw [← hH.out]; simp [varsL], by omega, hxq.trans hx4⟩
      case measure => simp [intOf]
    · have ix : ∀ w, (Instr.index 72 (.agg #[.int .i64 n, .int .i64 p, .int .i64 e', .int .i64 s, .int .i64 q]) (.int .i64 4)).run Try.prog w = .ok (.int .i64 q) w := fun _ => by kernel_rfl
      go_wp2_with fail
      refine (bits_Var Ac m cc H q _ hbH.sl (by omega) HD.out.2.2.2.2).mono ?_
      rintro e w4 ⟨A5, n4, c4, rfl, hb4, hx4⟩
      have hl4 : n4 ≤ m + 9 := by
        have := varl_length (q).toNat
        rw [← hb4.len, List.length_append, hbH.len]
        omega
      go_wp2_with fail
      go_roundw
      case rel => exact ⟨5, A5, n4, c4, _, by omega, rfl, rfl, hb4.low gsz, by unfold Hid; rw [← hH.out]; simp [varsL], by omega, hxq.trans hx4⟩
      case measure => simp [intOf]
    · have HG0 : Hid (kb :: varsL [n, p, e', s, q] = H) := by
        unfold Hid
        rw [← hH.out, show j = 5 by omega]
        rfl
      have dj : decide ((j : Int) < 5) = false := by simp; omega
      have djn : decide (j < 5) = false := by simp; omega
      have hp46 : m ≤ 46 := by omega
      have gx3 := gx2.trans hxq
      clear hH hp
      have hk0' := hk0.out
      have g2 : (k == 2) = false := by simp; omega
      have g4 : (k == 4) = false := by simp; omega
      have g6 : (k == 6) = false := by simp; omega
      have HL2 : Hid (put H (crcOf H) 4 = L) := by
        unfold Hid
        rw [← HL.out, ← HG0.out, ← HKB.out]
        unfold putM bodyM chainBs restBs
        rw [if_neg (show ¬ (k = 2 ∨ k = 4) by omega), if_neg (show ¬ k = 2 by omega), if_neg (show ¬ k = 4 by omega), if_neg (show ¬ k = 6 by omega)]
        simp [msNs, kdB]
      clear HL HG0 hk0' hk0
      go_wp2_with fail
      refine (crc_Seal Ac m cc H _ hbH.sl (by omega)).mono ?_
      rintro e w5 ⟨A9, c9, rfl, h9, hx9⟩
      rw [HL2.out] at h9
      go_wp2_with fail
      go_ret2
      exact ⟨_, _, _, rfl, h9.low (gx2.trans hxq).size, (gx2.trans hxq).trans hx9⟩
set_option maxHeartbeats 4000000 in
theorem msg_Put_6 {n p e' s q : Int} {ch : List Tg} {en : List En} {mk : List Mk} {da : List UInt8} {A1 : Option Addr} {An1 Ac1 : Nat} {A2 : Option Addr} {An2 Ac2 : Nat} {A3 : Option Addr} {An3 Ac3 : Nat} {A4 : Option Addr} {An4 Ac4 : Nat} {w : World} (h : MsR w ⟨6, n, p, e', s, q, ch, en, mk, da⟩ A1 An1 Ac1 A2 An2 Ac2 A3 An3 Ac3 A4 An4 Ac4) (hf : Hid (EnFit en)) (hs : Hid (Shorts mk)) (hr : Hid (rightM ⟨6, n, p, e', s, q, ch, en, mk, da⟩ = true)) {L : List UInt8} (hL : Hid (putMr ⟨6, n, p, e', s, q, ch, en, mk, da⟩ true = L)) :
    Calls Try.prog 13 #[msV ⟨6, n, p, e', s, q, ch, en, mk, da⟩ A1 An1 Ac1 A2 An2 Ac2 A3 An3 Ac3 A4 An4 Ac4] w fun e w' => ∃ A' n' c', e = .returned (.tuple #[.slice A' n' c', .int .i64 (if true then 0 else 1)]) ∧ Byt U8 w' w.heap.size A' n' c' L ∧ Ext w w' := by
  have hdl := h.da.len
  have hbd := rightM_bds hr.out
  simp only at hbd
  obtain ⟨HK, HD, hda, ht⟩ := hbd
  have HD := Lib.hid HD
  have hcv := fun u => run_kind HK u
  have HT := Lib.hid ht
  have HL : Hid (putM ⟨6, n, p, e', s, q, ch, en, mk, da⟩ = L) := hL.out
  have HRC := Lib.hid (msg_Right (h.ext (Ext.alloc w (.cells (msC ⟨6, n, p, e', s, q, ch, en, mk, da⟩ A1 An1 Ac1 A2 An2 Ac2 A3 An3 Ac3 A4 An4 Ac4) TMs))) hf hs hr)
  obtain ⟨kb, hkb⟩ : ∃ z, kdB 6 = z := ⟨_, rfl⟩
  rw [hkb] at hcv
  have HKB := Lib.hid hkb
  obtain ⟨i0, hi0, hz0, hz1, hz2⟩ := info_parts info_u8
  clear hL hr ht hkb
  rw [show (if true = true then (0 : Int) else 1) = 0 from rfl]
  go_enter Try.func13, Try.ntmps13
  go_wp2_with fail
  refine HRC.out.mono ?_
  rintro e w2 ⟨rfl, hx2⟩
  have b0 : w2.cell? ⟨w.heap.size, 0, none⟩ = some (.int .i64 6) := hx2.cell (cell_new w (msC ⟨6, n, p, e', s, q, ch, en, mk, da⟩ A1 An1 Ac1 A2 An2 Ac2 A3 An3 Ac3 A4 An4 Ac4) TMs 0)
  have b1 : w2.cell? ⟨w.heap.size, 1, none⟩ = some (.int .i64 n) := hx2.cell (cell_new w (msC ⟨6, n, p, e', s, q, ch, en, mk, da⟩ A1 An1 Ac1 A2 An2 Ac2 A3 An3 Ac3 A4 An4 Ac4) TMs 1)
  have b2 : w2.cell? ⟨w.heap.size, 2, none⟩ = some (.int .i64 p) := hx2.cell (cell_new w (msC ⟨6, n, p, e', s, q, ch, en, mk, da⟩ A1 An1 Ac1 A2 An2 Ac2 A3 An3 Ac3 A4 An4 Ac4) TMs 2)
  have b3 : w2.cell? ⟨w.heap.size, 3, none⟩ = some (.int .i64 e') := hx2.cell (cell_new w (msC ⟨6, n, p, e', s, q, ch, en, mk, da⟩ A1 An1 Ac1 A2 An2 Ac2 A3 An3 Ac3 A4 An4 Ac4) TMs 3)
  have b4 : w2.cell? ⟨w.heap.size, 4, none⟩ = some (.int .i64 s) := hx2.cell (cell_new w (msC ⟨6, n, p, e', s, q, ch, en, mk, da⟩ A1 An1 Ac1 A2 An2 Ac2 A3 An3 Ac3 A4 An4 Ac4) TMs 4)
  have b5 : w2.cell? ⟨w.heap.size, 5, none⟩ = some (.int .i64 q) := hx2.cell (cell_new w (msC ⟨6, n, p, e', s, q, ch, en, mk, da⟩ A1 An1 Ac1 A2 An2 Ac2 A3 An3 Ac3 A4 An4 Ac4) TMs 5)
  have b6 : w2.cell? ⟨w.heap.size, 6, none⟩ = some (.slice A1 An1 Ac1) := hx2.cell (cell_new w (msC ⟨6, n, p, e', s, q, ch, en, mk, da⟩ A1 An1 Ac1 A2 An2 Ac2 A3 An3 Ac3 A4 An4 Ac4) TMs 6)
  have b7 : w2.cell? ⟨w.heap.size, 7, none⟩ = some (.slice A2 An2 Ac2) := hx2.cell (cell_new w (msC ⟨6, n, p, e', s, q, ch, en, mk, da⟩ A1 An1 Ac1 A2 An2 Ac2 A3 An3 Ac3 A4 An4 Ac4) TMs 7)
  have b8 : w2.cell? ⟨w.heap.size, 8, none⟩ = some (.slice A3 An3 Ac3) := hx2.cell (cell_new w (msC ⟨6, n, p, e', s, q, ch, en, mk, da⟩ A1 An1 Ac1 A2 An2 Ac2 A3 An3 Ac3 A4 An4 Ac4) TMs 8)
  have b9 : w2.cell? ⟨w.heap.size, 9, none⟩ = some (.slice A4 An4 Ac4) := hx2.cell (cell_new w (msC ⟨6, n, p, e', s, q, ch, en, mk, da⟩ A1 An1 Ac1 A2 An2 Ac2 A3 An3 Ac3 A4 An4 Ac4) TMs 9)
  have f0 : (w2.alloc (.cells #[.int .u8 ((kb).toNat : Int)] U8)).cell? ⟨w.heap.size, 0, none⟩ = some (.int .i64 6) := (Ext.alloc _ _).cell b0
  have f1 : (w2.alloc (.cells #[.int .u8 ((kb).toNat : Int)] U8)).cell? ⟨w.heap.size, 1, none⟩ = some (.int .i64 n) := (Ext.alloc _ _).cell b1
  have f2 : (w2.alloc (.cells #[.int .u8 ((kb).toNat : Int)] U8)).cell? ⟨w.heap.size, 2, none⟩ = some (.int .i64 p) := (Ext.alloc _ _).cell b2
  have f3 : (w2.alloc (.cells #[.int .u8 ((kb).toNat : Int)] U8)).cell? ⟨w.heap.size, 3, none⟩ = some (.int .i64 e') := (Ext.alloc _ _).cell b3
  have f4 : (w2.alloc (.cells #[.int .u8 ((kb).toNat : Int)] U8)).cell? ⟨w.heap.size, 4, none⟩ = some (.int .i64 s) := (Ext.alloc _ _).cell b4
  have f5 : (w2.alloc (.cells #[.int .u8 ((kb).toNat : Int)] U8)).cell? ⟨w.heap.size, 5, none⟩ = some (.int .i64 q) := (Ext.alloc _ _).cell b5
  have f6 : (w2.alloc (.cells #[.int .u8 ((kb).toNat : Int)] U8)).cell? ⟨w.heap.size, 6, none⟩ = some (.slice A1 An1 Ac1) := (Ext.alloc _ _).cell b6
  have f7 : (w2.alloc (.cells #[.int .u8 ((kb).toNat : Int)] U8)).cell? ⟨w.heap.size, 7, none⟩ = some (.slice A2 An2 Ac2) := (Ext.alloc _ _).cell b7
  have f8 : (w2.alloc (.cells #[.int .u8 ((kb).toNat : Int)] U8)).cell? ⟨w.heap.size, 8, none⟩ = some (.slice A3 An3 Ac3) := (Ext.alloc _ _).cell b8
  have f9 : (w2.alloc (.cells #[.int .u8 ((kb).toNat : Int)] U8)).cell? ⟨w.heap.size, 9, none⟩ = some (.slice A4 An4 Ac4) := (Ext.alloc _ _).cell b9
  have gx2 : Ext w w2 := (Ext.alloc _ _).trans hx2
  have gx2b : w.heap.size < w2.heap.size := World.block_lt_of_cell? _ _ b0
  clear hx2 HRC
  have hB2 := gx2.size
  go_wp2_with fail
  obtain ⟨W, hW⟩ : ∃ W, W = w2.alloc (.cells #[.int .u8 ((kb).toNat : Int)] U8) := ⟨_, rfl⟩
  have hb0 : Byt U8 W w2.heap.size (some ⟨w2.heap.size, 0, none⟩) 1 1 [kb] := by rw [hW]; exact byt_madeM w2 _ _ _ [kb] rfl (by simp [maxLen]) (Nat.le_refl _)
  have hxW : Ext w2 W := by rw [hW]; exact Ext.alloc _ _
  rw [← hW]
  clear hW f0 f1 f2 f3 f4 f5 f6 f7 f8 f9 hB2
  clear hcv
  go_loopw [4, 34] (fun v i wr => ∃ (j : Nat) (Ab : Option Addr) (m cb : Nat) (H : List UInt8), j ≤ 5 ∧ v = .slice Ab m cb ∧ i = .int .i64 j ∧ Byt U8 wr w2.heap.size Ab m cb H ∧ Hid (kb :: varsL ([n, p, e', s, q].take j) = H) ∧ m ≤ 1 + 9 * j ∧ Ext w2 wr) (fun _ i _ => 5 - (intOf i).toNat)
  case atStart => exact ⟨0, _, 1, 1, [kb], by omega, rfl, rfl, hb0, rfl, by omega, hxW⟩
  case round =>
    clear hb0 hxW
    obtain ⟨j, Ac, m, cc, H, hj, rfl, rfl, hbH, hH, hp, hxq⟩ := hrel
    have gsz := hxq.size
    have f0 := hxq.cell b0
    have f6 := hxq.cell b6
    have f7 := hxq.cell b7
    have f8 := hxq.cell b8
    have f9 := hxq.cell b9
    clear b0 b1 b2 b3 b4 b5 b6 b7 b8 b9
    have hj6 : j = 0 ∨ j = 1 ∨ j = 2 ∨ j = 3 ∨ j = 4 ∨ 5 ≤ j := by omega
    rcases hj6 with rfl | rfl | rfl | rfl | rfl | hj5
    · have ix : ∀ w, (Instr.index 72 (.agg #[.int .i64 n, .int .i64 p, .int .i64 e', .int .i64 s, .int .i64 q]) (.int .i64 0)).run Try.prog w = .ok (.int .i64 n) w := fun _ => by kernel_rfl
      go_wp2_with fail
      refine (bits_Var Ac m cc H n _ hbH.sl (by omega) HD.out.1).mono ?_
      rintro e w4 ⟨A5, n4, c4, rfl, hb4, hx4⟩
      have hl4 : n4 ≤ m + 9 := by
        have := varl_length (n).toNat
        rw [← hb4.len, List.length_append, hbH.len]
        omega
      go_wp2_with fail
      go_roundw
      case rel => exact ⟨1, A5, n4, c4, _, by omega, rfl, rfl, hb4.low gsz, by unfold Hid; rw [← hH.out]; simp [varsL], by omega, hxq.trans hx4⟩
      case measure => simp [intOf]
    · have ix : ∀ w, (Instr.index 72 (.agg #[.int .i64 n, .int .i64 p, .int .i64 e', .int .i64 s, .int .i64 q]) (.int .i64 1)).run Try.prog w = .ok (.int .i64 p) w := fun _ => by kernel_rfl
      go_wp2_with fail
      refine (bits_Var Ac m cc H p _ hbH.sl (by omega) HD.out.2.1).mono ?_
      rintro e w4 ⟨A5, n4, c4, rfl, hb4, hx4⟩
      have hl4 : n4 ≤ m + 9 := by
        have := varl_length (p).toNat
        rw [← hb4.len, List.length_append, hbH.len]
        omega
      go_wp2_with fail
      go_roundw
      case rel => exact ⟨2, A5, n4, c4, _, by omega, rfl, rfl, hb4.low gsz, by unfold Hid; rw [← hH.out]; simp [varsL], by omega, hxq.trans hx4⟩
      case measure => simp [intOf]
    · have ix : ∀ w, (Instr.index 72 (.agg #[.int .i64 n, .int .i64 p, .int .i64 e', .int .i64 s, .int .i64 q]) (.int .i64 2)).run Try.prog w = .ok (.int .i64 e') w := fun _ => by kernel_rfl
      go_wp2_with fail
      refine (bits_Var Ac m cc H e' _ hbH.sl (by omega) HD.out.2.2.1).mono ?_
      rintro e w4 ⟨A5, n4, c4, rfl, hb4, hx4⟩
      have hl4 : n4 ≤ m + 9 := by
        have := varl_length (e').toNat
        rw [← hb4.len, List.length_append, hbH.len]
        omega
      go_wp2_with fail
      go_roundw
      case rel => exact ⟨3, A5, n4, c4, _, by omega, rfl, rfl, hb4.low gsz, by unfold Hid; rw [← hH.out]; simp [varsL], by omega, hxq.trans hx4⟩
      case measure => simp [intOf]
    · have ix : ∀ w, (Instr.index 72 (.agg #[.int .i64 n, .int .i64 p, .int .i64 e', .int .i64 s, .int .i64 q]) (.int .i64 3)).run Try.prog w = .ok (.int .i64 s) w := fun _ => by kernel_rfl
      go_wp2_with fail
      refine (bits_Var Ac m cc H s _ hbH.sl (by omega) HD.out.2.2.2.1).mono ?_
      rintro e w4 ⟨A5, n4, c4, rfl, hb4, hx4⟩
      have hl4 : n4 ≤ m + 9 := by
        have := varl_length (s).toNat
        rw [← hb4.len, List.length_append, hbH.len]
        omega
      go_wp2_with fail
      go_roundw
      case rel => exact ⟨4, A5, n4, c4, _, by omega, rfl, rfl, hb4.low gsz, by unfold Hid; rw [← hH.out]; simp [varsL], by omega, hxq.trans hx4⟩
      case measure => simp [intOf]
    · have ix : ∀ w, (Instr.index 72 (.agg #[.int .i64 n, .int .i64 p, .int .i64 e', .int .i64 s, .int .i64 q]) (.int .i64 4)).run Try.prog w = .ok (.int .i64 q) w := fun _ => by kernel_rfl
      go_wp2_with fail
      refine (bits_Var Ac m cc H q _ hbH.sl (by omega) HD.out.2.2.2.2).mono ?_
      rintro e w4 ⟨A5, n4, c4, rfl, hb4, hx4⟩
      have hl4 : n4 ≤ m + 9 := by
        have := varl_length (q).toNat
        rw [← hb4.len, List.length_append, hbH.len]
        omega
      go_wp2_with fail
      go_roundw
      case rel => exact ⟨5, A5, n4, c4, _, by omega, rfl, rfl, hb4.low gsz, by unfold Hid; rw [← hH.out]; simp [varsL], by omega, hxq.trans hx4⟩
      case measure => simp [intOf]
    · have HG0 : Hid (kb :: varsL [n, p, e', s, q] = H) := by
        unfold Hid
        rw [← hH.out, show j = 5 by omega]
        rfl
      have dj : decide ((j : Int) < 5) = false := by simp; omega
      have djn : decide (j < 5) = false := by simp; omega
      have hp46 : m ≤ 46 := by omega
      have gx3 := gx2.trans hxq
      clear hH hp
      have hn4 : An4 ≤ 64 := by rw [← hdl]; exact hda
      have HL2 : Hid (put (H ++ da) (crcOf (H ++ da)) 4 = L) := by
        unfold Hid
        rw [← HL.out, ← HG0.out, ← HKB.out]
        rfl
      clear HL HG0
      go_wp2_with (at_builtin; refine wpList_append_mine _ rfl _ _ _ _ rfl w2.heap.size U8 i0 _ 1 1 under_bytes hi0 hz0 hz1 hz2 rfl Ac m cc _ rfl hbH.own _ rfl An4 (da.map bv) ((h.da.ext gx3).src under_bytes) (by simp only [maxLen]; omega) (by omega) gsz ?_; intro A6 c6 w6 hown hg _)
      have hbD : Byt U8 w6 w2.heap.size A6 (m + An4) c6 (H ++ da) := Byt.more hbH.len hdl hown rfl
      have gx6 : Ext w2 w6 := below_grown hxq hbH.own hg gsz
      go_wp2_with fail
      refine (crc_Seal A6 (m + An4) c6 (H ++ da) _ hbD.sl (by omega)).mono ?_
      rintro e w5 ⟨A9, c9, rfl, h9, hx9⟩
      rw [HL2.out] at h9
      go_wp2_with fail
      go_ret2
      exact ⟨_, _, _, rfl, h9.low (gx2.trans gx6).size, (gx2.trans gx6).trans hx9⟩
set_option maxHeartbeats 4000000 in
theorem msg_Put_2 {n p e' s q : Int} {ch : List Tg} {en : List En} {mk : List Mk} {da : List UInt8} {A1 : Option Addr} {An1 Ac1 : Nat} {A2 : Option Addr} {An2 Ac2 : Nat} {A3 : Option Addr} {An3 Ac3 : Nat} {A4 : Option Addr} {An4 Ac4 : Nat} {w : World} (h : MsR w ⟨2, n, p, e', s, q, ch, en, mk, da⟩ A1 An1 Ac1 A2 An2 Ac2 A3 An3 Ac3 A4 An4 Ac4) (hf : Hid (EnFit en)) (hs : Hid (Shorts mk)) (hr : Hid (rightM ⟨2, n, p, e', s, q, ch, en, mk, da⟩ = true)) {L : List UInt8} (hL : Hid (putMr ⟨2, n, p, e', s, q, ch, en, mk, da⟩ true = L)) :
    Calls Try.prog 13 #[msV ⟨2, n, p, e', s, q, ch, en, mk, da⟩ A1 An1 Ac1 A2 An2 Ac2 A3 An3 Ac3 A4 An4 Ac4] w fun e w' => ∃ A' n' c', e = .returned (.tuple #[.slice A' n' c', .int .i64 (if true then 0 else 1)]) ∧ Byt U8 w' w.heap.size A' n' c' L ∧ Ext w w' := by
  have hlen := h.en.len
  have h63 := h.en.n63
  have hbd := rightM_bds hr.out
  simp only at hbd
  obtain ⟨HK, HD, hda, ht⟩ := hbd
  have HD := Lib.hid HD
  have hcv := fun u => run_kind HK u
  have HT := Lib.hid ht
  have HL : Hid (putM ⟨2, n, p, e', s, q, ch, en, mk, da⟩ = L) := hL.out
  have HRC := Lib.hid (msg_Right (h.ext (Ext.alloc w (.cells (msC ⟨2, n, p, e', s, q, ch, en, mk, da⟩ A1 An1 Ac1 A2 An2 Ac2 A3 An3 Ac3 A4 An4 Ac4) TMs))) hf hs hr)
  obtain ⟨kb, hkb⟩ : ∃ z, kdB 2 = z := ⟨_, rfl⟩
  rw [hkb] at hcv
  have HKB := Lib.hid hkb
  obtain ⟨i0, hi0, hz0, hz1, hz2⟩ := info_parts info_u8
  clear hL hr ht hkb
  rw [show (if true = true then (0 : Int) else 1) = 0 from rfl]
  go_enter Try.func13, Try.ntmps13
  go_wp2_with fail
  refine HRC.out.mono ?_
  rintro e w2 ⟨rfl, hx2⟩
  have b0 : w2.cell? ⟨w.heap.size, 0, none⟩ = some (.int .i64 2) := hx2.cell (cell_new w (msC ⟨2, n, p, e', s, q, ch, en, mk, da⟩ A1 An1 Ac1 A2 An2 Ac2 A3 An3 Ac3 A4 An4 Ac4) TMs 0)
  have b1 : w2.cell? ⟨w.heap.size, 1, none⟩ = some (.int .i64 n) := hx2.cell (cell_new w (msC ⟨2, n, p, e', s, q, ch, en, mk, da⟩ A1 An1 Ac1 A2 An2 Ac2 A3 An3 Ac3 A4 An4 Ac4) TMs 1)
  have b2 : w2.cell? ⟨w.heap.size, 2, none⟩ = some (.int .i64 p) := hx2.cell (cell_new w (msC ⟨2, n, p, e', s, q, ch, en, mk, da⟩ A1 An1 Ac1 A2 An2 Ac2 A3 An3 Ac3 A4 An4 Ac4) TMs 2)
  have b3 : w2.cell? ⟨w.heap.size, 3, none⟩ = some (.int .i64 e') := hx2.cell (cell_new w (msC ⟨2, n, p, e', s, q, ch, en, mk, da⟩ A1 An1 Ac1 A2 An2 Ac2 A3 An3 Ac3 A4 An4 Ac4) TMs 3)
  have b4 : w2.cell? ⟨w.heap.size, 4, none⟩ = some (.int .i64 s) := hx2.cell (cell_new w (msC ⟨2, n, p, e', s, q, ch, en, mk, da⟩ A1 An1 Ac1 A2 An2 Ac2 A3 An3 Ac3 A4 An4 Ac4) TMs 4)
  have b5 : w2.cell? ⟨w.heap.size, 5, none⟩ = some (.int .i64 q) := hx2.cell (cell_new w (msC ⟨2, n, p, e', s, q, ch, en, mk, da⟩ A1 An1 Ac1 A2 An2 Ac2 A3 An3 Ac3 A4 An4 Ac4) TMs 5)
  have b6 : w2.cell? ⟨w.heap.size, 6, none⟩ = some (.slice A1 An1 Ac1) := hx2.cell (cell_new w (msC ⟨2, n, p, e', s, q, ch, en, mk, da⟩ A1 An1 Ac1 A2 An2 Ac2 A3 An3 Ac3 A4 An4 Ac4) TMs 6)
  have b7 : w2.cell? ⟨w.heap.size, 7, none⟩ = some (.slice A2 An2 Ac2) := hx2.cell (cell_new w (msC ⟨2, n, p, e', s, q, ch, en, mk, da⟩ A1 An1 Ac1 A2 An2 Ac2 A3 An3 Ac3 A4 An4 Ac4) TMs 7)
  have b8 : w2.cell? ⟨w.heap.size, 8, none⟩ = some (.slice A3 An3 Ac3) := hx2.cell (cell_new w (msC ⟨2, n, p, e', s, q, ch, en, mk, da⟩ A1 An1 Ac1 A2 An2 Ac2 A3 An3 Ac3 A4 An4 Ac4) TMs 8)
  have b9 : w2.cell? ⟨w.heap.size, 9, none⟩ = some (.slice A4 An4 Ac4) := hx2.cell (cell_new w (msC ⟨2, n, p, e', s, q, ch, en, mk, da⟩ A1 An1 Ac1 A2 An2 Ac2 A3 An3 Ac3 A4 An4 Ac4) TMs 9)
  have f0 : (w2.alloc (.cells #[.int .u8 ((kb).toNat : Int)] U8)).cell? ⟨w.heap.size, 0, none⟩ = some (.int .i64 2) := (Ext.alloc _ _).cell b0
  have f1 : (w2.alloc (.cells #[.int .u8 ((kb).toNat : Int)] U8)).cell? ⟨w.heap.size, 1, none⟩ = some (.int .i64 n) := (Ext.alloc _ _).cell b1
  have f2 : (w2.alloc (.cells #[.int .u8 ((kb).toNat : Int)] U8)).cell? ⟨w.heap.size, 2, none⟩ = some (.int .i64 p) := (Ext.alloc _ _).cell b2
  have f3 : (w2.alloc (.cells #[.int .u8 ((kb).toNat : Int)] U8)).cell? ⟨w.heap.size, 3, none⟩ = some (.int .i64 e') := (Ext.alloc _ _).cell b3
  have f4 : (w2.alloc (.cells #[.int .u8 ((kb).toNat : Int)] U8)).cell? ⟨w.heap.size, 4, none⟩ = some (.int .i64 s) := (Ext.alloc _ _).cell b4
  have f5 : (w2.alloc (.cells #[.int .u8 ((kb).toNat : Int)] U8)).cell? ⟨w.heap.size, 5, none⟩ = some (.int .i64 q) := (Ext.alloc _ _).cell b5
  have f6 : (w2.alloc (.cells #[.int .u8 ((kb).toNat : Int)] U8)).cell? ⟨w.heap.size, 6, none⟩ = some (.slice A1 An1 Ac1) := (Ext.alloc _ _).cell b6
  have f7 : (w2.alloc (.cells #[.int .u8 ((kb).toNat : Int)] U8)).cell? ⟨w.heap.size, 7, none⟩ = some (.slice A2 An2 Ac2) := (Ext.alloc _ _).cell b7
  have f8 : (w2.alloc (.cells #[.int .u8 ((kb).toNat : Int)] U8)).cell? ⟨w.heap.size, 8, none⟩ = some (.slice A3 An3 Ac3) := (Ext.alloc _ _).cell b8
  have f9 : (w2.alloc (.cells #[.int .u8 ((kb).toNat : Int)] U8)).cell? ⟨w.heap.size, 9, none⟩ = some (.slice A4 An4 Ac4) := (Ext.alloc _ _).cell b9
  have gx2 : Ext w w2 := (Ext.alloc _ _).trans hx2
  have gx2b : w.heap.size < w2.heap.size := World.block_lt_of_cell? _ _ b0
  clear hx2 HRC
  have hB2 := gx2.size
  go_wp2_with fail
  obtain ⟨W, hW⟩ : ∃ W, W = w2.alloc (.cells #[.int .u8 ((kb).toNat : Int)] U8) := ⟨_, rfl⟩
  have hb0 : Byt U8 W w2.heap.size (some ⟨w2.heap.size, 0, none⟩) 1 1 [kb] := by rw [hW]; exact byt_madeM w2 _ _ _ [kb] rfl (by simp [maxLen]) (Nat.le_refl _)
  have hxW : Ext w2 W := by rw [hW]; exact Ext.alloc _ _
  rw [← hW]
  clear hW f0 f1 f2 f3 f4 f5 f6 f7 f8 f9 hB2
  clear hcv
  go_loopw [4, 34] (fun v i wr => ∃ (j : Nat) (Ab : Option Addr) (m cb : Nat) (H : List UInt8), j ≤ 5 ∧ v = .slice Ab m cb ∧ i = .int .i64 j ∧ Byt U8 wr w2.heap.size Ab m cb H ∧ Hid (kb :: varsL ([n, p, e', s, q].take j) = H) ∧ m ≤ 1 + 9 * j ∧ Ext w2 wr) (fun _ i _ => 5 - (intOf i).toNat)
  case atStart => exact ⟨0, _, 1, 1, [kb], by omega, rfl, rfl, hb0, rfl, by omega, hxW⟩
  case round =>
    clear hb0 hxW
    obtain ⟨j, Ac, m, cc, H, hj, rfl, rfl, hbH, hH, hp, hxq⟩ := hrel
    have gsz := hxq.size
    have f0 := hxq.cell b0
    have f6 := hxq.cell b6
    have f7 := hxq.cell b7
    have f8 := hxq.cell b8
    have f9 := hxq.cell b9
    clear b0 b1 b2 b3 b4 b5 b6 b7 b8 b9
    have hj6 : j = 0 ∨ j = 1 ∨ j = 2 ∨ j = 3 ∨ j = 4 ∨ 5 ≤ j := by omega
    rcases hj6 with rfl | rfl | rfl | rfl | rfl | hj5
    · have ix : ∀ w, (Instr.index 72 (.agg #[.int .i64 n, .int .i64 p, .int .i64 e', .int .i64 s, .int .i64 q]) (.int .i64 0)).run Try.prog w = .ok (.int .i64 n) w := fun _ => by kernel_rfl
      go_wp2_with fail
      refine (bits_Var Ac m cc H n _ hbH.sl (by omega) HD.out.1).mono ?_
      rintro e w4 ⟨A5, n4, c4, rfl, hb4, hx4⟩
      have hl4 : n4 ≤ m + 9 := by
        have := varl_length (n).toNat
        rw [← hb4.len, List.length_append, hbH.len]
        omega
      go_wp2_with fail
      go_roundw
      case rel => exact ⟨1, A5, n4, c4, _, by omega, rfl, rfl, hb4.low gsz, by unfold Hid; rw [← hH.out]; simp [varsL], by omega, hxq.trans hx4⟩
      case measure => simp [intOf]
    · have ix : ∀ w, (Instr.index 72 (.agg #[.int .i64 n, .int .i64 p, .int .i64 e', .int .i64 s, .int .i64 q]) (.int .i64 1)).run Try.prog w = .ok (.int .i64 p) w := fun _ => by kernel_rfl
      go_wp2_with fail
      refine (bits_Var Ac m cc H p _ hbH.sl (by omega) HD.out.2.1).mono ?_
      rintro e w4 ⟨A5, n4, c4, rfl, hb4, hx4⟩
      have hl4 : n4 ≤ m + 9 := by
        have := varl_length (p).toNat
        rw [← hb4.len, List.length_append, hbH.len]
        omega
      go_wp2_with fail
      go_roundw
      case rel => exact ⟨2, A5, n4, c4, _, by omega, rfl, rfl, hb4.low gsz, by unfold Hid; rw [← hH.out]; simp [varsL], by omega, hxq.trans hx4⟩
      case measure => simp [intOf]
    · have ix : ∀ w, (Instr.index 72 (.agg #[.int .i64 n, .int .i64 p, .int .i64 e', .int .i64 s, .int .i64 q]) (.int .i64 2)).run Try.prog w = .ok (.int .i64 e') w := fun _ => by kernel_rfl
      go_wp2_with fail
      refine (bits_Var Ac m cc H e' _ hbH.sl (by omega) HD.out.2.2.1).mono ?_
      rintro e w4 ⟨A5, n4, c4, rfl, hb4, hx4⟩
      have hl4 : n4 ≤ m + 9 := by
        have := varl_length (e').toNat
        rw [← hb4.len, List.length_append, hbH.len]
        omega
      go_wp2_with fail
      go_roundw
      case rel => exact ⟨3, A5, n4, c4, _, by omega, rfl, rfl, hb4.low gsz, by unfold Hid; rw [← hH.out]; simp [varsL], by omega, hxq.trans hx4⟩
      case measure => simp [intOf]
    · have ix : ∀ w, (Instr.index 72 (.agg #[.int .i64 n, .int .i64 p, .int .i64 e', .int .i64 s, .int .i64 q]) (.int .i64 3)).run Try.prog w = .ok (.int .i64 s) w := fun _ => by kernel_rfl
      go_wp2_with fail
      refine (bits_Var Ac m cc H s _ hbH.sl (by omega) HD.out.2.2.2.1).mono ?_
      rintro e w4 ⟨A5, n4, c4, rfl, hb4, hx4⟩
      have hl4 : n4 ≤ m + 9 := by
        have := varl_length (s).toNat
        rw [← hb4.len, List.length_append, hbH.len]
        omega
      go_wp2_with fail
      go_roundw
      case rel => exact ⟨4, A5, n4, c4, _, by omega, rfl, rfl, hb4.low gsz, by unfold Hid; rw [← hH.out]; simp [varsL], by omega, hxq.trans hx4⟩
      case measure => simp [intOf]
    · have ix : ∀ w, (Instr.index 72 (.agg #[.int .i64 n, .int .i64 p, .int .i64 e', .int .i64 s, .int .i64 q]) (.int .i64 4)).run Try.prog w = .ok (.int .i64 q) w := fun _ => by kernel_rfl
      go_wp2_with fail
      refine (bits_Var Ac m cc H q _ hbH.sl (by omega) HD.out.2.2.2.2).mono ?_
      rintro e w4 ⟨A5, n4, c4, rfl, hb4, hx4⟩
      have hl4 : n4 ≤ m + 9 := by
        have := varl_length (q).toNat
        rw [← hb4.len, List.length_append, hbH.len]
        omega
      go_wp2_with fail
      go_roundw
      case rel => exact ⟨5, A5, n4, c4, _, by omega, rfl, rfl, hb4.low gsz, by unfold Hid; rw [← hH.out]; simp [varsL], by omega, hxq.trans hx4⟩
      case measure => simp [intOf]
    · have HG0 : Hid (kb :: varsL [n, p, e', s, q] = H) := by
        unfold Hid
        rw [← hH.out, show j = 5 by omega]
        rfl
      have dj : decide ((j : Int) < 5) = false := by simp; omega
      have djn : decide (j < 5) = false := by simp; omega
      have hp46 : m ≤ 46 := by omega
      have gx3 := gx2.trans hxq
      clear hH hp
      have hen : entsB p en = true := by
        have := HT.out
        rw [tail2, Bool.and_eq_true] at this
        exact this.2
      unfold entsB at hen
      simp only [Bool.and_eq_true, decide_eq_true_eq] at hen
      have hn4 : An2 ≤ 4 := by rw [← hlen]; exact hen.1
      have HRT := Lib.hid (entsF_mem hen.2)
      have HLEN := Lib.hid hlen
      clear hen hlen
      have hcr : rightL ch = true := by
        have := HT.out
        rw [tail2, Bool.and_eq_true] at this
        exact this.1
      have HCR := Lib.hid hcr
      have hc32 := (rightL_iff.1 hcr).2.1
      have hcl := putL_len ch
      obtain ⟨LC, hLC⟩ : ∃ z, putL ch = z := ⟨_, rfl⟩
      have HLCE := Lib.hid hLC
      rw [hLC] at hcl
      have HLC : Hid (putR ch true = LC) := hLC
      have hlc : LC.length ≤ 1161 := by omega
      clear hcr hc32 hcl hLC
      go_wp2_with fail
      refine (chain_Put (h.ch.ext tg_rep gx3) HCR HLC).mono ?_
      rintro e w4 ⟨A5, n5, c5, rfl, h5, hx4⟩
      rw [show (if true = true then (0 : Int) else 1) = 0 from rfl]
      have hn5 : n5 ≤ 1161 := by rw [← h5.len]; exact hlc
      have gx4 := hxq.trans hx4
      have hbH4 := hbH.ext hx4
      replace f0 := hx4.cell f0
      replace f7 := hx4.cell f7
      replace f8 := hx4.cell f8
      clear hx4 gx3 hbH hlc f6 f9 hxq gsz
      go_wp2_with fail
      refine (bits_Var Ac m cc H (n5 : Int) _ hbH4.sl (by omega) (by omega)).mono ?_
      rintro e w6 ⟨A6, n6, c6, rfl, h6, hx6⟩
      rw [Int.toNat_natCast] at h6
      have hn6 : n6 ≤ m + 9 := by
        have := varl_length n5
        rw [← h6.len, List.length_append, hbH4.len]
        omega
      have h5' := h5.sl.ext hx6
      have h6' := h6.low (B' := w2.heap.size) gx4.size
      replace f0 := hx6.cell f0
      replace f7 := hx6.cell f7
      replace f8 := hx6.cell f8
      have gx6 := gx4.trans hx6
      have gsz6 := gx6.size
      have h5l := h5.len
      have HF := Lib.hid (And.intro f0 (And.intro f7 f8))
      clear hx6 gx4 hbH4 h5 h6 f0 f7 f8
      go_wp2_with (at_builtin; refine wpList_append_mine _ rfl _ _ _ _ rfl w2.heap.size U8 i0 _ 1 1 under_bytes hi0 hz0 hz1 hz2 rfl A6 n6 c6 _ rfl h6'.own _ rfl n5 (LC.map bv) (h5'.src under_bytes) (by simp only [maxLen]; omega) (by omega) gsz6 ?_; intro A7 c7 w7 hown hg _; have f0 := boxed gx2b h6'.own hg HF.out.1; have f7 := boxed gx2b h6'.own hg HF.out.2.1; have f8 := boxed gx2b h6'.own hg HF.out.2.2; have gx7 : Ext w2 w7 := below_grown gx6 h6'.own hg gsz6)
      have h7 : Byt U8 w7 w2.heap.size A7 (n6 + n5) c7 (H ++ varl n5 ++ LC) := Byt.more h6'.len h5l hown rfl
      obtain ⟨H7, hH7⟩ : ∃ z, H ++ varl n5 ++ LC = z := ⟨_, rfl⟩
      rw [hH7] at h7
      have HH7 : Hid (kb :: (varsL [n, p, e', s, q] ++ (varl LC.length ++ LC)) = H7) := by
        unfold Hid
        rw [← hH7, ← HG0.out, h5l]
        simp
      clear hH7 HG0 HF h6' h5' hown hg gx6 gsz6 h5l
      go_wp2_with fail
      refine (bits_Var A7 (n6 + n5) c7 H7 (An2 : Int) _ h7.sl (by omega) (by omega)).mono ?_
      rintro e w8 ⟨A8, n8, c8, rfl, h8, hx8⟩
      rw [Int.toNat_natCast] at h8
      have hn8 : n8 ≤ 1230 := by
        have := varl_length An2
        rw [← h8.len, List.length_append, h7.len]
        omega
      have h8' := h8.low (B' := w2.heap.size) gx7.size
      replace f0 := hx8.cell f0
      replace f7 := hx8.cell f7
      replace f8 := hx8.cell f8
      have gx8 := gx7.trans hx8
      clear hx8 gx7 h7 h8
      go_wp2_with fail
      go_loopw [4, 73] (fun v i wr => ∃ (k : Nat) (Ab : Option Addr) (z cb : Nat) (G : List UInt8), k ≤ An2 ∧ v = .slice Ab z cb ∧ i = .int .i64 k ∧ Byt U8 wr w2.heap.size Ab z cb G ∧ Hid (H7 ++ varl An2 ++ enBs (en.take k) = G) ∧ z ≤ 1230 + 112 * k ∧ Ext w2 wr) (fun _ i _ => An2 - (intOf i).toNat)
      case atStart => exact ⟨0, A8, n8, c8, _, by omega, rfl, rfl, h8', by simp [Hid, enBs], by omega, gx8⟩
      case round =>
        clear h8' gx8 f0 f7 f8
        obtain ⟨k, Ab, z, cb, G, hk, rfl, rfl, hbG, hG, hz, hxr⟩ := hrel
        by_cases hlt : k < An2
        · obtain ⟨ga, oa, x, cs, rfl, hx, ⟨Aa, na, ca, rfl, sa0⟩, ha⟩ := h.en.at2 en_rep (by omega) hlt
          have gxr := gx2.trans hxr
          have a0 : wr.cell? ⟨ga, oa + k * 3, none⟩ = _ := gxr.cell (ha 0 _ rfl)
          have a1 := gxr.cell (ha 1 _ rfl)
          have a2 := gxr.cell (ha 2 _ rfl)
          have hrt := HRT.out x (List.mem_of_getElem? hx)
          have hnx := enBs_next hx
          have hrt2 := rightN_iff.1 hrt
          have hsl := sa0.len
          have h63a := sa0.n63
          have hsa := sa0.ext gxr
          have hly := layE_length x.t.toNat x.s.toNat x.d
          obtain ⟨xt, xs', xd⟩ := x
          simp only at a0 a1 a2 hrt hnx hrt2 hsl hsa hly
          have HRN : Hid (rightN xt xs' na = true) := by unfold Hid; rw [← hsl]; exact hrt
          obtain ⟨LY, hLY⟩ : ∃ z, layE xt.toNat xs'.toNat xd = z := ⟨_, rfl⟩
          have HLY : Hid (layL xt xs' na xd = LY) := by unfold Hid layL; rw [HRN.out, if_pos rfl, hLY]
          rw [hLY] at hnx hly
          have hlyl : LY.length ≤ 112 := by omega
          have hxt : xt ≤ 9223372036854775807 := by omega
          have hxs : xs' ≤ 9223372036854775807 := by omega
          have HNX : Hid (H7 ++ varl An2 ++ enBs (en.take (k + 1)) = G ++ LY) := by
            unfold Hid
            rw [hnx, ← List.append_assoc, hG.out]
          have hcl := fun u (hu : Ext wr u) => frame_Lay (hsa.ext hu) hxt hxs HRN HLY
          rw [show (if true = true then (0 : Int) else 1) = 0 from rfl] at hcl
          clear hx ha hrt hnx hrt2 hsl hly hLY hG sa0 hsa hxt hxs HRN HLY
          go_wp2_with fail
          refine (hcl _ (Ext.alloc _ _)).mono ?_
          rintro e w4 ⟨A5, n5', c5', rfl, h5, hx5⟩
          have hx5' := (Ext.alloc wr (.cells #[.int .i64 xt, .int .i64 xs', .slice Aa na ca] TEn)).trans hx5
          have hbG5 := hbG.ext hx5'
          have gx5 := hxr.trans hx5'
          have gsz5 := gx5.size
          have h5s := h5.sl
          have hn5' : n5' ≤ 112 := by rw [← h5.len]; exact hlyl
          have h5l := h5.len
          clear hx5 hx5' hcl h5 hlyl hbG
          go_wp2_with (at_builtin; refine wpList_append_mine _ rfl _ _ _ _ rfl w2.heap.size U8 i0 _ 1 1 under_bytes hi0 hz0 hz1 hz2 rfl Ab z cb _ rfl hbG5.own _ rfl n5' (LY.map bv) (h5s.src under_bytes) (by simp only [maxLen]; omega) (by omega) gsz5 ?_; intro A9 c9 w9 hown hg _; have gx9 : Ext w2 w9 := below_grown gx5 hbG5.own hg gsz5)
          have h9 : Byt U8 w9 w2.heap.size A9 (z + n5') c9 (G ++ LY) := Byt.more hbG5.len h5l hown rfl
          clear hown hg hbG5
          go_wp2_with fail
          go_roundw
          case rel => exact ⟨k + 1, A9, z + n5', c9, _, by omega, rfl, by go_num, h9, HNX, by omega, gx9⟩
          case measure => simp [intOf]; omega
        · obtain rfl : k = An2 := by omega
          have hG1 := hG.out
          rw [List.take_of_length_le (by rw [HLEN.out]; exact Nat.le_refl _)] at hG1
          have HL2 : Hid (put G (crcOf G) 4 = L) := by
            have : bodyM ⟨2, n, p, e', s, q, ch, en, mk, da⟩ = G := by
              rw [← hG1, ← HH7.out, ← HKB.out, ← HLCE.out, ← HLEN.out]
              unfold bodyM chainBs restBs
              rw [if_pos (show (2 : Int) = 2 ∨ (2 : Int) = 4 from .inl rfl), if_pos rfl]
              simp [msNs, kdB]
            unfold Hid
            rw [← HL.out, ← this]
            rfl
          clear hG hG1 HL HH7
          go_wp2_with fail
          refine (crc_Seal Ab z cb G _ hbG.sl (by omega)).mono ?_
          rintro e w5 ⟨A9, c9, rfl, h9, hx9⟩
          rw [HL2.out] at h9
          go_wp2_with fail
          go_ret2
          exact ⟨_, _, _, rfl, h9.low (gx2.trans hxr).size, (gx2.trans hxr).trans hx9⟩
set_option maxHeartbeats 4000000 in
theorem msg_Put_4 {n p e' s q : Int} {ch : List Tg} {en : List En} {mk : List Mk} {da : List UInt8} {A1 : Option Addr} {An1 Ac1 : Nat} {A2 : Option Addr} {An2 Ac2 : Nat} {A3 : Option Addr} {An3 Ac3 : Nat} {A4 : Option Addr} {An4 Ac4 : Nat} {w : World} (h : MsR w ⟨4, n, p, e', s, q, ch, en, mk, da⟩ A1 An1 Ac1 A2 An2 Ac2 A3 An3 Ac3 A4 An4 Ac4) (hf : Hid (EnFit en)) (hs : Hid (Shorts mk)) (hr : Hid (rightM ⟨4, n, p, e', s, q, ch, en, mk, da⟩ = true)) {L : List UInt8} (hL : Hid (putMr ⟨4, n, p, e', s, q, ch, en, mk, da⟩ true = L)) :
    Calls Try.prog 13 #[msV ⟨4, n, p, e', s, q, ch, en, mk, da⟩ A1 An1 Ac1 A2 An2 Ac2 A3 An3 Ac3 A4 An4 Ac4] w fun e w' => ∃ A' n' c', e = .returned (.tuple #[.slice A' n' c', .int .i64 (if true then 0 else 1)]) ∧ Byt U8 w' w.heap.size A' n' c' L ∧ Ext w w' := by
  have hlen := h.ms.len
  have h63 := h.ms.n63
  have hbd := rightM_bds hr.out
  simp only at hbd
  obtain ⟨HK, HD, hda, ht⟩ := hbd
  have HD := Lib.hid HD
  have hcv := fun u => run_kind HK u
  have HT := Lib.hid ht
  have HL : Hid (putM ⟨4, n, p, e', s, q, ch, en, mk, da⟩ = L) := hL.out
  have HRC := Lib.hid (msg_Right (h.ext (Ext.alloc w (.cells (msC ⟨4, n, p, e', s, q, ch, en, mk, da⟩ A1 An1 Ac1 A2 An2 Ac2 A3 An3 Ac3 A4 An4 Ac4) TMs))) hf hs hr)
  obtain ⟨kb, hkb⟩ : ∃ z, kdB 4 = z := ⟨_, rfl⟩
  rw [hkb] at hcv
  have HKB := Lib.hid hkb
  obtain ⟨i0, hi0, hz0, hz1, hz2⟩ := info_parts info_u8
  clear hL hr ht hkb
  rw [show (if true = true then (0 : Int) else 1) = 0 from rfl]
  go_enter Try.func13, Try.ntmps13
  go_wp2_with fail
  refine HRC.out.mono ?_
  rintro e w2 ⟨rfl, hx2⟩
  have b0 : w2.cell? ⟨w.heap.size, 0, none⟩ = some (.int .i64 4) := hx2.cell (cell_new w (msC ⟨4, n, p, e', s, q, ch, en, mk, da⟩ A1 An1 Ac1 A2 An2 Ac2 A3 An3 Ac3 A4 An4 Ac4) TMs 0)
  have b1 : w2.cell? ⟨w.heap.size, 1, none⟩ = some (.int .i64 n) := hx2.cell (cell_new w (msC ⟨4, n, p, e', s, q, ch, en, mk, da⟩ A1 An1 Ac1 A2 An2 Ac2 A3 An3 Ac3 A4 An4 Ac4) TMs 1)
  have b2 : w2.cell? ⟨w.heap.size, 2, none⟩ = some (.int .i64 p) := hx2.cell (cell_new w (msC ⟨4, n, p, e', s, q, ch, en, mk, da⟩ A1 An1 Ac1 A2 An2 Ac2 A3 An3 Ac3 A4 An4 Ac4) TMs 2)
  have b3 : w2.cell? ⟨w.heap.size, 3, none⟩ = some (.int .i64 e') := hx2.cell (cell_new w (msC ⟨4, n, p, e', s, q, ch, en, mk, da⟩ A1 An1 Ac1 A2 An2 Ac2 A3 An3 Ac3 A4 An4 Ac4) TMs 3)
  have b4 : w2.cell? ⟨w.heap.size, 4, none⟩ = some (.int .i64 s) := hx2.cell (cell_new w (msC ⟨4, n, p, e', s, q, ch, en, mk, da⟩ A1 An1 Ac1 A2 An2 Ac2 A3 An3 Ac3 A4 An4 Ac4) TMs 4)
  have b5 : w2.cell? ⟨w.heap.size, 5, none⟩ = some (.int .i64 q) := hx2.cell (cell_new w (msC ⟨4, n, p, e', s, q, ch, en, mk, da⟩ A1 An1 Ac1 A2 An2 Ac2 A3 An3 Ac3 A4 An4 Ac4) TMs 5)
  have b6 : w2.cell? ⟨w.heap.size, 6, none⟩ = some (.slice A1 An1 Ac1) := hx2.cell (cell_new w (msC ⟨4, n, p, e', s, q, ch, en, mk, da⟩ A1 An1 Ac1 A2 An2 Ac2 A3 An3 Ac3 A4 An4 Ac4) TMs 6)
  have b7 : w2.cell? ⟨w.heap.size, 7, none⟩ = some (.slice A2 An2 Ac2) := hx2.cell (cell_new w (msC ⟨4, n, p, e', s, q, ch, en, mk, da⟩ A1 An1 Ac1 A2 An2 Ac2 A3 An3 Ac3 A4 An4 Ac4) TMs 7)
  have b8 : w2.cell? ⟨w.heap.size, 8, none⟩ = some (.slice A3 An3 Ac3) := hx2.cell (cell_new w (msC ⟨4, n, p, e', s, q, ch, en, mk, da⟩ A1 An1 Ac1 A2 An2 Ac2 A3 An3 Ac3 A4 An4 Ac4) TMs 8)
  have b9 : w2.cell? ⟨w.heap.size, 9, none⟩ = some (.slice A4 An4 Ac4) := hx2.cell (cell_new w (msC ⟨4, n, p, e', s, q, ch, en, mk, da⟩ A1 An1 Ac1 A2 An2 Ac2 A3 An3 Ac3 A4 An4 Ac4) TMs 9)
  have f0 : (w2.alloc (.cells #[.int .u8 ((kb).toNat : Int)] U8)).cell? ⟨w.heap.size, 0, none⟩ = some (.int .i64 4) := (Ext.alloc _ _).cell b0
  have f1 : (w2.alloc (.cells #[.int .u8 ((kb).toNat : Int)] U8)).cell? ⟨w.heap.size, 1, none⟩ = some (.int .i64 n) := (Ext.alloc _ _).cell b1
  have f2 : (w2.alloc (.cells #[.int .u8 ((kb).toNat : Int)] U8)).cell? ⟨w.heap.size, 2, none⟩ = some (.int .i64 p) := (Ext.alloc _ _).cell b2
  have f3 : (w2.alloc (.cells #[.int .u8 ((kb).toNat : Int)] U8)).cell? ⟨w.heap.size, 3, none⟩ = some (.int .i64 e') := (Ext.alloc _ _).cell b3
  have f4 : (w2.alloc (.cells #[.int .u8 ((kb).toNat : Int)] U8)).cell? ⟨w.heap.size, 4, none⟩ = some (.int .i64 s) := (Ext.alloc _ _).cell b4
  have f5 : (w2.alloc (.cells #[.int .u8 ((kb).toNat : Int)] U8)).cell? ⟨w.heap.size, 5, none⟩ = some (.int .i64 q) := (Ext.alloc _ _).cell b5
  have f6 : (w2.alloc (.cells #[.int .u8 ((kb).toNat : Int)] U8)).cell? ⟨w.heap.size, 6, none⟩ = some (.slice A1 An1 Ac1) := (Ext.alloc _ _).cell b6
  have f7 : (w2.alloc (.cells #[.int .u8 ((kb).toNat : Int)] U8)).cell? ⟨w.heap.size, 7, none⟩ = some (.slice A2 An2 Ac2) := (Ext.alloc _ _).cell b7
  have f8 : (w2.alloc (.cells #[.int .u8 ((kb).toNat : Int)] U8)).cell? ⟨w.heap.size, 8, none⟩ = some (.slice A3 An3 Ac3) := (Ext.alloc _ _).cell b8
  have f9 : (w2.alloc (.cells #[.int .u8 ((kb).toNat : Int)] U8)).cell? ⟨w.heap.size, 9, none⟩ = some (.slice A4 An4 Ac4) := (Ext.alloc _ _).cell b9
  have gx2 : Ext w w2 := (Ext.alloc _ _).trans hx2
  have gx2b : w.heap.size < w2.heap.size := World.block_lt_of_cell? _ _ b0
  clear hx2 HRC
  have hB2 := gx2.size
  go_wp2_with fail
  obtain ⟨W, hW⟩ : ∃ W, W = w2.alloc (.cells #[.int .u8 ((kb).toNat : Int)] U8) := ⟨_, rfl⟩
  have hb0 : Byt U8 W w2.heap.size (some ⟨w2.heap.size, 0, none⟩) 1 1 [kb] := by rw [hW]; exact byt_madeM w2 _ _ _ [kb] rfl (by simp [maxLen]) (Nat.le_refl _)
  have hxW : Ext w2 W := by rw [hW]; exact Ext.alloc _ _
  rw [← hW]
  clear hW f0 f1 f2 f3 f4 f5 f6 f7 f8 f9 hB2
  clear hcv
  go_loopw [4, 34] (fun v i wr => ∃ (j : Nat) (Ab : Option Addr) (m cb : Nat) (H : List UInt8), j ≤ 5 ∧ v = .slice Ab m cb ∧ i = .int .i64 j ∧ Byt U8 wr w2.heap.size Ab m cb H ∧ Hid (kb :: varsL ([n, p, e', s, q].take j) = H) ∧ m ≤ 1 + 9 * j ∧ Ext w2 wr) (fun _ i _ => 5 - (intOf i).toNat)
  case atStart => exact ⟨0, _, 1, 1, [kb], by omega, rfl, rfl, hb0, rfl, by omega, hxW⟩
  case round =>
    clear hb0 hxW
    obtain ⟨j, Ac, m, cc, H, hj, rfl, rfl, hbH, hH, hp, hxq⟩ := hrel
    have gsz := hxq.size
    have f0 := hxq.cell b0
    have f6 := hxq.cell b6
    have f7 := hxq.cell b7
    have f8 := hxq.cell b8
    have f9 := hxq.cell b9
    clear b0 b1 b2 b3 b4 b5 b6 b7 b8 b9
    have hj6 : j = 0 ∨ j = 1 ∨ j = 2 ∨ j = 3 ∨ j = 4 ∨ 5 ≤ j := by omega
    rcases hj6 with rfl | rfl | rfl | rfl | rfl | hj5
    · have ix : ∀ w, (Instr.index 72 (.agg #[.int .i64 n, .int .i64 p, .int .i64 e', .int .i64 s, .int .i64 q]) (.int .i64 0)).run Try.prog w = .ok (.int .i64 n) w := fun _ => by kernel_rfl
      go_wp2_with fail
      refine (bits_Var Ac m cc H n _ hbH.sl (by omega) HD.out.1).mono ?_
      rintro e w4 ⟨A5, n4, c4, rfl, hb4, hx4⟩
      have hl4 : n4 ≤ m + 9 := by
        have := varl_length (n).toNat
        rw [← hb4.len, List.length_append, hbH.len]
        omega
      go_wp2_with fail
      go_roundw
      case rel => exact ⟨1, A5, n4, c4, _, by omega, rfl, rfl, hb4.low gsz, by unfold Hid; rw [← hH.out]; simp [varsL], by omega, hxq.trans hx4⟩
      case measure => simp [intOf]
    · have ix : ∀ w, (Instr.index 72 (.agg #[.int .i64 n, .int .i64 p, .int .i64 e', .int .i64 s, .int .i64 q]) (.int .i64 1)).run Try.prog w = .ok (.int .i64 p) w := fun _ => by kernel_rfl
      go_wp2_with fail
      refine (bits_Var Ac m cc H p _ hbH.sl (by omega) HD.out.2.1).mono ?_
      rintro e w4 ⟨A5, n4, c4, rfl, hb4, hx4⟩
      have hl4 : n4 ≤ m + 9 := by
        have := varl_length (p).toNat
        rw [← hb4.len, List.length_append, hbH.len]
        omega
      go_wp2_with fail
      go_roundw
      case rel => exact ⟨2, A5, n4, c4, _, by omega, rfl, rfl, hb4.low gsz, by unfold Hid; rw [← hH.out]; simp [varsL], by omega, hxq.trans hx4⟩
      case measure => simp [intOf]
    · have ix : ∀ w, (Instr.index 72 (.agg #[.int .i64 n, .int .i64 p, .int .i64 e', .int .i64 s, .int .i64 q]) (.int .i64 2)).run Try.prog w = .ok (.int .i64 e') w := fun _ => by kernel_rfl
      go_wp2_with fail
      refine (bits_Var Ac m cc H e' _ hbH.sl (by omega) HD.out.2.2.1).mono ?_
      rintro e w4 ⟨A5, n4, c4, rfl, hb4, hx4⟩
      have hl4 : n4 ≤ m + 9 := by
        have := varl_length (e').toNat
        rw [← hb4.len, List.length_append, hbH.len]
        omega
      go_wp2_with fail
      go_roundw
      case rel => exact ⟨3, A5, n4, c4, _, by omega, rfl, rfl, hb4.low gsz, by unfold Hid; rw [← hH.out]; simp [varsL], by omega, hxq.trans hx4⟩
      case measure => simp [intOf]
    · have ix : ∀ w, (Instr.index 72 (.agg #[.int .i64 n, .int .i64 p, .int .i64 e', .int .i64 s, .int .i64 q]) (.int .i64 3)).run Try.prog w = .ok (.int .i64 s) w := fun _ => by kernel_rfl
      go_wp2_with fail
      refine (bits_Var Ac m cc H s _ hbH.sl (by omega) HD.out.2.2.2.1).mono ?_
      rintro e w4 ⟨A5, n4, c4, rfl, hb4, hx4⟩
      have hl4 : n4 ≤ m + 9 := by
        have := varl_length (s).toNat
        rw [← hb4.len, List.length_append, hbH.len]
        omega
      go_wp2_with fail
      go_roundw
      case rel => exact ⟨4, A5, n4, c4, _, by omega, rfl, rfl, hb4.low gsz, by unfold Hid; rw [← hH.out]; simp [varsL], by omega, hxq.trans hx4⟩
      case measure => simp [intOf]
    · have ix : ∀ w, (Instr.index 72 (.agg #[.int .i64 n, .int .i64 p, .int .i64 e', .int .i64 s, .int .i64 q]) (.int .i64 4)).run Try.prog w = .ok (.int .i64 q) w := fun _ => by kernel_rfl
      go_wp2_with fail
      refine (bits_Var Ac m cc H q _ hbH.sl (by omega) HD.out.2.2.2.2).mono ?_
      rintro e w4 ⟨A5, n4, c4, rfl, hb4, hx4⟩
      have hl4 : n4 ≤ m + 9 := by
        have := varl_length (q).toNat
        rw [← hb4.len, List.length_append, hbH.len]
        omega
      go_wp2_with fail
      go_roundw
      case rel => exact ⟨5, A5, n4, c4, _, by omega, rfl, rfl, hb4.low gsz, by unfold Hid; rw [← hH.out]; simp [varsL], by omega, hxq.trans hx4⟩
      case measure => simp [intOf]
    · have HG0 : Hid (kb :: varsL [n, p, e', s, q] = H) := by
        unfold Hid
        rw [← hH.out, show j = 5 by omega]
        rfl
      have dj : decide ((j : Int) < 5) = false := by simp; omega
      have djn : decide (j < 5) = false := by simp; omega
      have hp46 : m ≤ 46 := by omega
      have gx3 := gx2.trans hxq
      clear hH hp
      have hmt : marksT mk = true := by
        have := HT.out
        rw [tail4, Bool.and_eq_true] at this
        exact this.2
      rw [marksT_iff] at hmt
      have hn17 : An3 ≤ 17 := by rw [← hlen]; exact hmt.1.2
      have HFF : Hid (∀ x ∈ mk, fitM x) := fun x hx => markT_fit (hmt.2 x hx)
      have HLEN := Lib.hid hlen
      clear hmt hlen
      have hcr : rightL ch = true := by
        have := HT.out
        rw [tail4, Bool.and_eq_true] at this
        exact this.1
      have HCR := Lib.hid hcr
      have hc32 := (rightL_iff.1 hcr).2.1
      have hcl := putL_len ch
      obtain ⟨LC, hLC⟩ : ∃ z, putL ch = z := ⟨_, rfl⟩
      have HLCE := Lib.hid hLC
      rw [hLC] at hcl
      have HLC : Hid (putR ch true = LC) := hLC
      have hlc : LC.length ≤ 1161 := by omega
      clear hcr hc32 hcl hLC
      go_wp2_with fail
      refine (chain_Put (h.ch.ext tg_rep gx3) HCR HLC).mono ?_
      rintro e w4 ⟨A5, n5, c5, rfl, h5, hx4⟩
      rw [show (if true = true then (0 : Int) else 1) = 0 from rfl]
      have hn5 : n5 ≤ 1161 := by rw [← h5.len]; exact hlc
      have gx4 := hxq.trans hx4
      have hbH4 := hbH.ext hx4
      replace f0 := hx4.cell f0
      replace f7 := hx4.cell f7
      replace f8 := hx4.cell f8
      clear hx4 gx3 hbH hlc f6 f9 hxq gsz
      go_wp2_with fail
      refine (bits_Var Ac m cc H (n5 : Int) _ hbH4.sl (by omega) (by omega)).mono ?_
      rintro e w6 ⟨A6, n6, c6, rfl, h6, hx6⟩
      rw [Int.toNat_natCast] at h6
      have hn6 : n6 ≤ m + 9 := by
        have := varl_length n5
        rw [← h6.len, List.length_append, hbH4.len]
        omega
      have h5' := h5.sl.ext hx6
      have h6' := h6.low (B' := w2.heap.size) gx4.size
      replace f0 := hx6.cell f0
      replace f7 := hx6.cell f7
      replace f8 := hx6.cell f8
      have gx6 := gx4.trans hx6
      have gsz6 := gx6.size
      have h5l := h5.len
      have HF := Lib.hid (And.intro f0 (And.intro f7 f8))
      clear hx6 gx4 hbH4 h5 h6 f0 f7 f8
      go_wp2_with (at_builtin; refine wpList_append_mine _ rfl _ _ _ _ rfl w2.heap.size U8 i0 _ 1 1 under_bytes hi0 hz0 hz1 hz2 rfl A6 n6 c6 _ rfl h6'.own _ rfl n5 (LC.map bv) (h5'.src under_bytes) (by simp only [maxLen]; omega) (by omega) gsz6 ?_; intro A7 c7 w7 hown hg _; have f0 := boxed gx2b h6'.own hg HF.out.1; have f7 := boxed gx2b h6'.own hg HF.out.2.1; have f8 := boxed gx2b h6'.own hg HF.out.2.2; have gx7 : Ext w2 w7 := below_grown gx6 h6'.own hg gsz6)
      have h7 : Byt U8 w7 w2.heap.size A7 (n6 + n5) c7 (H ++ varl n5 ++ LC) := Byt.more h6'.len h5l hown rfl
      obtain ⟨H7, hH7⟩ : ∃ z, H ++ varl n5 ++ LC = z := ⟨_, rfl⟩
      rw [hH7] at h7
      have HH7 : Hid (kb :: (varsL [n, p, e', s, q] ++ (varl LC.length ++ LC)) = H7) := by
        unfold Hid
        rw [← hH7, ← HG0.out, h5l]
        simp
      clear hH7 HG0 HF h6' h5' hown hg gx6 gsz6 h5l
      go_wp2_with fail
      refine (bits_Var A7 (n6 + n5) c7 H7 (An3 : Int) _ h7.sl (by omega) (by omega)).mono ?_
      rintro e w8 ⟨A8, n8, c8, rfl, h8, hx8⟩
      rw [Int.toNat_natCast] at h8
      have hn8 : n8 ≤ 1230 := by
        have := varl_length An3
        rw [← h8.len, List.length_append, h7.len]
        omega
      have h8' := h8.low (B' := w2.heap.size) gx7.size
      replace f0 := hx8.cell f0
      replace f7 := hx8.cell f7
      replace f8 := hx8.cell f8
      have gx8 := gx7.trans hx8
      clear hx8 gx7 h7 h8
      go_wp2_with fail
      go_loopw [4, 96] (fun v i wr => ∃ (k : Nat) (Ab : Option Addr) (z cb : Nat) (G : List UInt8), k ≤ An3 ∧ v = .slice Ab z cb ∧ i = .int .i64 k ∧ Byt U8 wr w2.heap.size Ab z cb G ∧ Hid (H7 ++ varl An3 ++ mksBs (mk.take k) = G) ∧ z ≤ 1230 + 49 * k ∧ Ext w2 wr) (fun _ i _ => An3 - (intOf i).toNat)
      case atStart => exact ⟨0, A8, n8, c8, _, by omega, rfl, rfl, h8', by simp [Hid, mksBs], by omega, gx8⟩
      case round =>
        clear h8' gx8 f0 f7 f8
        obtain ⟨k, Ab, z, cb, G, hk, rfl, rfl, hbG, hG, hz, hxr⟩ := hrel
        by_cases hlt : k < An3
        · obtain ⟨ga, oa, x, cs, rfl, hx, rfl, ha⟩ := h.ms.at2 mk_rep (by omega) hlt
          have gxr := gx2.trans hxr
          have a0 : wr.cell? ⟨ga, oa + k * 4, none⟩ = _ := gxr.cell (ha 0 _ rfl)
          have a1 := gxr.cell (ha 1 _ rfl)
          have a2 := gxr.cell (ha 2 _ rfl)
          have a3 := gxr.cell (ha 3 _ rfl)
          have HF := Lib.hid (HFF.out x (List.mem_of_getElem? hx))
          have hnx := mksBs_next hx
          have hmb := (mkBs_len x).2
          have HNX : Hid (H7 ++ varl An3 ++ mksBs (mk.take (k + 1)) = G ++ mkBs x) := by
            unfold Hid
            rw [hnx, ← List.append_assoc, hG.out]
          have HP := Lib.hid (mkBs_parts x)
          have hnm : x.nm.size ≤ 13 := HF.out.2.2
          clear hG hnx hx ha
          obtain ⟨M, hM⟩ : ∃ M, mkBs x = M := ⟨_, rfl⟩
          rw [hM] at HNX HP hmb
          clear hM
          obtain ⟨x1, x2, x3, x4⟩ := x
          simp only at a0 a1 a2 a3 HP hnm hmb
          cases x4 with
          | false =>
            skip
            have hp2 : z ≤ 4000 := by omega
            obtain ⟨w3, hw3⟩ : ∃ q, q = wr.alloc (.cells #[.int .i64 x1, .string x2, .int .i64 x3, .bool false] TMk) := ⟨_, rfl⟩
            have hx3 : Ext w2 w3 := by rw [hw3]; exact hxr.allocs _
            have hbG3 : Byt U8 w3 w2.heap.size Ab z cb G := by rw [hw3]; exact hbG.ext (Ext.alloc _ _)
            have p0 : w3.cell? ⟨wr.heap.size, 0, none⟩ = some (.int .i64 x1) := by rw [hw3]; exact cell_new _ _ _ 0
            have p1 : w3.cell? ⟨wr.heap.size, 1, none⟩ = some (.string x2) := by rw [hw3]; exact cell_new _ _ _ 1
            have p2 : w3.cell? ⟨wr.heap.size, 2, none⟩ = some (.int .i64 x3) := by rw [hw3]; exact cell_new _ _ _ 2
            have p3 : w3.cell? ⟨wr.heap.size, 3, none⟩ = some (.bool false) := by rw [hw3]; exact cell_new _ _ _ 3
            go_wp2_with fail
            rw [← hw3]
            clear hw3 hbG
            refine wp_region_typed2 (R := But w3.heap.size (fun _ => False)) Ext.steady (But.steady _ _) (fun _ _ => But.of_ext) rfl 124 rfl [0, 0, 2, 7, 0, 16, 63, 0, 255, 511] 0 (by kernel_rfl) ?_
            apply Stage2.step (Is _) true [] true false (Is.keeps _) (fun _ => Is.keeps _) (by kernel_rfl)
            · intro w1 h1
              have h1 : Ext _ w1 := h1
              simp only [List.nil_append, List.cons_append, List.map_cons, List.map_nil, Given]
              go_wp2_with fail
              exact Post.isv (Ext.refl _) rfl rfl rfl
            apply Stage2.step (Is _) true [] true false (Is.keeps _) (fun _ => Is.keeps _) (by kernel_rfl)
            · intro w1 h1
              have h1 : Ext _ w1 := h1
              simp only [List.nil_append, List.cons_append, List.map_cons, List.map_nil, Given]
              go_wp2_with fail
              exact Post.isv (Ext.refl _) rfl rfl rfl
            apply Stage2.step (Is (.int .i64 x1)) true [false, true] true false (Is.keeps _) (fun _ => Is.keeps _) (by kernel_rfl)
            · intro w1 h1
              have h1 : Ext _ w1 := h1
              simp only [List.nil_append, List.cons_append, List.map_cons, List.map_nil, Sp.pr, Given]
              rintro _ rfl
              have q0 := h1.cell p0
              go_wp2_with fail
              exact Post.isv (Ext.refl _) rfl rfl rfl
            apply Stage2.step (BytT U8 w3.heap.size (G ++ varl x1.toNat)) false [true, false, true] true false (BytT.keeps _ _ _) (no_keeps) (by kernel_rfl)
            · intro w1 h1
              have h1 : Ext _ w1 := h1
              simp only [List.nil_append, List.cons_append, List.map_cons, List.map_nil, Sp.pr, Given]
              rintro _ rfl
              rintro _ rfl
              go_wp2_with fail
              refine (bits_Var Ab z cb G x1 _ (hbG3.sl.ext h1) (by omega) HF.out.1.2).mono ?_
              rintro e w2 ⟨A5, n5', c5', rfl, h5, hx5⟩
              go_wp2_with fail
              exact ⟨rfl, rfl, hx5, _, _, _, rfl, h5.low h1.size⟩
            apply Stage2.step (Is _) true [] true false (Is.keeps _) (fun _ => Is.keeps _) (by kernel_rfl)
            · intro w1 h1
              have h1 : Ext _ w1 := h1
              simp only [List.nil_append, List.cons_append, List.map_cons, List.map_nil, Given]
              go_wp2_with fail
              exact Post.isv (Ext.refl _) rfl rfl rfl
            apply Stage2.step (Is (.int .i64 x3)) true [false, false, false, false, true] true false (Is.keeps _) (fun _ => Is.keeps _) (by kernel_rfl)
            · intro w1 h1
              have h1 : Ext _ w1 := h1
              simp only [List.nil_append, List.cons_append, List.map_cons, List.map_nil, Sp.pr, Given]
              rintro _ rfl
              have q0 := h1.cell p2
              go_wp2_with fail
              exact Post.isv (Ext.refl _) rfl rfl rfl
            apply Stage2.step (BytT U8 w3.heap.size (G ++ varl x1.toNat ++ varl x3.toNat)) false [false, false, false, true, false, true] true false (BytT.keeps _ _ _) (no_keeps) (by kernel_rfl)
            · intro w1 h1
              have h1 : Ext _ w1 := h1
              simp only [List.nil_append, List.cons_append, List.map_cons, List.map_nil, Sp.pr, Given]
              rintro _ ⟨A5, n5', c5', rfl, h5⟩
              rintro _ rfl
              have l5 : n5' ≤ z + 9 := by
                have := varl_length x1.toNat
                rw [← h5.len, List.length_append, hbG3.len]
                omega
              go_wp2_with fail
              refine (bits_Var A5 n5' c5' _ x3 _ h5.sl (by omega) HF.out.2.1.2).mono ?_
              rintro e w2 ⟨A6', n6', c6', rfl, h6, hx6⟩
              go_wp2_with fail
              exact ⟨rfl, rfl, hx6, _, _, _, rfl, h6.low h1.size⟩
            apply Stage2.step (Is _) true [] true false (Is.keeps _) (fun _ => Is.keeps _) (by kernel_rfl)
            · intro w1 h1
              have h1 : Ext _ w1 := h1
              simp only [List.nil_append, List.cons_append, List.map_cons, List.map_nil, Given]
              go_wp2_with fail
              exact Post.isv (Ext.refl _) rfl rfl rfl
            apply Stage2.step (BytT U8 w3.heap.size (G ++ varl x1.toNat ++ varl x3.toNat ++ varl 0)) false [false, false, false, false, false, false, true, true] true false (BytT.keeps _ _ _) (no_keeps) (by kernel_rfl)
            · intro w1 h1
              have h1 : Ext _ w1 := h1
              simp only [List.nil_append, List.cons_append, List.map_cons, List.map_nil, Sp.pr, Given]
              rintro _ ⟨A6', n6', c6', rfl, h6⟩
              rintro _ rfl
              have l6 : n6' ≤ z + 18 := by
                have := varl_length x1.toNat
                have := varl_length x3.toNat
                rw [← h6.len, List.length_append, List.length_append, hbG3.len]
                omega
              go_wp2_with fail
              refine (bits_Var A6' n6' c6' _ 0 _ h6.sl (by omega) (by omega)).mono ?_
              rintro e w2 ⟨A7', n7', c7', rfl, h7, hx7⟩
              go_wp2_with fail
              exact ⟨rfl, rfl, hx7, _, _, _, rfl, h7.low h1.size⟩
            apply Stage2.step (BytT U8 w3.heap.size (G ++ varl x1.toNat ++ varl x3.toNat ++ varl 0)) false [false, false, false, false, false, false, false, false, true] true false (BytT.keeps _ _ _) (no_keeps) (by kernel_rfl)
            · intro w1 h1
              have h1 : Ext _ w1 := h1
              simp only [List.nil_append, List.cons_append, List.map_cons, List.map_nil, Sp.pr, Given]
              rintro v hcp
              go_wp2_with fail
              exact ⟨rfl, rfl, Ext.refl _, hcp⟩
            apply Stage2.nil [true, true, true, true, true, true, true, true, true, true] (by kernel_rfl)
            intro w1 h1
            have h1 : (Ext) _ w1 := h1
            simp only [List.nil_append, List.cons_append, List.map_cons, List.map_nil, Sp.pr]
            refine Fin2.is_ ?_
            refine Fin2.is_ ?_
            refine Fin2.is_ ?_
            refine Fin2.step_ ?_
            rintro _ ⟨A5, n5', c5', rfl, h5⟩
            refine Fin2.is_ ?_
            refine Fin2.is_ ?_
            refine Fin2.step_ ?_
            rintro _ ⟨A6', n6', c6', rfl, h6⟩
            refine Fin2.is_ ?_
            refine Fin2.step_ ?_
            rintro _ ⟨A7', n7', c7', rfl, h7⟩
            refine Fin2.step_ ?_
            rintro _ ⟨A7', n7', c7', rfl, h7⟩
            refine Fin2.nil_ ?_
            go_simp
            have l7 : n7' ≤ z + 27 := by
              have := varl_length x1.toNat
              have := varl_length x3.toNat
              have := varl_length 0
              rw [← h7.len, List.length_append, List.length_append, List.length_append, hbG3.len]
              omega
            have gx3' := hx3.trans h1
            replace p1 := h1.cell p1
            obtain ⟨wm, rfl⟩ : ∃ q, q = w1 := ⟨_, rfl⟩
            have hsz3 := hx3.size
            go_wp2_with fail
            refine (bits_Text A7' n7' c7' _ x2 _ h7.sl (by omega) (by omega)).mono ?_
            rintro e w8 ⟨A8', n8', c8', rfl, h8, hx8⟩
            have HH : Hid (H7 ++ varl An3 ++ mksBs (mk.take (k + 1)) = G ++ varl x1.toNat ++ varl x3.toNat ++ varl 0 ++ varl x2.size ++ x2.data.toList) := by
              unfold Hid
              rw [HNX.out, HP.out]
              simp [goneI]
            have hl8 : n8' ≤ 1230 + 49 * (k + 1) := by
              have := varl_length x1.toNat
              have := varl_length x3.toNat
              have := varl_length 0
              have := varl_length x2.size
              have h9 := size_list x2
              have h8l := h8.len
              simp only [List.length_append, hbG3.len, h9] at h8l
              omega
            have hm8 := h1.size
            clear HNX HP h7
            go_wp2_with fail
            go_roundw
            case rel => exact ⟨k + 1, A8', n8', c8', _, by omega, rfl, by go_num, h8.low (by omega), HH, hl8, gx3'.trans hx8⟩
            case measure => simp [intOf]; omega
          | true =>
            skip
            have hp2 : z ≤ 4000 := by omega
            obtain ⟨w3, hw3⟩ : ∃ q, q = wr.alloc (.cells #[.int .i64 x1, .string x2, .int .i64 x3, .bool true] TMk) := ⟨_, rfl⟩
            have hx3 : Ext w2 w3 := by rw [hw3]; exact hxr.allocs _
            have hbG3 : Byt U8 w3 w2.heap.size Ab z cb G := by rw [hw3]; exact hbG.ext (Ext.alloc _ _)
            have p0 : w3.cell? ⟨wr.heap.size, 0, none⟩ = some (.int .i64 x1) := by rw [hw3]; exact cell_new _ _ _ 0
            have p1 : w3.cell? ⟨wr.heap.size, 1, none⟩ = some (.string x2) := by rw [hw3]; exact cell_new _ _ _ 1
            have p2 : w3.cell? ⟨wr.heap.size, 2, none⟩ = some (.int .i64 x3) := by rw [hw3]; exact cell_new _ _ _ 2
            have p3 : w3.cell? ⟨wr.heap.size, 3, none⟩ = some (.bool true) := by rw [hw3]; exact cell_new _ _ _ 3
            go_wp2_with fail
            rw [← hw3]
            clear hw3 hbG
            refine wp_region_typed2 (R := But w3.heap.size (fun _ => False)) Ext.steady (But.steady _ _) (fun _ _ => But.of_ext) rfl 124 rfl [0, 0, 2, 7, 0, 16, 63, 0, 255, 511] 0 (by kernel_rfl) ?_
            apply Stage2.step (Is _) true [] true false (Is.keeps _) (fun _ => Is.keeps _) (by kernel_rfl)
            · intro w1 h1
              have h1 : Ext _ w1 := h1
              simp only [List.nil_append, List.cons_append, List.map_cons, List.map_nil, Given]
              go_wp2_with fail
              exact Post.isv (Ext.refl _) rfl rfl rfl
            apply Stage2.step (Is _) true [] true false (Is.keeps _) (fun _ => Is.keeps _) (by kernel_rfl)
            · intro w1 h1
              have h1 : Ext _ w1 := h1
              simp only [List.nil_append, List.cons_append, List.map_cons, List.map_nil, Given]
              go_wp2_with fail
              exact Post.isv (Ext.refl _) rfl rfl rfl
            apply Stage2.step (Is (.int .i64 x1)) true [false, true] true false (Is.keeps _) (fun _ => Is.keeps _) (by kernel_rfl)
            · intro w1 h1
              have h1 : Ext _ w1 := h1
              simp only [List.nil_append, List.cons_append, List.map_cons, List.map_nil, Sp.pr, Given]
              rintro _ rfl
              have q0 := h1.cell p0
              go_wp2_with fail
              exact Post.isv (Ext.refl _) rfl rfl rfl
            apply Stage2.step (BytT U8 w3.heap.size (G ++ varl x1.toNat)) false [true, false, true] true false (BytT.keeps _ _ _) (no_keeps) (by kernel_rfl)
            · intro w1 h1
              have h1 : Ext _ w1 := h1
              simp only [List.nil_append, List.cons_append, List.map_cons, List.map_nil, Sp.pr, Given]
              rintro _ rfl
              rintro _ rfl
              go_wp2_with fail
              refine (bits_Var Ab z cb G x1 _ (hbG3.sl.ext h1) (by omega) HF.out.1.2).mono ?_
              rintro e w2 ⟨A5, n5', c5', rfl, h5, hx5⟩
              go_wp2_with fail
              exact ⟨rfl, rfl, hx5, _, _, _, rfl, h5.low h1.size⟩
            apply Stage2.step (Is _) true [] true false (Is.keeps _) (fun _ => Is.keeps _) (by kernel_rfl)
            · intro w1 h1
              have h1 : Ext _ w1 := h1
              simp only [List.nil_append, List.cons_append, List.map_cons, List.map_nil, Given]
              go_wp2_with fail
              exact Post.isv (Ext.refl _) rfl rfl rfl
            apply Stage2.step (Is (.int .i64 x3)) true [false, false, false, false, true] true false (Is.keeps _) (fun _ => Is.keeps _) (by kernel_rfl)
            · intro w1 h1
              have h1 : Ext _ w1 := h1
              simp only [List.nil_append, List.cons_append, List.map_cons, List.map_nil, Sp.pr, Given]
              rintro _ rfl
              have q0 := h1.cell p2
              go_wp2_with fail
              exact Post.isv (Ext.refl _) rfl rfl rfl
            apply Stage2.step (BytT U8 w3.heap.size (G ++ varl x1.toNat ++ varl x3.toNat)) false [false, false, false, true, false, true] true false (BytT.keeps _ _ _) (no_keeps) (by kernel_rfl)
            · intro w1 h1
              have h1 : Ext _ w1 := h1
              simp only [List.nil_append, List.cons_append, List.map_cons, List.map_nil, Sp.pr, Given]
              rintro _ ⟨A5, n5', c5', rfl, h5⟩
              rintro _ rfl
              have l5 : n5' ≤ z + 9 := by
                have := varl_length x1.toNat
                rw [← h5.len, List.length_append, hbG3.len]
                omega
              go_wp2_with fail
              refine (bits_Var A5 n5' c5' _ x3 _ h5.sl (by omega) HF.out.2.1.2).mono ?_
              rintro e w2 ⟨A6', n6', c6', rfl, h6, hx6⟩
              go_wp2_with fail
              exact ⟨rfl, rfl, hx6, _, _, _, rfl, h6.low h1.size⟩
            apply Stage2.step (Is _) true [] true false (Is.keeps _) (fun _ => Is.keeps _) (by kernel_rfl)
            · intro w1 h1
              have h1 : Ext _ w1 := h1
              simp only [List.nil_append, List.cons_append, List.map_cons, List.map_nil, Given]
              go_wp2_with fail
              exact Post.isv (Ext.refl _) rfl rfl rfl
            apply Stage2.step (BytT U8 w3.heap.size (G ++ varl x1.toNat ++ varl x3.toNat ++ varl 1)) false [false, false, false, false, false, false, true, true] true false (BytT.keeps _ _ _) (no_keeps) (by kernel_rfl)
            · intro w1 h1
              have h1 : Ext _ w1 := h1
              simp only [List.nil_append, List.cons_append, List.map_cons, List.map_nil, Sp.pr, Given]
              rintro _ ⟨A6', n6', c6', rfl, h6⟩
              rintro _ rfl
              have l6 : n6' ≤ z + 18 := by
                have := varl_length x1.toNat
                have := varl_length x3.toNat
                rw [← h6.len, List.length_append, List.length_append, hbG3.len]
                omega
              go_wp2_with fail
              refine (bits_Var A6' n6' c6' _ 1 _ h6.sl (by omega) (by omega)).mono ?_
              rintro e w2 ⟨A7', n7', c7', rfl, h7, hx7⟩
              go_wp2_with fail
              exact ⟨rfl, rfl, hx7, _, _, _, rfl, h7.low h1.size⟩
            apply Stage2.step (BytT U8 w3.heap.size (G ++ varl x1.toNat ++ varl x3.toNat ++ varl 1)) false [false, false, false, false, false, false, false, false, true] true false (BytT.keeps _ _ _) (no_keeps) (by kernel_rfl)
            · intro w1 h1
              have h1 : Ext _ w1 := h1
              simp only [List.nil_append, List.cons_append, List.map_cons, List.map_nil, Sp.pr, Given]
              rintro v hcp
              go_wp2_with fail
              exact ⟨rfl, rfl, Ext.refl _, hcp⟩
            apply Stage2.nil [true, true, true, true, true, true, true, true, true, true] (by kernel_rfl)
            intro w1 h1
            have h1 : (Ext) _ w1 := h1
            simp only [List.nil_append, List.cons_append, List.map_cons, List.map_nil, Sp.pr]
            refine Fin2.is_ ?_
            refine Fin2.is_ ?_
            refine Fin2.is_ ?_
            refine Fin2.step_ ?_
            rintro _ ⟨A5, n5', c5', rfl, h5⟩
            refine Fin2.is_ ?_
            refine Fin2.is_ ?_
            refine Fin2.step_ ?_
            rintro _ ⟨A6', n6', c6', rfl, h6⟩
            refine Fin2.is_ ?_
            refine Fin2.step_ ?_
            rintro _ ⟨A7', n7', c7', rfl, h7⟩
            refine Fin2.step_ ?_
            rintro _ ⟨A7', n7', c7', rfl, h7⟩
            refine Fin2.nil_ ?_
            go_simp
            have l7 : n7' ≤ z + 27 := by
              have := varl_length x1.toNat
              have := varl_length x3.toNat
              have := varl_length 1
              rw [← h7.len, List.length_append, List.length_append, List.length_append, hbG3.len]
              omega
            have gx3' := hx3.trans h1
            replace p1 := h1.cell p1
            obtain ⟨wm, rfl⟩ : ∃ q, q = w1 := ⟨_, rfl⟩
            have hsz3 := hx3.size
            go_wp2_with fail
            refine (bits_Text A7' n7' c7' _ x2 _ h7.sl (by omega) (by omega)).mono ?_
            rintro e w8 ⟨A8', n8', c8', rfl, h8, hx8⟩
            have HH : Hid (H7 ++ varl An3 ++ mksBs (mk.take (k + 1)) = G ++ varl x1.toNat ++ varl x3.toNat ++ varl 1 ++ varl x2.size ++ x2.data.toList) := by
              unfold Hid
              rw [HNX.out, HP.out]
              simp [goneI]
            have hl8 : n8' ≤ 1230 + 49 * (k + 1) := by
              have := varl_length x1.toNat
              have := varl_length x3.toNat
              have := varl_length 1
              have := varl_length x2.size
              have h9 := size_list x2
              have h8l := h8.len
              simp only [List.length_append, hbG3.len, h9] at h8l
              omega
            have hm8 := h1.size
            clear HNX HP h7
            go_wp2_with fail
            go_roundw
            case rel => exact ⟨k + 1, A8', n8', c8', _, by omega, rfl, by go_num, h8.low (by omega), HH, hl8, gx3'.trans hx8⟩
            case measure => simp [intOf]; omega
        · obtain rfl : k = An3 := by omega
          have hG1 := hG.out
          rw [List.take_of_length_le (by rw [HLEN.out]; exact Nat.le_refl _)] at hG1
          have HL2 : Hid (put G (crcOf G) 4 = L) := by
            have : bodyM ⟨4, n, p, e', s, q, ch, en, mk, da⟩ = G := by
              rw [← hG1, ← HH7.out, ← HKB.out, ← HLCE.out, ← HLEN.out]
              unfold bodyM chainBs restBs
              rw [if_pos (show (4 : Int) = 2 ∨ (4 : Int) = 4 from .inr rfl), if_neg (show ¬ (4 : Int) = 2 by decide), if_pos rfl]
              simp [msNs, kdB]
            unfold Hid
            rw [← HL.out, ← this]
            rfl
          clear hG hG1 HL HH7
          go_wp2_with fail
          refine (crc_Seal Ab z cb G _ hbG.sl (by omega)).mono ?_
          rintro e w5 ⟨A9, c9, rfl, h9, hx9⟩
          rw [HL2.out] at h9
          go_wp2_with fail
          go_ret2
          exact ⟨_, _, _, rfl, h9.low (gx2.trans hxr).size, (gx2.trans hxr).trans hx9⟩
theorem msg_Put {m : Ms} {A1 : Option Addr} {An1 Ac1 : Nat} {A2 : Option Addr} {An2 Ac2 : Nat} {A3 : Option Addr} {An3 Ac3 : Nat} {A4 : Option Addr} {An4 Ac4 : Nat} {w : World} (h : MsR w m A1 An1 Ac1 A2 An2 Ac2 A3 An3 Ac3 A4 An4 Ac4) (hf : Hid (EnFit m.ents)) (hs : Hid (Shorts m.marks)) {r : Bool} (hr : Hid (rightM m = r)) {L : List UInt8} (hL : Hid (putMr m r = L)) :
    Calls Try.prog 13 #[msV m A1 An1 Ac1 A2 An2 Ac2 A3 An3 Ac3 A4 An4 Ac4] w fun e w' => ∃ A' n' c', e = .returned (.tuple #[.slice A' n' c', .int .i64 (if r then 0 else 1)]) ∧ Byt U8 w' w.heap.size A' n' c' L ∧ Ext w w' := by
  obtain ⟨k, n, p, e', s, q, ch, en, mk, da⟩ := m
  cases r with
  | false =>
    obtain rfl : L = [] := by rw [← hL.out]; rfl
    have HRC := Lib.hid (msg_Right (h.ext (Ext.alloc w (.cells (msC ⟨k, n, p, e', s, q, ch, en, mk, da⟩ A1 An1 Ac1 A2 An2 Ac2 A3 An3 Ac3 A4 An4 Ac4) TMs))) hf hs hr)
    go_enter Try.func13, Try.ntmps13
    go_wp2_with fail
    refine HRC.out.mono ?_
    rintro e w1 ⟨rfl, hx1⟩
    go_wp2_with fail
    go_ret2
    exact ⟨_, _, _, rfl, Byt.nil _ _ _ _, (Ext.alloc _ _).trans hx1⟩
  | true =>
    have hk : k = 2 ∨ k = 4 ∨ k = 6 ∨ ¬ (k = 2 ∨ k = 4 ∨ k = 6) := by omega
    rcases hk with rfl | rfl | rfl | hk
    · exact msg_Put_2 h hf hs hr hL
    · exact msg_Put_4 h hf hs hr hL
    · exact msg_Put_6 h hf hs hr hL
    · exact msg_Put_0 hk h hf hs hr hL
end Go.Proofs.Ytoeknbogaclfdaa
