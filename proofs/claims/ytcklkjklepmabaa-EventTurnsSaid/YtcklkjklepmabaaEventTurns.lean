/-
  The walk of one statement of chapter 5.
-/
import Derived.Test.YtcklkjklepmabaaEvLaws2
import Derived.Test.YtcklkjklepmabaaFsl
namespace Go.Proofs.Ytcklkjklepmabaa
open Go.RowKit
set_option linter.unusedVariables false
set_option linter.unusedSimpArgs false
set_option linter.unnecessarySimpa false
set_option maxRecDepth 100000

theorem turn_0 (o m : Int) (n : Nat) (s : ByteArray) : rightE 9 o m n s = false := by unfold rightE; simp
theorem turn_1 {k o m : Int} {n : Nat} (h : ¬ (k = 5 ∨ k = 6 ∨ k = 7)) : rightE k o m n ⟨#[97]⟩ = false := by
  cases hr : rightE k o m n ⟨#[97]⟩ with
  | false => rfl
  | true =>
    exfalso
    have e : (⟨#[97]⟩ : ByteArray) ≠ ⟨#[]⟩ := fun h => by
      have := congrArg ByteArray.size h
      simp [ByteArray.size] at this
    rcases right_cases hr with ⟨_, _, _, _, h2⟩ | ⟨_, _, _, h2⟩ | ⟨_, _, _, _, _, h2⟩ | ⟨h2, _⟩ | ⟨_, _, _, _, h2⟩
    · exact e h2
    · exact e h2
    · exact e h2
    · exact h h2
    · exact e h2
theorem turn_2 {k m : Int} {n : Nat} {s : ByteArray} (h : ¬ (k = 1 ∨ k = 2 ∨ k = 3)) : rightE k 1 m n s = false := by
  cases hr : rightE k 1 m n s with
  | false => rfl
  | true => exfalso; rcases right_cases hr with h | h | h | h | h <;> omega
theorem turn_3 {k o m : Int} {s : ByteArray} (h : ¬ k = 1) : rightE k o m 1 s = false := by
  cases hr : rightE k o m 1 s with
  | false => rfl
  | true => exfalso; rcases right_cases hr with h | h | h | h | h <;> omega
theorem turn_4 {k o : Int} {n : Nat} {s : ByteArray} (h : ¬ (k = 2 ∨ k = 3 ∨ k = 4)) : rightE k o 1 n s = false := by
  cases hr : rightE k o 1 n s with
  | false => rfl
  | true => exfalso; rcases right_cases hr with h | h | h | h | h <;> omega
theorem byt_set (w : World) (p : Addr) (v : Value) : Sl ((w.setCell p v).alloc (.cells #[.int .u8 0] U8)) (some ⟨w.heap.size, 0, none⟩) 1 1 [0] := by
  have e : (w.setCell p v).heap.size = w.heap.size := by simp [World.setCell]
  have := byt_made (w.setCell p v) #[.int .u8 0] U8 0 [0] rfl (by simp [maxLen]) (Nat.zero_le _)
  rw [e] at this
  exact this.sl
theorem plain_no {k o m : Int} {n : Nat} {s : ByteArray} (h : rightE k o m n s = false) : plainE k o m n s = false := by unfold plainE; rw [h]; rfl


set_option maxHeartbeats 8000000 in
theorem law_EventTurns (k o m : Int) (A : Option Addr) (n c : Nat) (l : List UInt8) (s : ByteArray) (x : Int) (w : World) (hsl : Sl w A n c l) (hs : s.size ≤ maxLen) (hx0 : -9223372036854775808 ≤ x) (hx1 : x ≤ 9223372036854775807) :
    Calls Try.prog 10 #[evV k o m A n c s, .int .i64 x] w fun e w' => e = .returned (.bool true) ∧ Ext w w' := by
  have h63 := hsl.n63
  clear hx0 hx1
  obtain ⟨r, hr⟩ : ∃ r, rightE k o m n s = r := ⟨_, rfl⟩
  have HR := Lib.hid hr
  cases r with
  | false =>
    clear hr
    go_enter Try.func10, Try.ntmps10
    go_wp2_with fail
    refine (ref_RightEvent k o m A n c s _ h63.1 hs).mono ?_
    rintro e w1 ⟨rfl, hx1⟩
    rw [HR.out]
    go_wp2_with fail
    refine (law5_known _).mono ?_
    rintro e w2 ⟨rfl, hx2⟩
    go_wp2_with fail
    go_ret
    exact ⟨rfl, ((Ext.alloc w _).trans hx1).trans hx2⟩
  | true =>
    obtain ⟨pl, hpl⟩ : ∃ q, plainE k o m n s = q := ⟨_, rfl⟩
    have hplk : pl = decide (k = 1 ∨ k = 2 ∨ k = 3) := by rw [← hpl]; unfold plainE; rw [hr]; rfl
    have HPL := Lib.hid hpl
    have hk8 : k = 1 ∨ k = 2 ∨ k = 3 ∨ k = 4 ∨ k = 5 ∨ k = 6 ∨ k = 7 ∨ k = 8 := by rcases right_cases hr with h | h | h | h | h <;> omega
    clear hpl hr
    rcases hk8 with rfl | rfl | rfl | rfl | rfl | rfl | rfl | rfl
    · obtain rfl : pl = true := by rw [hplk]; rfl
      clear hplk
      by_cases q0 : (bits BinOp.and IntKind.i64 x 255).tmod 5 = 0
      · skip
        have g0 : ((bits BinOp.and IntKind.i64 x 255).tmod 5 == 0) = true := by simpa using q0
        clear q0
        -- 0: the field, .int .i64 9: its value, w2: the world ahead of the store; then the event: k o m slice bytes text, the law
        go_enter Try.func10, Try.ntmps10
        go_wp2_with fail
        refine (ref_RightEvent 1 o m A n c s _ h63.1 hs).mono ?_
        rintro e w1 ⟨rfl, hx1⟩
        rw [HR.out]
        have ec0 : w1.cell? ⟨w.heap.size, 0, none⟩ = some (.int .i64 1) := hx1.cell (cell_new w _ _ 0)
        have ec1 : w1.cell? ⟨w.heap.size, 1, none⟩ = some (.int .i64 o) := hx1.cell (cell_new w _ _ 1)
        have ec2 : w1.cell? ⟨w.heap.size, 2, none⟩ = some (.int .i64 m) := hx1.cell (cell_new w _ _ 2)
        have ec3 : w1.cell? ⟨w.heap.size, 3, none⟩ = some (.slice A n c) := hx1.cell (cell_new w _ _ 3)
        have ec4 : w1.cell? ⟨w.heap.size, 4, none⟩ = some (.string s) := hx1.cell (cell_new w _ _ 4)
        have hx := (Ext.alloc w (.cells #[.int .i64 1, .int .i64 o, .int .i64 m, .slice A n c, .string s] 28)).trans hx1
        have hlt := World.block_lt_of_cell? _ _ ec0
        clear hx1
        go_wp2_with fail
        refine (ref_Plain 1 o m A n c s _ h63.1 hs).mono ?_
        rintro e w2 ⟨rfl, hx2⟩
        rw [HPL.out]
        replace ec0 := hx2.cell ((Ext.alloc _ _).cell ec0)
        have d0 : w2.cell? ⟨w1.heap.size, 0, none⟩ = some (.int .i64 1) := hx2.cell (cell_new w1 _ _ 0)
        replace ec1 := hx2.cell ((Ext.alloc _ _).cell ec1)
        have d1 : w2.cell? ⟨w1.heap.size, 1, none⟩ = some (.int .i64 o) := hx2.cell (cell_new w1 _ _ 1)
        replace ec2 := hx2.cell ((Ext.alloc _ _).cell ec2)
        have d2 : w2.cell? ⟨w1.heap.size, 2, none⟩ = some (.int .i64 m) := hx2.cell (cell_new w1 _ _ 2)
        replace ec3 := hx2.cell ((Ext.alloc _ _).cell ec3)
        have d3 : w2.cell? ⟨w1.heap.size, 3, none⟩ = some (.slice A n c) := hx2.cell (cell_new w1 _ _ 3)
        replace ec4 := hx2.cell ((Ext.alloc _ _).cell ec4)
        have d4 : w2.cell? ⟨w1.heap.size, 4, none⟩ = some (.string s) := hx2.cell (cell_new w1 _ _ 4)
        have hlt2 := World.block_lt_of_cell? _ _ d0
        replace hx := (hx.trans (Ext.alloc w1 _)).trans hx2
        have f0 : w2.frozen? ⟨w1.heap.size, 0, none⟩ = false := hx2.frozenF (cell_new w1 _ _ 0) (fr_new w1 _ _ 0)
        clear hx2
        go_wp2_with fail
        obtain ⟨W, hW⟩ : ∃ W, W = ((w2).setCell ⟨w1.heap.size, 0, none⟩ (.int .i64 9)) := ⟨_, rfl⟩
        have hxb : Ext w2 (w2) := by (repeat (first | (with_reducible exact Ext.refl _) | (with_reducible assumption) | (with_reducible refine Ext.draws ?_) | (with_reducible refine Ext.allocs ?_ _) | (with_reducible refine Ext.sets ?_ ?_ _) | (with_reducible exact Nat.le_refl _) | (exact (by simp)) | (exact (by simp; omega))))
        have hsW := hsl.ext (hx.trans hxb)
        have hxW : Ext w W := by rw [hW]; first | exact (hx.trans hxb).sets (by simp; omega) _ | exact ((hx.trans hxb).sets (by simp; omega) _).allocs _
        replace ec0 : W.cell? ⟨w.heap.size, 0, none⟩ = some (.int .i64 1) := by rw [hW]; first | exact (cell_set_ne _ _ _ _ _ _ (by omega)).trans (hxb.cell ec0) | exact (Ext.alloc _ _).cell ((cell_set_ne _ _ _ _ _ _ (by omega)).trans (hxb.cell ec0))
        replace d0 : W.cell? ⟨w1.heap.size, 0, none⟩ = some (.int .i64 9) := by rw [hW]; first | exact (cell_set_ne _ _ _ _ _ _ (by omega)).trans (hxb.cell d0) | exact World.cell?_setCell_same _ _ _ (hxb.cell d0) | exact (Ext.alloc _ _).cell ((cell_set_ne _ _ _ _ _ _ (by omega)).trans (hxb.cell d0)) | exact (Ext.alloc _ _).cell (World.cell?_setCell_same _ _ _ (hxb.cell d0))
        replace ec1 : W.cell? ⟨w.heap.size, 1, none⟩ = some (.int .i64 o) := by rw [hW]; first | exact (cell_set_ne _ _ _ _ _ _ (by omega)).trans (hxb.cell ec1) | exact (Ext.alloc _ _).cell ((cell_set_ne _ _ _ _ _ _ (by omega)).trans (hxb.cell ec1))
        replace d1 : W.cell? ⟨w1.heap.size, 1, none⟩ = some (.int .i64 o) := by rw [hW]; first | exact (cell_set_ne _ _ _ _ _ _ (by omega)).trans (hxb.cell d1) | exact World.cell?_setCell_same _ _ _ (hxb.cell d1) | exact (Ext.alloc _ _).cell ((cell_set_ne _ _ _ _ _ _ (by omega)).trans (hxb.cell d1)) | exact (Ext.alloc _ _).cell (World.cell?_setCell_same _ _ _ (hxb.cell d1))
        replace ec2 : W.cell? ⟨w.heap.size, 2, none⟩ = some (.int .i64 m) := by rw [hW]; first | exact (cell_set_ne _ _ _ _ _ _ (by omega)).trans (hxb.cell ec2) | exact (Ext.alloc _ _).cell ((cell_set_ne _ _ _ _ _ _ (by omega)).trans (hxb.cell ec2))
        replace d2 : W.cell? ⟨w1.heap.size, 2, none⟩ = some (.int .i64 m) := by rw [hW]; first | exact (cell_set_ne _ _ _ _ _ _ (by omega)).trans (hxb.cell d2) | exact World.cell?_setCell_same _ _ _ (hxb.cell d2) | exact (Ext.alloc _ _).cell ((cell_set_ne _ _ _ _ _ _ (by omega)).trans (hxb.cell d2)) | exact (Ext.alloc _ _).cell (World.cell?_setCell_same _ _ _ (hxb.cell d2))
        replace ec3 : W.cell? ⟨w.heap.size, 3, none⟩ = some (.slice A n c) := by rw [hW]; first | exact (cell_set_ne _ _ _ _ _ _ (by omega)).trans (hxb.cell ec3) | exact (Ext.alloc _ _).cell ((cell_set_ne _ _ _ _ _ _ (by omega)).trans (hxb.cell ec3))
        replace d3 : W.cell? ⟨w1.heap.size, 3, none⟩ = some (.slice A n c) := by rw [hW]; first | exact (cell_set_ne _ _ _ _ _ _ (by omega)).trans (hxb.cell d3) | exact World.cell?_setCell_same _ _ _ (hxb.cell d3) | exact (Ext.alloc _ _).cell ((cell_set_ne _ _ _ _ _ _ (by omega)).trans (hxb.cell d3)) | exact (Ext.alloc _ _).cell (World.cell?_setCell_same _ _ _ (hxb.cell d3))
        replace ec4 : W.cell? ⟨w.heap.size, 4, none⟩ = some (.string s) := by rw [hW]; first | exact (cell_set_ne _ _ _ _ _ _ (by omega)).trans (hxb.cell ec4) | exact (Ext.alloc _ _).cell ((cell_set_ne _ _ _ _ _ _ (by omega)).trans (hxb.cell ec4))
        replace d4 : W.cell? ⟨w1.heap.size, 4, none⟩ = some (.string s) := by rw [hW]; first | exact (cell_set_ne _ _ _ _ _ _ (by omega)).trans (hxb.cell d4) | exact World.cell?_setCell_same _ _ _ (hxb.cell d4) | exact (Ext.alloc _ _).cell ((cell_set_ne _ _ _ _ _ _ (by omega)).trans (hxb.cell d4)) | exact (Ext.alloc _ _).cell (World.cell?_setCell_same _ _ _ (hxb.cell d4))
        rw [← hW]
        have hsX : Sl W A n c l := by rw [hW]; exact hsW.keepBlk (fun ad ea hn => Below.heap_setCell _ _ _ _ (by have := hsl.blk ad ea hn; show ad.block ≠ w1.heap.size; omega))
        have hsE := hsl.ext hxW
        have HX := Lib.hid (turn_0 o m n s)
        have HXL : Hid ((if false then putE 9 o m l s else []) = ([] : List UInt8)) := rfl
        clear hW hxb hsW f0 hlt2 hlt hx
        refine (event_Put 9 o m A n c l s _ hsX hs HX HXL).mono ?_
        rintro e w4 ⟨A4, n4, c4, rfl, hb4, hx4⟩
        replace ec0 := hx4.cell ec0
        replace d0 := hx4.cell d0
        replace ec1 := hx4.cell ec1
        replace d1 := hx4.cell d1
        replace ec2 := hx4.cell ec2
        replace d2 := hx4.cell d2
        replace ec3 := hx4.cell ec3
        replace d3 := hx4.cell d3
        replace ec4 := hx4.cell ec4
        replace d4 := hx4.cell d4
        go_wp2_with fail
        refine (event_Right 1 o m A n c l s _ (hsE.ext hx4) hs).mono ?_
        rintro e w5 ⟨rfl, hx5⟩
        rw [HR.out]
        replace d0 := hx5.cell d0
        replace d1 := hx5.cell d1
        replace d2 := hx5.cell d2
        replace d3 := hx5.cell d3
        replace d4 := hx5.cell d4
        go_wp2_with fail
        refine (event_Right 9 o m A n c l s _ ((hsX.ext hx4).ext hx5) hs).mono ?_
        rintro e w6 ⟨rfl, hx6⟩
        rw [HX.out]
        replace d0 := hx6.cell d0
        replace d1 := hx6.cell d1
        replace d2 := hx6.cell d2
        replace d3 := hx6.cell d3
        replace d4 := hx6.cell d4
        go_wp2_with fail
        refine (event_Plain 9 o m A n c l s _ (((hsX.ext hx4).ext hx5).ext hx6) hs).mono ?_
        rintro e w7 ⟨rfl, hx7⟩
        rw [plain_no HX.out]
        go_wp2_with fail
        refine (law5_known _).mono ?_
        rintro e w8 ⟨rfl, hx8⟩
        go_wp2_with fail
        go_ret
        exact ⟨rfl, ((((hxW.trans hx4).trans hx5).trans hx6).trans hx7).trans hx8⟩
      by_cases q1 : (bits BinOp.and IntKind.i64 x 255).tmod 5 = 1
      · skip
        have g0 : ((bits BinOp.and IntKind.i64 x 255).tmod 5 == 0) = false := by simpa using q0
        have g1 : ((bits BinOp.and IntKind.i64 x 255).tmod 5 == 1) = true := by simpa using q1
        clear q0 q1
        -- 4: the field, .string ⟨#[97]⟩: its value, w2: the world ahead of the store; then the event: k o m slice bytes text, the law
        go_enter Try.func10, Try.ntmps10
        go_wp2_with fail
        refine (ref_RightEvent 1 o m A n c s _ h63.1 hs).mono ?_
        rintro e w1 ⟨rfl, hx1⟩
        rw [HR.out]
        have ec0 : w1.cell? ⟨w.heap.size, 0, none⟩ = some (.int .i64 1) := hx1.cell (cell_new w _ _ 0)
        have ec1 : w1.cell? ⟨w.heap.size, 1, none⟩ = some (.int .i64 o) := hx1.cell (cell_new w _ _ 1)
        have ec2 : w1.cell? ⟨w.heap.size, 2, none⟩ = some (.int .i64 m) := hx1.cell (cell_new w _ _ 2)
        have ec3 : w1.cell? ⟨w.heap.size, 3, none⟩ = some (.slice A n c) := hx1.cell (cell_new w _ _ 3)
        have ec4 : w1.cell? ⟨w.heap.size, 4, none⟩ = some (.string s) := hx1.cell (cell_new w _ _ 4)
        have hx := (Ext.alloc w (.cells #[.int .i64 1, .int .i64 o, .int .i64 m, .slice A n c, .string s] 28)).trans hx1
        have hlt := World.block_lt_of_cell? _ _ ec0
        clear hx1
        go_wp2_with fail
        refine (ref_Plain 1 o m A n c s _ h63.1 hs).mono ?_
        rintro e w2 ⟨rfl, hx2⟩
        rw [HPL.out]
        replace ec0 := hx2.cell ((Ext.alloc _ _).cell ec0)
        have d0 : w2.cell? ⟨w1.heap.size, 0, none⟩ = some (.int .i64 1) := hx2.cell (cell_new w1 _ _ 0)
        replace ec1 := hx2.cell ((Ext.alloc _ _).cell ec1)
        have d1 : w2.cell? ⟨w1.heap.size, 1, none⟩ = some (.int .i64 o) := hx2.cell (cell_new w1 _ _ 1)
        replace ec2 := hx2.cell ((Ext.alloc _ _).cell ec2)
        have d2 : w2.cell? ⟨w1.heap.size, 2, none⟩ = some (.int .i64 m) := hx2.cell (cell_new w1 _ _ 2)
        replace ec3 := hx2.cell ((Ext.alloc _ _).cell ec3)
        have d3 : w2.cell? ⟨w1.heap.size, 3, none⟩ = some (.slice A n c) := hx2.cell (cell_new w1 _ _ 3)
        replace ec4 := hx2.cell ((Ext.alloc _ _).cell ec4)
        have d4 : w2.cell? ⟨w1.heap.size, 4, none⟩ = some (.string s) := hx2.cell (cell_new w1 _ _ 4)
        have hlt2 := World.block_lt_of_cell? _ _ d0
        replace hx := (hx.trans (Ext.alloc w1 _)).trans hx2
        have f4 : w2.frozen? ⟨w1.heap.size, 4, none⟩ = false := hx2.frozenF (cell_new w1 _ _ 4) (fr_new w1 _ _ 4)
        clear hx2
        go_wp2_with fail
        obtain ⟨W, hW⟩ : ∃ W, W = ((w2).setCell ⟨w1.heap.size, 4, none⟩ (.string ⟨#[97]⟩)) := ⟨_, rfl⟩
        have hxb : Ext w2 (w2) := by (repeat (first | (with_reducible exact Ext.refl _) | (with_reducible assumption) | (with_reducible refine Ext.draws ?_) | (with_reducible refine Ext.allocs ?_ _) | (with_reducible refine Ext.sets ?_ ?_ _) | (with_reducible exact Nat.le_refl _) | (exact (by simp)) | (exact (by simp; omega))))
        have hsW := hsl.ext (hx.trans hxb)
        have hxW : Ext w W := by rw [hW]; first | exact (hx.trans hxb).sets (by simp; omega) _ | exact ((hx.trans hxb).sets (by simp; omega) _).allocs _
        replace ec0 : W.cell? ⟨w.heap.size, 0, none⟩ = some (.int .i64 1) := by rw [hW]; first | exact (cell_set_ne _ _ _ _ _ _ (by omega)).trans (hxb.cell ec0) | exact (Ext.alloc _ _).cell ((cell_set_ne _ _ _ _ _ _ (by omega)).trans (hxb.cell ec0))
        replace d0 : W.cell? ⟨w1.heap.size, 0, none⟩ = some (.int .i64 1) := by rw [hW]; first | exact (cell_set_ne _ _ _ _ _ _ (by omega)).trans (hxb.cell d0) | exact World.cell?_setCell_same _ _ _ (hxb.cell d0) | exact (Ext.alloc _ _).cell ((cell_set_ne _ _ _ _ _ _ (by omega)).trans (hxb.cell d0)) | exact (Ext.alloc _ _).cell (World.cell?_setCell_same _ _ _ (hxb.cell d0))
        replace ec1 : W.cell? ⟨w.heap.size, 1, none⟩ = some (.int .i64 o) := by rw [hW]; first | exact (cell_set_ne _ _ _ _ _ _ (by omega)).trans (hxb.cell ec1) | exact (Ext.alloc _ _).cell ((cell_set_ne _ _ _ _ _ _ (by omega)).trans (hxb.cell ec1))
        replace d1 : W.cell? ⟨w1.heap.size, 1, none⟩ = some (.int .i64 o) := by rw [hW]; first | exact (cell_set_ne _ _ _ _ _ _ (by omega)).trans (hxb.cell d1) | exact World.cell?_setCell_same _ _ _ (hxb.cell d1) | exact (Ext.alloc _ _).cell ((cell_set_ne _ _ _ _ _ _ (by omega)).trans (hxb.cell d1)) | exact (Ext.alloc _ _).cell (World.cell?_setCell_same _ _ _ (hxb.cell d1))
        replace ec2 : W.cell? ⟨w.heap.size, 2, none⟩ = some (.int .i64 m) := by rw [hW]; first | exact (cell_set_ne _ _ _ _ _ _ (by omega)).trans (hxb.cell ec2) | exact (Ext.alloc _ _).cell ((cell_set_ne _ _ _ _ _ _ (by omega)).trans (hxb.cell ec2))
        replace d2 : W.cell? ⟨w1.heap.size, 2, none⟩ = some (.int .i64 m) := by rw [hW]; first | exact (cell_set_ne _ _ _ _ _ _ (by omega)).trans (hxb.cell d2) | exact World.cell?_setCell_same _ _ _ (hxb.cell d2) | exact (Ext.alloc _ _).cell ((cell_set_ne _ _ _ _ _ _ (by omega)).trans (hxb.cell d2)) | exact (Ext.alloc _ _).cell (World.cell?_setCell_same _ _ _ (hxb.cell d2))
        replace ec3 : W.cell? ⟨w.heap.size, 3, none⟩ = some (.slice A n c) := by rw [hW]; first | exact (cell_set_ne _ _ _ _ _ _ (by omega)).trans (hxb.cell ec3) | exact (Ext.alloc _ _).cell ((cell_set_ne _ _ _ _ _ _ (by omega)).trans (hxb.cell ec3))
        replace d3 : W.cell? ⟨w1.heap.size, 3, none⟩ = some (.slice A n c) := by rw [hW]; first | exact (cell_set_ne _ _ _ _ _ _ (by omega)).trans (hxb.cell d3) | exact World.cell?_setCell_same _ _ _ (hxb.cell d3) | exact (Ext.alloc _ _).cell ((cell_set_ne _ _ _ _ _ _ (by omega)).trans (hxb.cell d3)) | exact (Ext.alloc _ _).cell (World.cell?_setCell_same _ _ _ (hxb.cell d3))
        replace ec4 : W.cell? ⟨w.heap.size, 4, none⟩ = some (.string s) := by rw [hW]; first | exact (cell_set_ne _ _ _ _ _ _ (by omega)).trans (hxb.cell ec4) | exact (Ext.alloc _ _).cell ((cell_set_ne _ _ _ _ _ _ (by omega)).trans (hxb.cell ec4))
        replace d4 : W.cell? ⟨w1.heap.size, 4, none⟩ = some (.string ⟨#[97]⟩) := by rw [hW]; first | exact (cell_set_ne _ _ _ _ _ _ (by omega)).trans (hxb.cell d4) | exact World.cell?_setCell_same _ _ _ (hxb.cell d4) | exact (Ext.alloc _ _).cell ((cell_set_ne _ _ _ _ _ _ (by omega)).trans (hxb.cell d4)) | exact (Ext.alloc _ _).cell (World.cell?_setCell_same _ _ _ (hxb.cell d4))
        rw [← hW]
        have hsX : Sl W A n c l := by rw [hW]; exact hsW.keepBlk (fun ad ea hn => Below.heap_setCell _ _ _ _ (by have := hsl.blk ad ea hn; show ad.block ≠ w1.heap.size; omega))
        have hsE := hsl.ext hxW
        have HX := Lib.hid (turn_1 (k := 1) (o := o) (m := m) (n := n) (by omega))
        have HXL : Hid ((if false then putE 1 o m l ⟨#[97]⟩ else []) = ([] : List UInt8)) := rfl
        clear hW hxb hsW f4 hlt2 hlt hx
        refine (event_Put 1 o m A n c l ⟨#[97]⟩ _ hsX (by simp [maxLen, ByteArray.size]) HX HXL).mono ?_
        rintro e w4 ⟨A4, n4, c4, rfl, hb4, hx4⟩
        replace ec0 := hx4.cell ec0
        replace d0 := hx4.cell d0
        replace ec1 := hx4.cell ec1
        replace d1 := hx4.cell d1
        replace ec2 := hx4.cell ec2
        replace d2 := hx4.cell d2
        replace ec3 := hx4.cell ec3
        replace d3 := hx4.cell d3
        replace ec4 := hx4.cell ec4
        replace d4 := hx4.cell d4
        go_wp2_with fail
        refine (event_Right 1 o m A n c l s _ (hsE.ext hx4) hs).mono ?_
        rintro e w5 ⟨rfl, hx5⟩
        rw [HR.out]
        replace d0 := hx5.cell d0
        replace d1 := hx5.cell d1
        replace d2 := hx5.cell d2
        replace d3 := hx5.cell d3
        replace d4 := hx5.cell d4
        go_wp2_with fail
        refine (event_Right 1 o m A n c l ⟨#[97]⟩ _ ((hsX.ext hx4).ext hx5) (by simp [maxLen, ByteArray.size])).mono ?_
        rintro e w6 ⟨rfl, hx6⟩
        rw [HX.out]
        replace d0 := hx6.cell d0
        replace d1 := hx6.cell d1
        replace d2 := hx6.cell d2
        replace d3 := hx6.cell d3
        replace d4 := hx6.cell d4
        go_wp2_with fail
        refine (event_Plain 1 o m A n c l ⟨#[97]⟩ _ (((hsX.ext hx4).ext hx5).ext hx6) (by simp [maxLen, ByteArray.size])).mono ?_
        rintro e w7 ⟨rfl, hx7⟩
        rw [plain_no HX.out]
        go_wp2_with fail
        refine (law5_known _).mono ?_
        rintro e w8 ⟨rfl, hx8⟩
        go_wp2_with fail
        go_ret
        exact ⟨rfl, ((((hxW.trans hx4).trans hx5).trans hx6).trans hx7).trans hx8⟩
      by_cases q2 : (bits BinOp.and IntKind.i64 x 255).tmod 5 = 2
      · skip
        have g0 : ((bits BinOp.and IntKind.i64 x 255).tmod 5 == 0) = false := by simpa using q0
        have g1 : ((bits BinOp.and IntKind.i64 x 255).tmod 5 == 1) = false := by simpa using q1
        have g2 : ((bits BinOp.and IntKind.i64 x 255).tmod 5 == 2) = true := by simpa using q2
        clear q0 q1 q2
        go_enter Try.func10, Try.ntmps10
        go_wp2_with fail
        refine (ref_RightEvent 1 o m A n c s _ h63.1 hs).mono ?_
        rintro e w1 ⟨rfl, hx1⟩
        rw [HR.out]
        have ec0 : w1.cell? ⟨w.heap.size, 0, none⟩ = some (.int .i64 1) := hx1.cell (cell_new w _ _ 0)
        have ec1 : w1.cell? ⟨w.heap.size, 1, none⟩ = some (.int .i64 o) := hx1.cell (cell_new w _ _ 1)
        have ec2 : w1.cell? ⟨w.heap.size, 2, none⟩ = some (.int .i64 m) := hx1.cell (cell_new w _ _ 2)
        have ec3 : w1.cell? ⟨w.heap.size, 3, none⟩ = some (.slice A n c) := hx1.cell (cell_new w _ _ 3)
        have ec4 : w1.cell? ⟨w.heap.size, 4, none⟩ = some (.string s) := hx1.cell (cell_new w _ _ 4)
        have hx := (Ext.alloc w (.cells #[.int .i64 1, .int .i64 o, .int .i64 m, .slice A n c, .string s] 28)).trans hx1
        have hlt := World.block_lt_of_cell? _ _ ec0
        clear hx1
        go_wp2_with fail
        refine (ref_Plain 1 o m A n c s _ h63.1 hs).mono ?_
        rintro e w2 ⟨rfl, hx2⟩
        rw [HPL.out]
        replace ec0 := hx2.cell ((Ext.alloc _ _).cell ec0)
        have d0 : w2.cell? ⟨w1.heap.size, 0, none⟩ = some (.int .i64 1) := hx2.cell (cell_new w1 _ _ 0)
        replace ec1 := hx2.cell ((Ext.alloc _ _).cell ec1)
        have d1 : w2.cell? ⟨w1.heap.size, 1, none⟩ = some (.int .i64 o) := hx2.cell (cell_new w1 _ _ 1)
        replace ec2 := hx2.cell ((Ext.alloc _ _).cell ec2)
        have d2 : w2.cell? ⟨w1.heap.size, 2, none⟩ = some (.int .i64 m) := hx2.cell (cell_new w1 _ _ 2)
        replace ec3 := hx2.cell ((Ext.alloc _ _).cell ec3)
        have d3 : w2.cell? ⟨w1.heap.size, 3, none⟩ = some (.slice A n c) := hx2.cell (cell_new w1 _ _ 3)
        replace ec4 := hx2.cell ((Ext.alloc _ _).cell ec4)
        have d4 : w2.cell? ⟨w1.heap.size, 4, none⟩ = some (.string s) := hx2.cell (cell_new w1 _ _ 4)
        have hlt2 := World.block_lt_of_cell? _ _ d0
        replace hx := (hx.trans (Ext.alloc w1 _)).trans hx2
        clear hx2
        go_wp2_with fail
        refine (law5_known _).mono ?_
        rintro e w4 ⟨rfl, hx4⟩
        go_wp2_with fail
        go_ret
        exact ⟨rfl, hx.trans hx4⟩
      by_cases q3 : (bits BinOp.and IntKind.i64 x 255).tmod 5 = 3
      · skip
        have g0 : ((bits BinOp.and IntKind.i64 x 255).tmod 5 == 0) = false := by simpa using q0
        have g1 : ((bits BinOp.and IntKind.i64 x 255).tmod 5 == 1) = false := by simpa using q1
        have g2 : ((bits BinOp.and IntKind.i64 x 255).tmod 5 == 2) = false := by simpa using q2
        have g3 : ((bits BinOp.and IntKind.i64 x 255).tmod 5 == 3) = true := by simpa using q3
        clear q0 q1 q2 q3
        go_enter Try.func10, Try.ntmps10
        go_wp2_with fail
        refine (ref_RightEvent 1 o m A n c s _ h63.1 hs).mono ?_
        rintro e w1 ⟨rfl, hx1⟩
        rw [HR.out]
        have ec0 : w1.cell? ⟨w.heap.size, 0, none⟩ = some (.int .i64 1) := hx1.cell (cell_new w _ _ 0)
        have ec1 : w1.cell? ⟨w.heap.size, 1, none⟩ = some (.int .i64 o) := hx1.cell (cell_new w _ _ 1)
        have ec2 : w1.cell? ⟨w.heap.size, 2, none⟩ = some (.int .i64 m) := hx1.cell (cell_new w _ _ 2)
        have ec3 : w1.cell? ⟨w.heap.size, 3, none⟩ = some (.slice A n c) := hx1.cell (cell_new w _ _ 3)
        have ec4 : w1.cell? ⟨w.heap.size, 4, none⟩ = some (.string s) := hx1.cell (cell_new w _ _ 4)
        have hx := (Ext.alloc w (.cells #[.int .i64 1, .int .i64 o, .int .i64 m, .slice A n c, .string s] 28)).trans hx1
        have hlt := World.block_lt_of_cell? _ _ ec0
        clear hx1
        go_wp2_with fail
        refine (ref_Plain 1 o m A n c s _ h63.1 hs).mono ?_
        rintro e w2 ⟨rfl, hx2⟩
        rw [HPL.out]
        replace ec0 := hx2.cell ((Ext.alloc _ _).cell ec0)
        have d0 : w2.cell? ⟨w1.heap.size, 0, none⟩ = some (.int .i64 1) := hx2.cell (cell_new w1 _ _ 0)
        replace ec1 := hx2.cell ((Ext.alloc _ _).cell ec1)
        have d1 : w2.cell? ⟨w1.heap.size, 1, none⟩ = some (.int .i64 o) := hx2.cell (cell_new w1 _ _ 1)
        replace ec2 := hx2.cell ((Ext.alloc _ _).cell ec2)
        have d2 : w2.cell? ⟨w1.heap.size, 2, none⟩ = some (.int .i64 m) := hx2.cell (cell_new w1 _ _ 2)
        replace ec3 := hx2.cell ((Ext.alloc _ _).cell ec3)
        have d3 : w2.cell? ⟨w1.heap.size, 3, none⟩ = some (.slice A n c) := hx2.cell (cell_new w1 _ _ 3)
        replace ec4 := hx2.cell ((Ext.alloc _ _).cell ec4)
        have d4 : w2.cell? ⟨w1.heap.size, 4, none⟩ = some (.string s) := hx2.cell (cell_new w1 _ _ 4)
        have hlt2 := World.block_lt_of_cell? _ _ d0
        replace hx := (hx.trans (Ext.alloc w1 _)).trans hx2
        clear hx2
        go_wp2_with fail
        refine (law5_known _).mono ?_
        rintro e w4 ⟨rfl, hx4⟩
        go_wp2_with fail
        go_ret
        exact ⟨rfl, hx.trans hx4⟩
      have g0 : ((bits BinOp.and IntKind.i64 x 255).tmod 5 == 0) = false := by simpa using q0
      have g1 : ((bits BinOp.and IntKind.i64 x 255).tmod 5 == 1) = false := by simpa using q1
      have g2 : ((bits BinOp.and IntKind.i64 x 255).tmod 5 == 2) = false := by simpa using q2
      have g3 : ((bits BinOp.and IntKind.i64 x 255).tmod 5 == 3) = false := by simpa using q3
      clear q0 q1 q2 q3
      -- 2: the field, .int .i64 1: its value, w2: the world ahead of the store; then the event: k o m slice bytes text, the law
      go_enter Try.func10, Try.ntmps10
      go_wp2_with fail
      refine (ref_RightEvent 1 o m A n c s _ h63.1 hs).mono ?_
      rintro e w1 ⟨rfl, hx1⟩
      rw [HR.out]
      have ec0 : w1.cell? ⟨w.heap.size, 0, none⟩ = some (.int .i64 1) := hx1.cell (cell_new w _ _ 0)
      have ec1 : w1.cell? ⟨w.heap.size, 1, none⟩ = some (.int .i64 o) := hx1.cell (cell_new w _ _ 1)
      have ec2 : w1.cell? ⟨w.heap.size, 2, none⟩ = some (.int .i64 m) := hx1.cell (cell_new w _ _ 2)
      have ec3 : w1.cell? ⟨w.heap.size, 3, none⟩ = some (.slice A n c) := hx1.cell (cell_new w _ _ 3)
      have ec4 : w1.cell? ⟨w.heap.size, 4, none⟩ = some (.string s) := hx1.cell (cell_new w _ _ 4)
      have hx := (Ext.alloc w (.cells #[.int .i64 1, .int .i64 o, .int .i64 m, .slice A n c, .string s] 28)).trans hx1
      have hlt := World.block_lt_of_cell? _ _ ec0
      clear hx1
      go_wp2_with fail
      refine (ref_Plain 1 o m A n c s _ h63.1 hs).mono ?_
      rintro e w2 ⟨rfl, hx2⟩
      rw [HPL.out]
      replace ec0 := hx2.cell ((Ext.alloc _ _).cell ec0)
      have d0 : w2.cell? ⟨w1.heap.size, 0, none⟩ = some (.int .i64 1) := hx2.cell (cell_new w1 _ _ 0)
      replace ec1 := hx2.cell ((Ext.alloc _ _).cell ec1)
      have d1 : w2.cell? ⟨w1.heap.size, 1, none⟩ = some (.int .i64 o) := hx2.cell (cell_new w1 _ _ 1)
      replace ec2 := hx2.cell ((Ext.alloc _ _).cell ec2)
      have d2 : w2.cell? ⟨w1.heap.size, 2, none⟩ = some (.int .i64 m) := hx2.cell (cell_new w1 _ _ 2)
      replace ec3 := hx2.cell ((Ext.alloc _ _).cell ec3)
      have d3 : w2.cell? ⟨w1.heap.size, 3, none⟩ = some (.slice A n c) := hx2.cell (cell_new w1 _ _ 3)
      replace ec4 := hx2.cell ((Ext.alloc _ _).cell ec4)
      have d4 : w2.cell? ⟨w1.heap.size, 4, none⟩ = some (.string s) := hx2.cell (cell_new w1 _ _ 4)
      have hlt2 := World.block_lt_of_cell? _ _ d0
      replace hx := (hx.trans (Ext.alloc w1 _)).trans hx2
      have f2 : w2.frozen? ⟨w1.heap.size, 2, none⟩ = false := hx2.frozenF (cell_new w1 _ _ 2) (fr_new w1 _ _ 2)
      clear hx2
      go_wp2_with fail
      obtain ⟨W, hW⟩ : ∃ W, W = ((w2).setCell ⟨w1.heap.size, 2, none⟩ (.int .i64 1)) := ⟨_, rfl⟩
      have hxb : Ext w2 (w2) := by (repeat (first | (with_reducible exact Ext.refl _) | (with_reducible assumption) | (with_reducible refine Ext.draws ?_) | (with_reducible refine Ext.allocs ?_ _) | (with_reducible refine Ext.sets ?_ ?_ _) | (with_reducible exact Nat.le_refl _) | (exact (by simp)) | (exact (by simp; omega))))
      have hsW := hsl.ext (hx.trans hxb)
      have hxW : Ext w W := by rw [hW]; first | exact (hx.trans hxb).sets (by simp; omega) _ | exact ((hx.trans hxb).sets (by simp; omega) _).allocs _
      replace ec0 : W.cell? ⟨w.heap.size, 0, none⟩ = some (.int .i64 1) := by rw [hW]; first | exact (cell_set_ne _ _ _ _ _ _ (by omega)).trans (hxb.cell ec0) | exact (Ext.alloc _ _).cell ((cell_set_ne _ _ _ _ _ _ (by omega)).trans (hxb.cell ec0))
      replace d0 : W.cell? ⟨w1.heap.size, 0, none⟩ = some (.int .i64 1) := by rw [hW]; first | exact (cell_set_ne _ _ _ _ _ _ (by omega)).trans (hxb.cell d0) | exact World.cell?_setCell_same _ _ _ (hxb.cell d0) | exact (Ext.alloc _ _).cell ((cell_set_ne _ _ _ _ _ _ (by omega)).trans (hxb.cell d0)) | exact (Ext.alloc _ _).cell (World.cell?_setCell_same _ _ _ (hxb.cell d0))
      replace ec1 : W.cell? ⟨w.heap.size, 1, none⟩ = some (.int .i64 o) := by rw [hW]; first | exact (cell_set_ne _ _ _ _ _ _ (by omega)).trans (hxb.cell ec1) | exact (Ext.alloc _ _).cell ((cell_set_ne _ _ _ _ _ _ (by omega)).trans (hxb.cell ec1))
      replace d1 : W.cell? ⟨w1.heap.size, 1, none⟩ = some (.int .i64 o) := by rw [hW]; first | exact (cell_set_ne _ _ _ _ _ _ (by omega)).trans (hxb.cell d1) | exact World.cell?_setCell_same _ _ _ (hxb.cell d1) | exact (Ext.alloc _ _).cell ((cell_set_ne _ _ _ _ _ _ (by omega)).trans (hxb.cell d1)) | exact (Ext.alloc _ _).cell (World.cell?_setCell_same _ _ _ (hxb.cell d1))
      replace ec2 : W.cell? ⟨w.heap.size, 2, none⟩ = some (.int .i64 m) := by rw [hW]; first | exact (cell_set_ne _ _ _ _ _ _ (by omega)).trans (hxb.cell ec2) | exact (Ext.alloc _ _).cell ((cell_set_ne _ _ _ _ _ _ (by omega)).trans (hxb.cell ec2))
      replace d2 : W.cell? ⟨w1.heap.size, 2, none⟩ = some (.int .i64 1) := by rw [hW]; first | exact (cell_set_ne _ _ _ _ _ _ (by omega)).trans (hxb.cell d2) | exact World.cell?_setCell_same _ _ _ (hxb.cell d2) | exact (Ext.alloc _ _).cell ((cell_set_ne _ _ _ _ _ _ (by omega)).trans (hxb.cell d2)) | exact (Ext.alloc _ _).cell (World.cell?_setCell_same _ _ _ (hxb.cell d2))
      replace ec3 : W.cell? ⟨w.heap.size, 3, none⟩ = some (.slice A n c) := by rw [hW]; first | exact (cell_set_ne _ _ _ _ _ _ (by omega)).trans (hxb.cell ec3) | exact (Ext.alloc _ _).cell ((cell_set_ne _ _ _ _ _ _ (by omega)).trans (hxb.cell ec3))
      replace d3 : W.cell? ⟨w1.heap.size, 3, none⟩ = some (.slice A n c) := by rw [hW]; first | exact (cell_set_ne _ _ _ _ _ _ (by omega)).trans (hxb.cell d3) | exact World.cell?_setCell_same _ _ _ (hxb.cell d3) | exact (Ext.alloc _ _).cell ((cell_set_ne _ _ _ _ _ _ (by omega)).trans (hxb.cell d3)) | exact (Ext.alloc _ _).cell (World.cell?_setCell_same _ _ _ (hxb.cell d3))
      replace ec4 : W.cell? ⟨w.heap.size, 4, none⟩ = some (.string s) := by rw [hW]; first | exact (cell_set_ne _ _ _ _ _ _ (by omega)).trans (hxb.cell ec4) | exact (Ext.alloc _ _).cell ((cell_set_ne _ _ _ _ _ _ (by omega)).trans (hxb.cell ec4))
      replace d4 : W.cell? ⟨w1.heap.size, 4, none⟩ = some (.string s) := by rw [hW]; first | exact (cell_set_ne _ _ _ _ _ _ (by omega)).trans (hxb.cell d4) | exact World.cell?_setCell_same _ _ _ (hxb.cell d4) | exact (Ext.alloc _ _).cell ((cell_set_ne _ _ _ _ _ _ (by omega)).trans (hxb.cell d4)) | exact (Ext.alloc _ _).cell (World.cell?_setCell_same _ _ _ (hxb.cell d4))
      rw [← hW]
      have hsX : Sl W A n c l := by rw [hW]; exact hsW.keepBlk (fun ad ea hn => Below.heap_setCell _ _ _ _ (by have := hsl.blk ad ea hn; show ad.block ≠ w1.heap.size; omega))
      have hsE := hsl.ext hxW
      have HX := Lib.hid (turn_4 (k := 1) (o := o) (n := n) (s := s) (by omega))
      have HXL : Hid ((if false then putE 1 o 1 l s else []) = ([] : List UInt8)) := rfl
      clear hW hxb hsW f2 hlt2 hlt hx
      refine (event_Put 1 o 1 A n c l s _ hsX hs HX HXL).mono ?_
      rintro e w4 ⟨A4, n4, c4, rfl, hb4, hx4⟩
      replace ec0 := hx4.cell ec0
      replace d0 := hx4.cell d0
      replace ec1 := hx4.cell ec1
      replace d1 := hx4.cell d1
      replace ec2 := hx4.cell ec2
      replace d2 := hx4.cell d2
      replace ec3 := hx4.cell ec3
      replace d3 := hx4.cell d3
      replace ec4 := hx4.cell ec4
      replace d4 := hx4.cell d4
      go_wp2_with fail
      refine (event_Right 1 o m A n c l s _ (hsE.ext hx4) hs).mono ?_
      rintro e w5 ⟨rfl, hx5⟩
      rw [HR.out]
      replace d0 := hx5.cell d0
      replace d1 := hx5.cell d1
      replace d2 := hx5.cell d2
      replace d3 := hx5.cell d3
      replace d4 := hx5.cell d4
      go_wp2_with fail
      refine (event_Right 1 o 1 A n c l s _ ((hsX.ext hx4).ext hx5) hs).mono ?_
      rintro e w6 ⟨rfl, hx6⟩
      rw [HX.out]
      replace d0 := hx6.cell d0
      replace d1 := hx6.cell d1
      replace d2 := hx6.cell d2
      replace d3 := hx6.cell d3
      replace d4 := hx6.cell d4
      go_wp2_with fail
      refine (event_Plain 1 o 1 A n c l s _ (((hsX.ext hx4).ext hx5).ext hx6) hs).mono ?_
      rintro e w7 ⟨rfl, hx7⟩
      rw [plain_no HX.out]
      go_wp2_with fail
      refine (law5_known _).mono ?_
      rintro e w8 ⟨rfl, hx8⟩
      go_wp2_with fail
      go_ret
      exact ⟨rfl, ((((hxW.trans hx4).trans hx5).trans hx6).trans hx7).trans hx8⟩
    · obtain rfl : pl = true := by rw [hplk]; rfl
      clear hplk
      by_cases q0 : (bits BinOp.and IntKind.i64 x 255).tmod 5 = 0
      · skip
        have g0 : ((bits BinOp.and IntKind.i64 x 255).tmod 5 == 0) = true := by simpa using q0
        clear q0
        -- 0: the field, .int .i64 9: its value, w2: the world ahead of the store; then the event: k o m slice bytes text, the law
        go_enter Try.func10, Try.ntmps10
        go_wp2_with fail
        refine (ref_RightEvent 2 o m A n c s _ h63.1 hs).mono ?_
        rintro e w1 ⟨rfl, hx1⟩
        rw [HR.out]
        have ec0 : w1.cell? ⟨w.heap.size, 0, none⟩ = some (.int .i64 2) := hx1.cell (cell_new w _ _ 0)
        have ec1 : w1.cell? ⟨w.heap.size, 1, none⟩ = some (.int .i64 o) := hx1.cell (cell_new w _ _ 1)
        have ec2 : w1.cell? ⟨w.heap.size, 2, none⟩ = some (.int .i64 m) := hx1.cell (cell_new w _ _ 2)
        have ec3 : w1.cell? ⟨w.heap.size, 3, none⟩ = some (.slice A n c) := hx1.cell (cell_new w _ _ 3)
        have ec4 : w1.cell? ⟨w.heap.size, 4, none⟩ = some (.string s) := hx1.cell (cell_new w _ _ 4)
        have hx := (Ext.alloc w (.cells #[.int .i64 2, .int .i64 o, .int .i64 m, .slice A n c, .string s] 28)).trans hx1
        have hlt := World.block_lt_of_cell? _ _ ec0
        clear hx1
        go_wp2_with fail
        refine (ref_Plain 2 o m A n c s _ h63.1 hs).mono ?_
        rintro e w2 ⟨rfl, hx2⟩
        rw [HPL.out]
        replace ec0 := hx2.cell ((Ext.alloc _ _).cell ec0)
        have d0 : w2.cell? ⟨w1.heap.size, 0, none⟩ = some (.int .i64 2) := hx2.cell (cell_new w1 _ _ 0)
        replace ec1 := hx2.cell ((Ext.alloc _ _).cell ec1)
        have d1 : w2.cell? ⟨w1.heap.size, 1, none⟩ = some (.int .i64 o) := hx2.cell (cell_new w1 _ _ 1)
        replace ec2 := hx2.cell ((Ext.alloc _ _).cell ec2)
        have d2 : w2.cell? ⟨w1.heap.size, 2, none⟩ = some (.int .i64 m) := hx2.cell (cell_new w1 _ _ 2)
        replace ec3 := hx2.cell ((Ext.alloc _ _).cell ec3)
        have d3 : w2.cell? ⟨w1.heap.size, 3, none⟩ = some (.slice A n c) := hx2.cell (cell_new w1 _ _ 3)
        replace ec4 := hx2.cell ((Ext.alloc _ _).cell ec4)
        have d4 : w2.cell? ⟨w1.heap.size, 4, none⟩ = some (.string s) := hx2.cell (cell_new w1 _ _ 4)
        have hlt2 := World.block_lt_of_cell? _ _ d0
        replace hx := (hx.trans (Ext.alloc w1 _)).trans hx2
        have f0 : w2.frozen? ⟨w1.heap.size, 0, none⟩ = false := hx2.frozenF (cell_new w1 _ _ 0) (fr_new w1 _ _ 0)
        clear hx2
        go_wp2_with fail
        obtain ⟨W, hW⟩ : ∃ W, W = ((w2).setCell ⟨w1.heap.size, 0, none⟩ (.int .i64 9)) := ⟨_, rfl⟩
        have hxb : Ext w2 (w2) := by (repeat (first | (with_reducible exact Ext.refl _) | (with_reducible assumption) | (with_reducible refine Ext.draws ?_) | (with_reducible refine Ext.allocs ?_ _) | (with_reducible refine Ext.sets ?_ ?_ _) | (with_reducible exact Nat.le_refl _) | (exact (by simp)) | (exact (by simp; omega))))
        have hsW := hsl.ext (hx.trans hxb)
        have hxW : Ext w W := by rw [hW]; first | exact (hx.trans hxb).sets (by simp; omega) _ | exact ((hx.trans hxb).sets (by simp; omega) _).allocs _
        replace ec0 : W.cell? ⟨w.heap.size, 0, none⟩ = some (.int .i64 2) := by rw [hW]; first | exact (cell_set_ne _ _ _ _ _ _ (by omega)).trans (hxb.cell ec0) | exact (Ext.alloc _ _).cell ((cell_set_ne _ _ _ _ _ _ (by omega)).trans (hxb.cell ec0))
        replace d0 : W.cell? ⟨w1.heap.size, 0, none⟩ = some (.int .i64 9) := by rw [hW]; first | exact (cell_set_ne _ _ _ _ _ _ (by omega)).trans (hxb.cell d0) | exact World.cell?_setCell_same _ _ _ (hxb.cell d0) | exact (Ext.alloc _ _).cell ((cell_set_ne _ _ _ _ _ _ (by omega)).trans (hxb.cell d0)) | exact (Ext.alloc _ _).cell (World.cell?_setCell_same _ _ _ (hxb.cell d0))
        replace ec1 : W.cell? ⟨w.heap.size, 1, none⟩ = some (.int .i64 o) := by rw [hW]; first | exact (cell_set_ne _ _ _ _ _ _ (by omega)).trans (hxb.cell ec1) | exact (Ext.alloc _ _).cell ((cell_set_ne _ _ _ _ _ _ (by omega)).trans (hxb.cell ec1))
        replace d1 : W.cell? ⟨w1.heap.size, 1, none⟩ = some (.int .i64 o) := by rw [hW]; first | exact (cell_set_ne _ _ _ _ _ _ (by omega)).trans (hxb.cell d1) | exact World.cell?_setCell_same _ _ _ (hxb.cell d1) | exact (Ext.alloc _ _).cell ((cell_set_ne _ _ _ _ _ _ (by omega)).trans (hxb.cell d1)) | exact (Ext.alloc _ _).cell (World.cell?_setCell_same _ _ _ (hxb.cell d1))
        replace ec2 : W.cell? ⟨w.heap.size, 2, none⟩ = some (.int .i64 m) := by rw [hW]; first | exact (cell_set_ne _ _ _ _ _ _ (by omega)).trans (hxb.cell ec2) | exact (Ext.alloc _ _).cell ((cell_set_ne _ _ _ _ _ _ (by omega)).trans (hxb.cell ec2))
        replace d2 : W.cell? ⟨w1.heap.size, 2, none⟩ = some (.int .i64 m) := by rw [hW]; first | exact (cell_set_ne _ _ _ _ _ _ (by omega)).trans (hxb.cell d2) | exact World.cell?_setCell_same _ _ _ (hxb.cell d2) | exact (Ext.alloc _ _).cell ((cell_set_ne _ _ _ _ _ _ (by omega)).trans (hxb.cell d2)) | exact (Ext.alloc _ _).cell (World.cell?_setCell_same _ _ _ (hxb.cell d2))
        replace ec3 : W.cell? ⟨w.heap.size, 3, none⟩ = some (.slice A n c) := by rw [hW]; first | exact (cell_set_ne _ _ _ _ _ _ (by omega)).trans (hxb.cell ec3) | exact (Ext.alloc _ _).cell ((cell_set_ne _ _ _ _ _ _ (by omega)).trans (hxb.cell ec3))
        replace d3 : W.cell? ⟨w1.heap.size, 3, none⟩ = some (.slice A n c) := by rw [hW]; first | exact (cell_set_ne _ _ _ _ _ _ (by omega)).trans (hxb.cell d3) | exact World.cell?_setCell_same _ _ _ (hxb.cell d3) | exact (Ext.alloc _ _).cell ((cell_set_ne _ _ _ _ _ _ (by omega)).trans (hxb.cell d3)) | exact (Ext.alloc _ _).cell (World.cell?_setCell_same _ _ _ (hxb.cell d3))
        replace ec4 : W.cell? ⟨w.heap.size, 4, none⟩ = some (.string s) := by rw [hW]; first | exact (cell_set_ne _ _ _ _ _ _ (by omega)).trans (hxb.cell ec4) | exact (Ext.alloc _ _).cell ((cell_set_ne _ _ _ _ _ _ (by omega)).trans (hxb.cell ec4))
        replace d4 : W.cell? ⟨w1.heap.size, 4, none⟩ = some (.string s) := by rw [hW]; first | exact (cell_set_ne _ _ _ _ _ _ (by omega)).trans (hxb.cell d4) | exact World.cell?_setCell_same _ _ _ (hxb.cell d4) | exact (Ext.alloc _ _).cell ((cell_set_ne _ _ _ _ _ _ (by omega)).trans (hxb.cell d4)) | exact (Ext.alloc _ _).cell (World.cell?_setCell_same _ _ _ (hxb.cell d4))
        rw [← hW]
        have hsX : Sl W A n c l := by rw [hW]; exact hsW.keepBlk (fun ad ea hn => Below.heap_setCell _ _ _ _ (by have := hsl.blk ad ea hn; show ad.block ≠ w1.heap.size; omega))
        have hsE := hsl.ext hxW
        have HX := Lib.hid (turn_0 o m n s)
        have HXL : Hid ((if false then putE 9 o m l s else []) = ([] : List UInt8)) := rfl
        clear hW hxb hsW f0 hlt2 hlt hx
        refine (event_Put 9 o m A n c l s _ hsX hs HX HXL).mono ?_
        rintro e w4 ⟨A4, n4, c4, rfl, hb4, hx4⟩
        replace ec0 := hx4.cell ec0
        replace d0 := hx4.cell d0
        replace ec1 := hx4.cell ec1
        replace d1 := hx4.cell d1
        replace ec2 := hx4.cell ec2
        replace d2 := hx4.cell d2
        replace ec3 := hx4.cell ec3
        replace d3 := hx4.cell d3
        replace ec4 := hx4.cell ec4
        replace d4 := hx4.cell d4
        go_wp2_with fail
        refine (event_Right 2 o m A n c l s _ (hsE.ext hx4) hs).mono ?_
        rintro e w5 ⟨rfl, hx5⟩
        rw [HR.out]
        replace d0 := hx5.cell d0
        replace d1 := hx5.cell d1
        replace d2 := hx5.cell d2
        replace d3 := hx5.cell d3
        replace d4 := hx5.cell d4
        go_wp2_with fail
        refine (event_Right 9 o m A n c l s _ ((hsX.ext hx4).ext hx5) hs).mono ?_
        rintro e w6 ⟨rfl, hx6⟩
        rw [HX.out]
        replace d0 := hx6.cell d0
        replace d1 := hx6.cell d1
        replace d2 := hx6.cell d2
        replace d3 := hx6.cell d3
        replace d4 := hx6.cell d4
        go_wp2_with fail
        refine (event_Plain 9 o m A n c l s _ (((hsX.ext hx4).ext hx5).ext hx6) hs).mono ?_
        rintro e w7 ⟨rfl, hx7⟩
        rw [plain_no HX.out]
        go_wp2_with fail
        refine (law5_known _).mono ?_
        rintro e w8 ⟨rfl, hx8⟩
        go_wp2_with fail
        go_ret
        exact ⟨rfl, ((((hxW.trans hx4).trans hx5).trans hx6).trans hx7).trans hx8⟩
      by_cases q1 : (bits BinOp.and IntKind.i64 x 255).tmod 5 = 1
      · skip
        have g0 : ((bits BinOp.and IntKind.i64 x 255).tmod 5 == 0) = false := by simpa using q0
        have g1 : ((bits BinOp.and IntKind.i64 x 255).tmod 5 == 1) = true := by simpa using q1
        clear q0 q1
        -- 4: the field, .string ⟨#[97]⟩: its value, w2: the world ahead of the store; then the event: k o m slice bytes text, the law
        go_enter Try.func10, Try.ntmps10
        go_wp2_with fail
        refine (ref_RightEvent 2 o m A n c s _ h63.1 hs).mono ?_
        rintro e w1 ⟨rfl, hx1⟩
        rw [HR.out]
        have ec0 : w1.cell? ⟨w.heap.size, 0, none⟩ = some (.int .i64 2) := hx1.cell (cell_new w _ _ 0)
        have ec1 : w1.cell? ⟨w.heap.size, 1, none⟩ = some (.int .i64 o) := hx1.cell (cell_new w _ _ 1)
        have ec2 : w1.cell? ⟨w.heap.size, 2, none⟩ = some (.int .i64 m) := hx1.cell (cell_new w _ _ 2)
        have ec3 : w1.cell? ⟨w.heap.size, 3, none⟩ = some (.slice A n c) := hx1.cell (cell_new w _ _ 3)
        have ec4 : w1.cell? ⟨w.heap.size, 4, none⟩ = some (.string s) := hx1.cell (cell_new w _ _ 4)
        have hx := (Ext.alloc w (.cells #[.int .i64 2, .int .i64 o, .int .i64 m, .slice A n c, .string s] 28)).trans hx1
        have hlt := World.block_lt_of_cell? _ _ ec0
        clear hx1
        go_wp2_with fail
        refine (ref_Plain 2 o m A n c s _ h63.1 hs).mono ?_
        rintro e w2 ⟨rfl, hx2⟩
        rw [HPL.out]
        replace ec0 := hx2.cell ((Ext.alloc _ _).cell ec0)
        have d0 : w2.cell? ⟨w1.heap.size, 0, none⟩ = some (.int .i64 2) := hx2.cell (cell_new w1 _ _ 0)
        replace ec1 := hx2.cell ((Ext.alloc _ _).cell ec1)
        have d1 : w2.cell? ⟨w1.heap.size, 1, none⟩ = some (.int .i64 o) := hx2.cell (cell_new w1 _ _ 1)
        replace ec2 := hx2.cell ((Ext.alloc _ _).cell ec2)
        have d2 : w2.cell? ⟨w1.heap.size, 2, none⟩ = some (.int .i64 m) := hx2.cell (cell_new w1 _ _ 2)
        replace ec3 := hx2.cell ((Ext.alloc _ _).cell ec3)
        have d3 : w2.cell? ⟨w1.heap.size, 3, none⟩ = some (.slice A n c) := hx2.cell (cell_new w1 _ _ 3)
        replace ec4 := hx2.cell ((Ext.alloc _ _).cell ec4)
        have d4 : w2.cell? ⟨w1.heap.size, 4, none⟩ = some (.string s) := hx2.cell (cell_new w1 _ _ 4)
        have hlt2 := World.block_lt_of_cell? _ _ d0
        replace hx := (hx.trans (Ext.alloc w1 _)).trans hx2
        have f4 : w2.frozen? ⟨w1.heap.size, 4, none⟩ = false := hx2.frozenF (cell_new w1 _ _ 4) (fr_new w1 _ _ 4)
        clear hx2
        go_wp2_with fail
        obtain ⟨W, hW⟩ : ∃ W, W = ((w2).setCell ⟨w1.heap.size, 4, none⟩ (.string ⟨#[97]⟩)) := ⟨_, rfl⟩
        have hxb : Ext w2 (w2) := by (repeat (first | (with_reducible exact Ext.refl _) | (with_reducible assumption) | (with_reducible refine Ext.draws ?_) | (with_reducible refine Ext.allocs ?_ _) | (with_reducible refine Ext.sets ?_ ?_ _) | (with_reducible exact Nat.le_refl _) | (exact (by simp)) | (exact (by simp; omega))))
        have hsW := hsl.ext (hx.trans hxb)
        have hxW : Ext w W := by rw [hW]; first | exact (hx.trans hxb).sets (by simp; omega) _ | exact ((hx.trans hxb).sets (by simp; omega) _).allocs _
        replace ec0 : W.cell? ⟨w.heap.size, 0, none⟩ = some (.int .i64 2) := by rw [hW]; first | exact (cell_set_ne _ _ _ _ _ _ (by omega)).trans (hxb.cell ec0) | exact (Ext.alloc _ _).cell ((cell_set_ne _ _ _ _ _ _ (by omega)).trans (hxb.cell ec0))
        replace d0 : W.cell? ⟨w1.heap.size, 0, none⟩ = some (.int .i64 2) := by rw [hW]; first | exact (cell_set_ne _ _ _ _ _ _ (by omega)).trans (hxb.cell d0) | exact World.cell?_setCell_same _ _ _ (hxb.cell d0) | exact (Ext.alloc _ _).cell ((cell_set_ne _ _ _ _ _ _ (by omega)).trans (hxb.cell d0)) | exact (Ext.alloc _ _).cell (World.cell?_setCell_same _ _ _ (hxb.cell d0))
        replace ec1 : W.cell? ⟨w.heap.size, 1, none⟩ = some (.int .i64 o) := by rw [hW]; first | exact (cell_set_ne _ _ _ _ _ _ (by omega)).trans (hxb.cell ec1) | exact (Ext.alloc _ _).cell ((cell_set_ne _ _ _ _ _ _ (by omega)).trans (hxb.cell ec1))
        replace d1 : W.cell? ⟨w1.heap.size, 1, none⟩ = some (.int .i64 o) := by rw [hW]; first | exact (cell_set_ne _ _ _ _ _ _ (by omega)).trans (hxb.cell d1) | exact World.cell?_setCell_same _ _ _ (hxb.cell d1) | exact (Ext.alloc _ _).cell ((cell_set_ne _ _ _ _ _ _ (by omega)).trans (hxb.cell d1)) | exact (Ext.alloc _ _).cell (World.cell?_setCell_same _ _ _ (hxb.cell d1))
        replace ec2 : W.cell? ⟨w.heap.size, 2, none⟩ = some (.int .i64 m) := by rw [hW]; first | exact (cell_set_ne _ _ _ _ _ _ (by omega)).trans (hxb.cell ec2) | exact (Ext.alloc _ _).cell ((cell_set_ne _ _ _ _ _ _ (by omega)).trans (hxb.cell ec2))
        replace d2 : W.cell? ⟨w1.heap.size, 2, none⟩ = some (.int .i64 m) := by rw [hW]; first | exact (cell_set_ne _ _ _ _ _ _ (by omega)).trans (hxb.cell d2) | exact World.cell?_setCell_same _ _ _ (hxb.cell d2) | exact (Ext.alloc _ _).cell ((cell_set_ne _ _ _ _ _ _ (by omega)).trans (hxb.cell d2)) | exact (Ext.alloc _ _).cell (World.cell?_setCell_same _ _ _ (hxb.cell d2))
        replace ec3 : W.cell? ⟨w.heap.size, 3, none⟩ = some (.slice A n c) := by rw [hW]; first | exact (cell_set_ne _ _ _ _ _ _ (by omega)).trans (hxb.cell ec3) | exact (Ext.alloc _ _).cell ((cell_set_ne _ _ _ _ _ _ (by omega)).trans (hxb.cell ec3))
        replace d3 : W.cell? ⟨w1.heap.size, 3, none⟩ = some (.slice A n c) := by rw [hW]; first | exact (cell_set_ne _ _ _ _ _ _ (by omega)).trans (hxb.cell d3) | exact World.cell?_setCell_same _ _ _ (hxb.cell d3) | exact (Ext.alloc _ _).cell ((cell_set_ne _ _ _ _ _ _ (by omega)).trans (hxb.cell d3)) | exact (Ext.alloc _ _).cell (World.cell?_setCell_same _ _ _ (hxb.cell d3))
        replace ec4 : W.cell? ⟨w.heap.size, 4, none⟩ = some (.string s) := by rw [hW]; first | exact (cell_set_ne _ _ _ _ _ _ (by omega)).trans (hxb.cell ec4) | exact (Ext.alloc _ _).cell ((cell_set_ne _ _ _ _ _ _ (by omega)).trans (hxb.cell ec4))
        replace d4 : W.cell? ⟨w1.heap.size, 4, none⟩ = some (.string ⟨#[97]⟩) := by rw [hW]; first | exact (cell_set_ne _ _ _ _ _ _ (by omega)).trans (hxb.cell d4) | exact World.cell?_setCell_same _ _ _ (hxb.cell d4) | exact (Ext.alloc _ _).cell ((cell_set_ne _ _ _ _ _ _ (by omega)).trans (hxb.cell d4)) | exact (Ext.alloc _ _).cell (World.cell?_setCell_same _ _ _ (hxb.cell d4))
        rw [← hW]
        have hsX : Sl W A n c l := by rw [hW]; exact hsW.keepBlk (fun ad ea hn => Below.heap_setCell _ _ _ _ (by have := hsl.blk ad ea hn; show ad.block ≠ w1.heap.size; omega))
        have hsE := hsl.ext hxW
        have HX := Lib.hid (turn_1 (k := 2) (o := o) (m := m) (n := n) (by omega))
        have HXL : Hid ((if false then putE 2 o m l ⟨#[97]⟩ else []) = ([] : List UInt8)) := rfl
        clear hW hxb hsW f4 hlt2 hlt hx
        refine (event_Put 2 o m A n c l ⟨#[97]⟩ _ hsX (by simp [maxLen, ByteArray.size]) HX HXL).mono ?_
        rintro e w4 ⟨A4, n4, c4, rfl, hb4, hx4⟩
        replace ec0 := hx4.cell ec0
        replace d0 := hx4.cell d0
        replace ec1 := hx4.cell ec1
        replace d1 := hx4.cell d1
        replace ec2 := hx4.cell ec2
        replace d2 := hx4.cell d2
        replace ec3 := hx4.cell ec3
        replace d3 := hx4.cell d3
        replace ec4 := hx4.cell ec4
        replace d4 := hx4.cell d4
        go_wp2_with fail
        refine (event_Right 2 o m A n c l s _ (hsE.ext hx4) hs).mono ?_
        rintro e w5 ⟨rfl, hx5⟩
        rw [HR.out]
        replace d0 := hx5.cell d0
        replace d1 := hx5.cell d1
        replace d2 := hx5.cell d2
        replace d3 := hx5.cell d3
        replace d4 := hx5.cell d4
        go_wp2_with fail
        refine (event_Right 2 o m A n c l ⟨#[97]⟩ _ ((hsX.ext hx4).ext hx5) (by simp [maxLen, ByteArray.size])).mono ?_
        rintro e w6 ⟨rfl, hx6⟩
        rw [HX.out]
        replace d0 := hx6.cell d0
        replace d1 := hx6.cell d1
        replace d2 := hx6.cell d2
        replace d3 := hx6.cell d3
        replace d4 := hx6.cell d4
        go_wp2_with fail
        refine (event_Plain 2 o m A n c l ⟨#[97]⟩ _ (((hsX.ext hx4).ext hx5).ext hx6) (by simp [maxLen, ByteArray.size])).mono ?_
        rintro e w7 ⟨rfl, hx7⟩
        rw [plain_no HX.out]
        go_wp2_with fail
        refine (law5_known _).mono ?_
        rintro e w8 ⟨rfl, hx8⟩
        go_wp2_with fail
        go_ret
        exact ⟨rfl, ((((hxW.trans hx4).trans hx5).trans hx6).trans hx7).trans hx8⟩
      by_cases q2 : (bits BinOp.and IntKind.i64 x 255).tmod 5 = 2
      · skip
        have g0 : ((bits BinOp.and IntKind.i64 x 255).tmod 5 == 0) = false := by simpa using q0
        have g1 : ((bits BinOp.and IntKind.i64 x 255).tmod 5 == 1) = false := by simpa using q1
        have g2 : ((bits BinOp.and IntKind.i64 x 255).tmod 5 == 2) = true := by simpa using q2
        clear q0 q1 q2
        go_enter Try.func10, Try.ntmps10
        go_wp2_with fail
        refine (ref_RightEvent 2 o m A n c s _ h63.1 hs).mono ?_
        rintro e w1 ⟨rfl, hx1⟩
        rw [HR.out]
        have ec0 : w1.cell? ⟨w.heap.size, 0, none⟩ = some (.int .i64 2) := hx1.cell (cell_new w _ _ 0)
        have ec1 : w1.cell? ⟨w.heap.size, 1, none⟩ = some (.int .i64 o) := hx1.cell (cell_new w _ _ 1)
        have ec2 : w1.cell? ⟨w.heap.size, 2, none⟩ = some (.int .i64 m) := hx1.cell (cell_new w _ _ 2)
        have ec3 : w1.cell? ⟨w.heap.size, 3, none⟩ = some (.slice A n c) := hx1.cell (cell_new w _ _ 3)
        have ec4 : w1.cell? ⟨w.heap.size, 4, none⟩ = some (.string s) := hx1.cell (cell_new w _ _ 4)
        have hx := (Ext.alloc w (.cells #[.int .i64 2, .int .i64 o, .int .i64 m, .slice A n c, .string s] 28)).trans hx1
        have hlt := World.block_lt_of_cell? _ _ ec0
        clear hx1
        go_wp2_with fail
        refine (ref_Plain 2 o m A n c s _ h63.1 hs).mono ?_
        rintro e w2 ⟨rfl, hx2⟩
        rw [HPL.out]
        replace ec0 := hx2.cell ((Ext.alloc _ _).cell ec0)
        have d0 : w2.cell? ⟨w1.heap.size, 0, none⟩ = some (.int .i64 2) := hx2.cell (cell_new w1 _ _ 0)
        replace ec1 := hx2.cell ((Ext.alloc _ _).cell ec1)
        have d1 : w2.cell? ⟨w1.heap.size, 1, none⟩ = some (.int .i64 o) := hx2.cell (cell_new w1 _ _ 1)
        replace ec2 := hx2.cell ((Ext.alloc _ _).cell ec2)
        have d2 : w2.cell? ⟨w1.heap.size, 2, none⟩ = some (.int .i64 m) := hx2.cell (cell_new w1 _ _ 2)
        replace ec3 := hx2.cell ((Ext.alloc _ _).cell ec3)
        have d3 : w2.cell? ⟨w1.heap.size, 3, none⟩ = some (.slice A n c) := hx2.cell (cell_new w1 _ _ 3)
        replace ec4 := hx2.cell ((Ext.alloc _ _).cell ec4)
        have d4 : w2.cell? ⟨w1.heap.size, 4, none⟩ = some (.string s) := hx2.cell (cell_new w1 _ _ 4)
        have hlt2 := World.block_lt_of_cell? _ _ d0
        replace hx := (hx.trans (Ext.alloc w1 _)).trans hx2
        clear hx2
        go_wp2_with fail
        refine (law5_known _).mono ?_
        rintro e w4 ⟨rfl, hx4⟩
        go_wp2_with fail
        go_ret
        exact ⟨rfl, hx.trans hx4⟩
      by_cases q3 : (bits BinOp.and IntKind.i64 x 255).tmod 5 = 3
      · skip
        have g0 : ((bits BinOp.and IntKind.i64 x 255).tmod 5 == 0) = false := by simpa using q0
        have g1 : ((bits BinOp.and IntKind.i64 x 255).tmod 5 == 1) = false := by simpa using q1
        have g2 : ((bits BinOp.and IntKind.i64 x 255).tmod 5 == 2) = false := by simpa using q2
        have g3 : ((bits BinOp.and IntKind.i64 x 255).tmod 5 == 3) = true := by simpa using q3
        clear q0 q1 q2 q3
        -- 3: the field, .slice (some ⟨w2.heap.size, 0, none⟩) 1 1: its value, w2: the world ahead of the store; then the event: k o m slice bytes text, the law
        go_enter Try.func10, Try.ntmps10
        go_wp2_with fail
        refine (ref_RightEvent 2 o m A n c s _ h63.1 hs).mono ?_
        rintro e w1 ⟨rfl, hx1⟩
        rw [HR.out]
        have ec0 : w1.cell? ⟨w.heap.size, 0, none⟩ = some (.int .i64 2) := hx1.cell (cell_new w _ _ 0)
        have ec1 : w1.cell? ⟨w.heap.size, 1, none⟩ = some (.int .i64 o) := hx1.cell (cell_new w _ _ 1)
        have ec2 : w1.cell? ⟨w.heap.size, 2, none⟩ = some (.int .i64 m) := hx1.cell (cell_new w _ _ 2)
        have ec3 : w1.cell? ⟨w.heap.size, 3, none⟩ = some (.slice A n c) := hx1.cell (cell_new w _ _ 3)
        have ec4 : w1.cell? ⟨w.heap.size, 4, none⟩ = some (.string s) := hx1.cell (cell_new w _ _ 4)
        have hx := (Ext.alloc w (.cells #[.int .i64 2, .int .i64 o, .int .i64 m, .slice A n c, .string s] 28)).trans hx1
        have hlt := World.block_lt_of_cell? _ _ ec0
        clear hx1
        go_wp2_with fail
        refine (ref_Plain 2 o m A n c s _ h63.1 hs).mono ?_
        rintro e w2 ⟨rfl, hx2⟩
        rw [HPL.out]
        replace ec0 := hx2.cell ((Ext.alloc _ _).cell ec0)
        have d0 : w2.cell? ⟨w1.heap.size, 0, none⟩ = some (.int .i64 2) := hx2.cell (cell_new w1 _ _ 0)
        replace ec1 := hx2.cell ((Ext.alloc _ _).cell ec1)
        have d1 : w2.cell? ⟨w1.heap.size, 1, none⟩ = some (.int .i64 o) := hx2.cell (cell_new w1 _ _ 1)
        replace ec2 := hx2.cell ((Ext.alloc _ _).cell ec2)
        have d2 : w2.cell? ⟨w1.heap.size, 2, none⟩ = some (.int .i64 m) := hx2.cell (cell_new w1 _ _ 2)
        replace ec3 := hx2.cell ((Ext.alloc _ _).cell ec3)
        have d3 : w2.cell? ⟨w1.heap.size, 3, none⟩ = some (.slice A n c) := hx2.cell (cell_new w1 _ _ 3)
        replace ec4 := hx2.cell ((Ext.alloc _ _).cell ec4)
        have d4 : w2.cell? ⟨w1.heap.size, 4, none⟩ = some (.string s) := hx2.cell (cell_new w1 _ _ 4)
        have hlt2 := World.block_lt_of_cell? _ _ d0
        replace hx := (hx.trans (Ext.alloc w1 _)).trans hx2
        have f3 : w2.frozen? ⟨w1.heap.size, 3, none⟩ = false := hx2.frozenF (cell_new w1 _ _ 3) (fr_new w1 _ _ 3)
        clear hx2
        go_wp2_with fail
        obtain ⟨W, hW⟩ : ∃ W, W = ((w2).setCell ⟨w1.heap.size, 3, none⟩ (.slice (some ⟨w2.heap.size, 0, none⟩) 1 1)).alloc (.cells #[.int .u8 0] U8) := ⟨_, rfl⟩
        have hxb : Ext w2 (w2) := by (repeat (first | (with_reducible exact Ext.refl _) | (with_reducible assumption) | (with_reducible refine Ext.draws ?_) | (with_reducible refine Ext.allocs ?_ _) | (with_reducible refine Ext.sets ?_ ?_ _) | (with_reducible exact Nat.le_refl _) | (exact (by simp)) | (exact (by simp; omega))))
        have hsW := hsl.ext (hx.trans hxb)
        have hxW : Ext w W := by rw [hW]; first | exact (hx.trans hxb).sets (by simp; omega) _ | exact ((hx.trans hxb).sets (by simp; omega) _).allocs _
        replace ec0 : W.cell? ⟨w.heap.size, 0, none⟩ = some (.int .i64 2) := by rw [hW]; first | exact (cell_set_ne _ _ _ _ _ _ (by omega)).trans (hxb.cell ec0) | exact (Ext.alloc _ _).cell ((cell_set_ne _ _ _ _ _ _ (by omega)).trans (hxb.cell ec0))
        replace d0 : W.cell? ⟨w1.heap.size, 0, none⟩ = some (.int .i64 2) := by rw [hW]; first | exact (cell_set_ne _ _ _ _ _ _ (by omega)).trans (hxb.cell d0) | exact World.cell?_setCell_same _ _ _ (hxb.cell d0) | exact (Ext.alloc _ _).cell ((cell_set_ne _ _ _ _ _ _ (by omega)).trans (hxb.cell d0)) | exact (Ext.alloc _ _).cell (World.cell?_setCell_same _ _ _ (hxb.cell d0))
        replace ec1 : W.cell? ⟨w.heap.size, 1, none⟩ = some (.int .i64 o) := by rw [hW]; first | exact (cell_set_ne _ _ _ _ _ _ (by omega)).trans (hxb.cell ec1) | exact (Ext.alloc _ _).cell ((cell_set_ne _ _ _ _ _ _ (by omega)).trans (hxb.cell ec1))
        replace d1 : W.cell? ⟨w1.heap.size, 1, none⟩ = some (.int .i64 o) := by rw [hW]; first | exact (cell_set_ne _ _ _ _ _ _ (by omega)).trans (hxb.cell d1) | exact World.cell?_setCell_same _ _ _ (hxb.cell d1) | exact (Ext.alloc _ _).cell ((cell_set_ne _ _ _ _ _ _ (by omega)).trans (hxb.cell d1)) | exact (Ext.alloc _ _).cell (World.cell?_setCell_same _ _ _ (hxb.cell d1))
        replace ec2 : W.cell? ⟨w.heap.size, 2, none⟩ = some (.int .i64 m) := by rw [hW]; first | exact (cell_set_ne _ _ _ _ _ _ (by omega)).trans (hxb.cell ec2) | exact (Ext.alloc _ _).cell ((cell_set_ne _ _ _ _ _ _ (by omega)).trans (hxb.cell ec2))
        replace d2 : W.cell? ⟨w1.heap.size, 2, none⟩ = some (.int .i64 m) := by rw [hW]; first | exact (cell_set_ne _ _ _ _ _ _ (by omega)).trans (hxb.cell d2) | exact World.cell?_setCell_same _ _ _ (hxb.cell d2) | exact (Ext.alloc _ _).cell ((cell_set_ne _ _ _ _ _ _ (by omega)).trans (hxb.cell d2)) | exact (Ext.alloc _ _).cell (World.cell?_setCell_same _ _ _ (hxb.cell d2))
        replace ec3 : W.cell? ⟨w.heap.size, 3, none⟩ = some (.slice A n c) := by rw [hW]; first | exact (cell_set_ne _ _ _ _ _ _ (by omega)).trans (hxb.cell ec3) | exact (Ext.alloc _ _).cell ((cell_set_ne _ _ _ _ _ _ (by omega)).trans (hxb.cell ec3))
        replace d3 : W.cell? ⟨w1.heap.size, 3, none⟩ = some (.slice (some ⟨w2.heap.size, 0, none⟩) 1 1) := by rw [hW]; first | exact (cell_set_ne _ _ _ _ _ _ (by omega)).trans (hxb.cell d3) | exact World.cell?_setCell_same _ _ _ (hxb.cell d3) | exact (Ext.alloc _ _).cell ((cell_set_ne _ _ _ _ _ _ (by omega)).trans (hxb.cell d3)) | exact (Ext.alloc _ _).cell (World.cell?_setCell_same _ _ _ (hxb.cell d3))
        replace ec4 : W.cell? ⟨w.heap.size, 4, none⟩ = some (.string s) := by rw [hW]; first | exact (cell_set_ne _ _ _ _ _ _ (by omega)).trans (hxb.cell ec4) | exact (Ext.alloc _ _).cell ((cell_set_ne _ _ _ _ _ _ (by omega)).trans (hxb.cell ec4))
        replace d4 : W.cell? ⟨w1.heap.size, 4, none⟩ = some (.string s) := by rw [hW]; first | exact (cell_set_ne _ _ _ _ _ _ (by omega)).trans (hxb.cell d4) | exact World.cell?_setCell_same _ _ _ (hxb.cell d4) | exact (Ext.alloc _ _).cell ((cell_set_ne _ _ _ _ _ _ (by omega)).trans (hxb.cell d4)) | exact (Ext.alloc _ _).cell (World.cell?_setCell_same _ _ _ (hxb.cell d4))
        rw [← hW]
        have hsX : Sl W (some ⟨w2.heap.size, 0, none⟩) 1 1 [0] := by rw [hW]; exact byt_set w2 _ _
        have hsE := hsl.ext hxW
        have HX := Lib.hid (turn_3 (k := 2) (o := o) (m := m) (s := s) (by omega))
        have HXL : Hid ((if false then putE 2 o m [0] s else []) = ([] : List UInt8)) := rfl
        clear hW hxb hsW f3 hlt2 hlt hx
        refine (event_Put 2 o m (some ⟨w2.heap.size, 0, none⟩) 1 1 [0] s _ hsX hs HX HXL).mono ?_
        rintro e w4 ⟨A4, n4, c4, rfl, hb4, hx4⟩
        replace ec0 := hx4.cell ec0
        replace d0 := hx4.cell d0
        replace ec1 := hx4.cell ec1
        replace d1 := hx4.cell d1
        replace ec2 := hx4.cell ec2
        replace d2 := hx4.cell d2
        replace ec3 := hx4.cell ec3
        replace d3 := hx4.cell d3
        replace ec4 := hx4.cell ec4
        replace d4 := hx4.cell d4
        go_wp2_with fail
        refine (event_Right 2 o m A n c l s _ (hsE.ext hx4) hs).mono ?_
        rintro e w5 ⟨rfl, hx5⟩
        rw [HR.out]
        replace d0 := hx5.cell d0
        replace d1 := hx5.cell d1
        replace d2 := hx5.cell d2
        replace d3 := hx5.cell d3
        replace d4 := hx5.cell d4
        go_wp2_with fail
        refine (event_Right 2 o m (some ⟨w2.heap.size, 0, none⟩) 1 1 [0] s _ ((hsX.ext hx4).ext hx5) hs).mono ?_
        rintro e w6 ⟨rfl, hx6⟩
        rw [HX.out]
        replace d0 := hx6.cell d0
        replace d1 := hx6.cell d1
        replace d2 := hx6.cell d2
        replace d3 := hx6.cell d3
        replace d4 := hx6.cell d4
        go_wp2_with fail
        refine (event_Plain 2 o m (some ⟨w2.heap.size, 0, none⟩) 1 1 [0] s _ (((hsX.ext hx4).ext hx5).ext hx6) hs).mono ?_
        rintro e w7 ⟨rfl, hx7⟩
        rw [plain_no HX.out]
        go_wp2_with fail
        refine (law5_known _).mono ?_
        rintro e w8 ⟨rfl, hx8⟩
        go_wp2_with fail
        go_ret
        exact ⟨rfl, ((((hxW.trans hx4).trans hx5).trans hx6).trans hx7).trans hx8⟩
      have g0 : ((bits BinOp.and IntKind.i64 x 255).tmod 5 == 0) = false := by simpa using q0
      have g1 : ((bits BinOp.and IntKind.i64 x 255).tmod 5 == 1) = false := by simpa using q1
      have g2 : ((bits BinOp.and IntKind.i64 x 255).tmod 5 == 2) = false := by simpa using q2
      have g3 : ((bits BinOp.and IntKind.i64 x 255).tmod 5 == 3) = false := by simpa using q3
      clear q0 q1 q2 q3
      go_enter Try.func10, Try.ntmps10
      go_wp2_with fail
      refine (ref_RightEvent 2 o m A n c s _ h63.1 hs).mono ?_
      rintro e w1 ⟨rfl, hx1⟩
      rw [HR.out]
      have ec0 : w1.cell? ⟨w.heap.size, 0, none⟩ = some (.int .i64 2) := hx1.cell (cell_new w _ _ 0)
      have ec1 : w1.cell? ⟨w.heap.size, 1, none⟩ = some (.int .i64 o) := hx1.cell (cell_new w _ _ 1)
      have ec2 : w1.cell? ⟨w.heap.size, 2, none⟩ = some (.int .i64 m) := hx1.cell (cell_new w _ _ 2)
      have ec3 : w1.cell? ⟨w.heap.size, 3, none⟩ = some (.slice A n c) := hx1.cell (cell_new w _ _ 3)
      have ec4 : w1.cell? ⟨w.heap.size, 4, none⟩ = some (.string s) := hx1.cell (cell_new w _ _ 4)
      have hx := (Ext.alloc w (.cells #[.int .i64 2, .int .i64 o, .int .i64 m, .slice A n c, .string s] 28)).trans hx1
      have hlt := World.block_lt_of_cell? _ _ ec0
      clear hx1
      go_wp2_with fail
      refine (ref_Plain 2 o m A n c s _ h63.1 hs).mono ?_
      rintro e w2 ⟨rfl, hx2⟩
      rw [HPL.out]
      replace ec0 := hx2.cell ((Ext.alloc _ _).cell ec0)
      have d0 : w2.cell? ⟨w1.heap.size, 0, none⟩ = some (.int .i64 2) := hx2.cell (cell_new w1 _ _ 0)
      replace ec1 := hx2.cell ((Ext.alloc _ _).cell ec1)
      have d1 : w2.cell? ⟨w1.heap.size, 1, none⟩ = some (.int .i64 o) := hx2.cell (cell_new w1 _ _ 1)
      replace ec2 := hx2.cell ((Ext.alloc _ _).cell ec2)
      have d2 : w2.cell? ⟨w1.heap.size, 2, none⟩ = some (.int .i64 m) := hx2.cell (cell_new w1 _ _ 2)
      replace ec3 := hx2.cell ((Ext.alloc _ _).cell ec3)
      have d3 : w2.cell? ⟨w1.heap.size, 3, none⟩ = some (.slice A n c) := hx2.cell (cell_new w1 _ _ 3)
      replace ec4 := hx2.cell ((Ext.alloc _ _).cell ec4)
      have d4 : w2.cell? ⟨w1.heap.size, 4, none⟩ = some (.string s) := hx2.cell (cell_new w1 _ _ 4)
      have hlt2 := World.block_lt_of_cell? _ _ d0
      replace hx := (hx.trans (Ext.alloc w1 _)).trans hx2
      clear hx2
      go_wp2_with fail
      refine (law5_known _).mono ?_
      rintro e w4 ⟨rfl, hx4⟩
      go_wp2_with fail
      go_ret
      exact ⟨rfl, hx.trans hx4⟩
    · obtain rfl : pl = true := by rw [hplk]; rfl
      clear hplk
      by_cases q0 : (bits BinOp.and IntKind.i64 x 255).tmod 5 = 0
      · skip
        have g0 : ((bits BinOp.and IntKind.i64 x 255).tmod 5 == 0) = true := by simpa using q0
        clear q0
        -- 0: the field, .int .i64 9: its value, w2: the world ahead of the store; then the event: k o m slice bytes text, the law
        go_enter Try.func10, Try.ntmps10
        go_wp2_with fail
        refine (ref_RightEvent 3 o m A n c s _ h63.1 hs).mono ?_
        rintro e w1 ⟨rfl, hx1⟩
        rw [HR.out]
        have ec0 : w1.cell? ⟨w.heap.size, 0, none⟩ = some (.int .i64 3) := hx1.cell (cell_new w _ _ 0)
        have ec1 : w1.cell? ⟨w.heap.size, 1, none⟩ = some (.int .i64 o) := hx1.cell (cell_new w _ _ 1)
        have ec2 : w1.cell? ⟨w.heap.size, 2, none⟩ = some (.int .i64 m) := hx1.cell (cell_new w _ _ 2)
        have ec3 : w1.cell? ⟨w.heap.size, 3, none⟩ = some (.slice A n c) := hx1.cell (cell_new w _ _ 3)
        have ec4 : w1.cell? ⟨w.heap.size, 4, none⟩ = some (.string s) := hx1.cell (cell_new w _ _ 4)
        have hx := (Ext.alloc w (.cells #[.int .i64 3, .int .i64 o, .int .i64 m, .slice A n c, .string s] 28)).trans hx1
        have hlt := World.block_lt_of_cell? _ _ ec0
        clear hx1
        go_wp2_with fail
        refine (ref_Plain 3 o m A n c s _ h63.1 hs).mono ?_
        rintro e w2 ⟨rfl, hx2⟩
        rw [HPL.out]
        replace ec0 := hx2.cell ((Ext.alloc _ _).cell ec0)
        have d0 : w2.cell? ⟨w1.heap.size, 0, none⟩ = some (.int .i64 3) := hx2.cell (cell_new w1 _ _ 0)
        replace ec1 := hx2.cell ((Ext.alloc _ _).cell ec1)
        have d1 : w2.cell? ⟨w1.heap.size, 1, none⟩ = some (.int .i64 o) := hx2.cell (cell_new w1 _ _ 1)
        replace ec2 := hx2.cell ((Ext.alloc _ _).cell ec2)
        have d2 : w2.cell? ⟨w1.heap.size, 2, none⟩ = some (.int .i64 m) := hx2.cell (cell_new w1 _ _ 2)
        replace ec3 := hx2.cell ((Ext.alloc _ _).cell ec3)
        have d3 : w2.cell? ⟨w1.heap.size, 3, none⟩ = some (.slice A n c) := hx2.cell (cell_new w1 _ _ 3)
        replace ec4 := hx2.cell ((Ext.alloc _ _).cell ec4)
        have d4 : w2.cell? ⟨w1.heap.size, 4, none⟩ = some (.string s) := hx2.cell (cell_new w1 _ _ 4)
        have hlt2 := World.block_lt_of_cell? _ _ d0
        replace hx := (hx.trans (Ext.alloc w1 _)).trans hx2
        have f0 : w2.frozen? ⟨w1.heap.size, 0, none⟩ = false := hx2.frozenF (cell_new w1 _ _ 0) (fr_new w1 _ _ 0)
        clear hx2
        go_wp2_with fail
        obtain ⟨W, hW⟩ : ∃ W, W = ((w2).setCell ⟨w1.heap.size, 0, none⟩ (.int .i64 9)) := ⟨_, rfl⟩
        have hxb : Ext w2 (w2) := by (repeat (first | (with_reducible exact Ext.refl _) | (with_reducible assumption) | (with_reducible refine Ext.draws ?_) | (with_reducible refine Ext.allocs ?_ _) | (with_reducible refine Ext.sets ?_ ?_ _) | (with_reducible exact Nat.le_refl _) | (exact (by simp)) | (exact (by simp; omega))))
        have hsW := hsl.ext (hx.trans hxb)
        have hxW : Ext w W := by rw [hW]; first | exact (hx.trans hxb).sets (by simp; omega) _ | exact ((hx.trans hxb).sets (by simp; omega) _).allocs _
        replace ec0 : W.cell? ⟨w.heap.size, 0, none⟩ = some (.int .i64 3) := by rw [hW]; first | exact (cell_set_ne _ _ _ _ _ _ (by omega)).trans (hxb.cell ec0) | exact (Ext.alloc _ _).cell ((cell_set_ne _ _ _ _ _ _ (by omega)).trans (hxb.cell ec0))
        replace d0 : W.cell? ⟨w1.heap.size, 0, none⟩ = some (.int .i64 9) := by rw [hW]; first | exact (cell_set_ne _ _ _ _ _ _ (by omega)).trans (hxb.cell d0) | exact World.cell?_setCell_same _ _ _ (hxb.cell d0) | exact (Ext.alloc _ _).cell ((cell_set_ne _ _ _ _ _ _ (by omega)).trans (hxb.cell d0)) | exact (Ext.alloc _ _).cell (World.cell?_setCell_same _ _ _ (hxb.cell d0))
        replace ec1 : W.cell? ⟨w.heap.size, 1, none⟩ = some (.int .i64 o) := by rw [hW]; first | exact (cell_set_ne _ _ _ _ _ _ (by omega)).trans (hxb.cell ec1) | exact (Ext.alloc _ _).cell ((cell_set_ne _ _ _ _ _ _ (by omega)).trans (hxb.cell ec1))
        replace d1 : W.cell? ⟨w1.heap.size, 1, none⟩ = some (.int .i64 o) := by rw [hW]; first | exact (cell_set_ne _ _ _ _ _ _ (by omega)).trans (hxb.cell d1) | exact World.cell?_setCell_same _ _ _ (hxb.cell d1) | exact (Ext.alloc _ _).cell ((cell_set_ne _ _ _ _ _ _ (by omega)).trans (hxb.cell d1)) | exact (Ext.alloc _ _).cell (World.cell?_setCell_same _ _ _ (hxb.cell d1))
        replace ec2 : W.cell? ⟨w.heap.size, 2, none⟩ = some (.int .i64 m) := by rw [hW]; first | exact (cell_set_ne _ _ _ _ _ _ (by omega)).trans (hxb.cell ec2) | exact (Ext.alloc _ _).cell ((cell_set_ne _ _ _ _ _ _ (by omega)).trans (hxb.cell ec2))
        replace d2 : W.cell? ⟨w1.heap.size, 2, none⟩ = some (.int .i64 m) := by rw [hW]; first | exact (cell_set_ne _ _ _ _ _ _ (by omega)).trans (hxb.cell d2) | exact World.cell?_setCell_same _ _ _ (hxb.cell d2) | exact (Ext.alloc _ _).cell ((cell_set_ne _ _ _ _ _ _ (by omega)).trans (hxb.cell d2)) | exact (Ext.alloc _ _).cell (World.cell?_setCell_same _ _ _ (hxb.cell d2))
        replace ec3 : W.cell? ⟨w.heap.size, 3, none⟩ = some (.slice A n c) := by rw [hW]; first | exact (cell_set_ne _ _ _ _ _ _ (by omega)).trans (hxb.cell ec3) | exact (Ext.alloc _ _).cell ((cell_set_ne _ _ _ _ _ _ (by omega)).trans (hxb.cell ec3))
        replace d3 : W.cell? ⟨w1.heap.size, 3, none⟩ = some (.slice A n c) := by rw [hW]; first | exact (cell_set_ne _ _ _ _ _ _ (by omega)).trans (hxb.cell d3) | exact World.cell?_setCell_same _ _ _ (hxb.cell d3) | exact (Ext.alloc _ _).cell ((cell_set_ne _ _ _ _ _ _ (by omega)).trans (hxb.cell d3)) | exact (Ext.alloc _ _).cell (World.cell?_setCell_same _ _ _ (hxb.cell d3))
        replace ec4 : W.cell? ⟨w.heap.size, 4, none⟩ = some (.string s) := by rw [hW]; first | exact (cell_set_ne _ _ _ _ _ _ (by omega)).trans (hxb.cell ec4) | exact (Ext.alloc _ _).cell ((cell_set_ne _ _ _ _ _ _ (by omega)).trans (hxb.cell ec4))
        replace d4 : W.cell? ⟨w1.heap.size, 4, none⟩ = some (.string s) := by rw [hW]; first | exact (cell_set_ne _ _ _ _ _ _ (by omega)).trans (hxb.cell d4) | exact World.cell?_setCell_same _ _ _ (hxb.cell d4) | exact (Ext.alloc _ _).cell ((cell_set_ne _ _ _ _ _ _ (by omega)).trans (hxb.cell d4)) | exact (Ext.alloc _ _).cell (World.cell?_setCell_same _ _ _ (hxb.cell d4))
        rw [← hW]
        have hsX : Sl W A n c l := by rw [hW]; exact hsW.keepBlk (fun ad ea hn => Below.heap_setCell _ _ _ _ (by have := hsl.blk ad ea hn; show ad.block ≠ w1.heap.size; omega))
        have hsE := hsl.ext hxW
        have HX := Lib.hid (turn_0 o m n s)
        have HXL : Hid ((if false then putE 9 o m l s else []) = ([] : List UInt8)) := rfl
        clear hW hxb hsW f0 hlt2 hlt hx
        refine (event_Put 9 o m A n c l s _ hsX hs HX HXL).mono ?_
        rintro e w4 ⟨A4, n4, c4, rfl, hb4, hx4⟩
        replace ec0 := hx4.cell ec0
        replace d0 := hx4.cell d0
        replace ec1 := hx4.cell ec1
        replace d1 := hx4.cell d1
        replace ec2 := hx4.cell ec2
        replace d2 := hx4.cell d2
        replace ec3 := hx4.cell ec3
        replace d3 := hx4.cell d3
        replace ec4 := hx4.cell ec4
        replace d4 := hx4.cell d4
        go_wp2_with fail
        refine (event_Right 3 o m A n c l s _ (hsE.ext hx4) hs).mono ?_
        rintro e w5 ⟨rfl, hx5⟩
        rw [HR.out]
        replace d0 := hx5.cell d0
        replace d1 := hx5.cell d1
        replace d2 := hx5.cell d2
        replace d3 := hx5.cell d3
        replace d4 := hx5.cell d4
        go_wp2_with fail
        refine (event_Right 9 o m A n c l s _ ((hsX.ext hx4).ext hx5) hs).mono ?_
        rintro e w6 ⟨rfl, hx6⟩
        rw [HX.out]
        replace d0 := hx6.cell d0
        replace d1 := hx6.cell d1
        replace d2 := hx6.cell d2
        replace d3 := hx6.cell d3
        replace d4 := hx6.cell d4
        go_wp2_with fail
        refine (event_Plain 9 o m A n c l s _ (((hsX.ext hx4).ext hx5).ext hx6) hs).mono ?_
        rintro e w7 ⟨rfl, hx7⟩
        rw [plain_no HX.out]
        go_wp2_with fail
        refine (law5_known _).mono ?_
        rintro e w8 ⟨rfl, hx8⟩
        go_wp2_with fail
        go_ret
        exact ⟨rfl, ((((hxW.trans hx4).trans hx5).trans hx6).trans hx7).trans hx8⟩
      by_cases q1 : (bits BinOp.and IntKind.i64 x 255).tmod 5 = 1
      · skip
        have g0 : ((bits BinOp.and IntKind.i64 x 255).tmod 5 == 0) = false := by simpa using q0
        have g1 : ((bits BinOp.and IntKind.i64 x 255).tmod 5 == 1) = true := by simpa using q1
        clear q0 q1
        -- 4: the field, .string ⟨#[97]⟩: its value, w2: the world ahead of the store; then the event: k o m slice bytes text, the law
        go_enter Try.func10, Try.ntmps10
        go_wp2_with fail
        refine (ref_RightEvent 3 o m A n c s _ h63.1 hs).mono ?_
        rintro e w1 ⟨rfl, hx1⟩
        rw [HR.out]
        have ec0 : w1.cell? ⟨w.heap.size, 0, none⟩ = some (.int .i64 3) := hx1.cell (cell_new w _ _ 0)
        have ec1 : w1.cell? ⟨w.heap.size, 1, none⟩ = some (.int .i64 o) := hx1.cell (cell_new w _ _ 1)
        have ec2 : w1.cell? ⟨w.heap.size, 2, none⟩ = some (.int .i64 m) := hx1.cell (cell_new w _ _ 2)
        have ec3 : w1.cell? ⟨w.heap.size, 3, none⟩ = some (.slice A n c) := hx1.cell (cell_new w _ _ 3)
        have ec4 : w1.cell? ⟨w.heap.size, 4, none⟩ = some (.string s) := hx1.cell (cell_new w _ _ 4)
        have hx := (Ext.alloc w (.cells #[.int .i64 3, .int .i64 o, .int .i64 m, .slice A n c, .string s] 28)).trans hx1
        have hlt := World.block_lt_of_cell? _ _ ec0
        clear hx1
        go_wp2_with fail
        refine (ref_Plain 3 o m A n c s _ h63.1 hs).mono ?_
        rintro e w2 ⟨rfl, hx2⟩
        rw [HPL.out]
        replace ec0 := hx2.cell ((Ext.alloc _ _).cell ec0)
        have d0 : w2.cell? ⟨w1.heap.size, 0, none⟩ = some (.int .i64 3) := hx2.cell (cell_new w1 _ _ 0)
        replace ec1 := hx2.cell ((Ext.alloc _ _).cell ec1)
        have d1 : w2.cell? ⟨w1.heap.size, 1, none⟩ = some (.int .i64 o) := hx2.cell (cell_new w1 _ _ 1)
        replace ec2 := hx2.cell ((Ext.alloc _ _).cell ec2)
        have d2 : w2.cell? ⟨w1.heap.size, 2, none⟩ = some (.int .i64 m) := hx2.cell (cell_new w1 _ _ 2)
        replace ec3 := hx2.cell ((Ext.alloc _ _).cell ec3)
        have d3 : w2.cell? ⟨w1.heap.size, 3, none⟩ = some (.slice A n c) := hx2.cell (cell_new w1 _ _ 3)
        replace ec4 := hx2.cell ((Ext.alloc _ _).cell ec4)
        have d4 : w2.cell? ⟨w1.heap.size, 4, none⟩ = some (.string s) := hx2.cell (cell_new w1 _ _ 4)
        have hlt2 := World.block_lt_of_cell? _ _ d0
        replace hx := (hx.trans (Ext.alloc w1 _)).trans hx2
        have f4 : w2.frozen? ⟨w1.heap.size, 4, none⟩ = false := hx2.frozenF (cell_new w1 _ _ 4) (fr_new w1 _ _ 4)
        clear hx2
        go_wp2_with fail
        obtain ⟨W, hW⟩ : ∃ W, W = ((w2).setCell ⟨w1.heap.size, 4, none⟩ (.string ⟨#[97]⟩)) := ⟨_, rfl⟩
        have hxb : Ext w2 (w2) := by (repeat (first | (with_reducible exact Ext.refl _) | (with_reducible assumption) | (with_reducible refine Ext.draws ?_) | (with_reducible refine Ext.allocs ?_ _) | (with_reducible refine Ext.sets ?_ ?_ _) | (with_reducible exact Nat.le_refl _) | (exact (by simp)) | (exact (by simp; omega))))
        have hsW := hsl.ext (hx.trans hxb)
        have hxW : Ext w W := by rw [hW]; first | exact (hx.trans hxb).sets (by simp; omega) _ | exact ((hx.trans hxb).sets (by simp; omega) _).allocs _
        replace ec0 : W.cell? ⟨w.heap.size, 0, none⟩ = some (.int .i64 3) := by rw [hW]; first | exact (cell_set_ne _ _ _ _ _ _ (by omega)).trans (hxb.cell ec0) | exact (Ext.alloc _ _).cell ((cell_set_ne _ _ _ _ _ _ (by omega)).trans (hxb.cell ec0))
        replace d0 : W.cell? ⟨w1.heap.size, 0, none⟩ = some (.int .i64 3) := by rw [hW]; first | exact (cell_set_ne _ _ _ _ _ _ (by omega)).trans (hxb.cell d0) | exact World.cell?_setCell_same _ _ _ (hxb.cell d0) | exact (Ext.alloc _ _).cell ((cell_set_ne _ _ _ _ _ _ (by omega)).trans (hxb.cell d0)) | exact (Ext.alloc _ _).cell (World.cell?_setCell_same _ _ _ (hxb.cell d0))
        replace ec1 : W.cell? ⟨w.heap.size, 1, none⟩ = some (.int .i64 o) := by rw [hW]; first | exact (cell_set_ne _ _ _ _ _ _ (by omega)).trans (hxb.cell ec1) | exact (Ext.alloc _ _).cell ((cell_set_ne _ _ _ _ _ _ (by omega)).trans (hxb.cell ec1))
        replace d1 : W.cell? ⟨w1.heap.size, 1, none⟩ = some (.int .i64 o) := by rw [hW]; first | exact (cell_set_ne _ _ _ _ _ _ (by omega)).trans (hxb.cell d1) | exact World.cell?_setCell_same _ _ _ (hxb.cell d1) | exact (Ext.alloc _ _).cell ((cell_set_ne _ _ _ _ _ _ (by omega)).trans (hxb.cell d1)) | exact (Ext.alloc _ _).cell (World.cell?_setCell_same _ _ _ (hxb.cell d1))
        replace ec2 : W.cell? ⟨w.heap.size, 2, none⟩ = some (.int .i64 m) := by rw [hW]; first | exact (cell_set_ne _ _ _ _ _ _ (by omega)).trans (hxb.cell ec2) | exact (Ext.alloc _ _).cell ((cell_set_ne _ _ _ _ _ _ (by omega)).trans (hxb.cell ec2))
        replace d2 : W.cell? ⟨w1.heap.size, 2, none⟩ = some (.int .i64 m) := by rw [hW]; first | exact (cell_set_ne _ _ _ _ _ _ (by omega)).trans (hxb.cell d2) | exact World.cell?_setCell_same _ _ _ (hxb.cell d2) | exact (Ext.alloc _ _).cell ((cell_set_ne _ _ _ _ _ _ (by omega)).trans (hxb.cell d2)) | exact (Ext.alloc _ _).cell (World.cell?_setCell_same _ _ _ (hxb.cell d2))
        replace ec3 : W.cell? ⟨w.heap.size, 3, none⟩ = some (.slice A n c) := by rw [hW]; first | exact (cell_set_ne _ _ _ _ _ _ (by omega)).trans (hxb.cell ec3) | exact (Ext.alloc _ _).cell ((cell_set_ne _ _ _ _ _ _ (by omega)).trans (hxb.cell ec3))
        replace d3 : W.cell? ⟨w1.heap.size, 3, none⟩ = some (.slice A n c) := by rw [hW]; first | exact (cell_set_ne _ _ _ _ _ _ (by omega)).trans (hxb.cell d3) | exact World.cell?_setCell_same _ _ _ (hxb.cell d3) | exact (Ext.alloc _ _).cell ((cell_set_ne _ _ _ _ _ _ (by omega)).trans (hxb.cell d3)) | exact (Ext.alloc _ _).cell (World.cell?_setCell_same _ _ _ (hxb.cell d3))
        replace ec4 : W.cell? ⟨w.heap.size, 4, none⟩ = some (.string s) := by rw [hW]; first | exact (cell_set_ne _ _ _ _ _ _ (by omega)).trans (hxb.cell ec4) | exact (Ext.alloc _ _).cell ((cell_set_ne _ _ _ _ _ _ (by omega)).trans (hxb.cell ec4))
        replace d4 : W.cell? ⟨w1.heap.size, 4, none⟩ = some (.string ⟨#[97]⟩) := by rw [hW]; first | exact (cell_set_ne _ _ _ _ _ _ (by omega)).trans (hxb.cell d4) | exact World.cell?_setCell_same _ _ _ (hxb.cell d4) | exact (Ext.alloc _ _).cell ((cell_set_ne _ _ _ _ _ _ (by omega)).trans (hxb.cell d4)) | exact (Ext.alloc _ _).cell (World.cell?_setCell_same _ _ _ (hxb.cell d4))
        rw [← hW]
        have hsX : Sl W A n c l := by rw [hW]; exact hsW.keepBlk (fun ad ea hn => Below.heap_setCell _ _ _ _ (by have := hsl.blk ad ea hn; show ad.block ≠ w1.heap.size; omega))
        have hsE := hsl.ext hxW
        have HX := Lib.hid (turn_1 (k := 3) (o := o) (m := m) (n := n) (by omega))
        have HXL : Hid ((if false then putE 3 o m l ⟨#[97]⟩ else []) = ([] : List UInt8)) := rfl
        clear hW hxb hsW f4 hlt2 hlt hx
        refine (event_Put 3 o m A n c l ⟨#[97]⟩ _ hsX (by simp [maxLen, ByteArray.size]) HX HXL).mono ?_
        rintro e w4 ⟨A4, n4, c4, rfl, hb4, hx4⟩
        replace ec0 := hx4.cell ec0
        replace d0 := hx4.cell d0
        replace ec1 := hx4.cell ec1
        replace d1 := hx4.cell d1
        replace ec2 := hx4.cell ec2
        replace d2 := hx4.cell d2
        replace ec3 := hx4.cell ec3
        replace d3 := hx4.cell d3
        replace ec4 := hx4.cell ec4
        replace d4 := hx4.cell d4
        go_wp2_with fail
        refine (event_Right 3 o m A n c l s _ (hsE.ext hx4) hs).mono ?_
        rintro e w5 ⟨rfl, hx5⟩
        rw [HR.out]
        replace d0 := hx5.cell d0
        replace d1 := hx5.cell d1
        replace d2 := hx5.cell d2
        replace d3 := hx5.cell d3
        replace d4 := hx5.cell d4
        go_wp2_with fail
        refine (event_Right 3 o m A n c l ⟨#[97]⟩ _ ((hsX.ext hx4).ext hx5) (by simp [maxLen, ByteArray.size])).mono ?_
        rintro e w6 ⟨rfl, hx6⟩
        rw [HX.out]
        replace d0 := hx6.cell d0
        replace d1 := hx6.cell d1
        replace d2 := hx6.cell d2
        replace d3 := hx6.cell d3
        replace d4 := hx6.cell d4
        go_wp2_with fail
        refine (event_Plain 3 o m A n c l ⟨#[97]⟩ _ (((hsX.ext hx4).ext hx5).ext hx6) (by simp [maxLen, ByteArray.size])).mono ?_
        rintro e w7 ⟨rfl, hx7⟩
        rw [plain_no HX.out]
        go_wp2_with fail
        refine (law5_known _).mono ?_
        rintro e w8 ⟨rfl, hx8⟩
        go_wp2_with fail
        go_ret
        exact ⟨rfl, ((((hxW.trans hx4).trans hx5).trans hx6).trans hx7).trans hx8⟩
      by_cases q2 : (bits BinOp.and IntKind.i64 x 255).tmod 5 = 2
      · skip
        have g0 : ((bits BinOp.and IntKind.i64 x 255).tmod 5 == 0) = false := by simpa using q0
        have g1 : ((bits BinOp.and IntKind.i64 x 255).tmod 5 == 1) = false := by simpa using q1
        have g2 : ((bits BinOp.and IntKind.i64 x 255).tmod 5 == 2) = true := by simpa using q2
        clear q0 q1 q2
        go_enter Try.func10, Try.ntmps10
        go_wp2_with fail
        refine (ref_RightEvent 3 o m A n c s _ h63.1 hs).mono ?_
        rintro e w1 ⟨rfl, hx1⟩
        rw [HR.out]
        have ec0 : w1.cell? ⟨w.heap.size, 0, none⟩ = some (.int .i64 3) := hx1.cell (cell_new w _ _ 0)
        have ec1 : w1.cell? ⟨w.heap.size, 1, none⟩ = some (.int .i64 o) := hx1.cell (cell_new w _ _ 1)
        have ec2 : w1.cell? ⟨w.heap.size, 2, none⟩ = some (.int .i64 m) := hx1.cell (cell_new w _ _ 2)
        have ec3 : w1.cell? ⟨w.heap.size, 3, none⟩ = some (.slice A n c) := hx1.cell (cell_new w _ _ 3)
        have ec4 : w1.cell? ⟨w.heap.size, 4, none⟩ = some (.string s) := hx1.cell (cell_new w _ _ 4)
        have hx := (Ext.alloc w (.cells #[.int .i64 3, .int .i64 o, .int .i64 m, .slice A n c, .string s] 28)).trans hx1
        have hlt := World.block_lt_of_cell? _ _ ec0
        clear hx1
        go_wp2_with fail
        refine (ref_Plain 3 o m A n c s _ h63.1 hs).mono ?_
        rintro e w2 ⟨rfl, hx2⟩
        rw [HPL.out]
        replace ec0 := hx2.cell ((Ext.alloc _ _).cell ec0)
        have d0 : w2.cell? ⟨w1.heap.size, 0, none⟩ = some (.int .i64 3) := hx2.cell (cell_new w1 _ _ 0)
        replace ec1 := hx2.cell ((Ext.alloc _ _).cell ec1)
        have d1 : w2.cell? ⟨w1.heap.size, 1, none⟩ = some (.int .i64 o) := hx2.cell (cell_new w1 _ _ 1)
        replace ec2 := hx2.cell ((Ext.alloc _ _).cell ec2)
        have d2 : w2.cell? ⟨w1.heap.size, 2, none⟩ = some (.int .i64 m) := hx2.cell (cell_new w1 _ _ 2)
        replace ec3 := hx2.cell ((Ext.alloc _ _).cell ec3)
        have d3 : w2.cell? ⟨w1.heap.size, 3, none⟩ = some (.slice A n c) := hx2.cell (cell_new w1 _ _ 3)
        replace ec4 := hx2.cell ((Ext.alloc _ _).cell ec4)
        have d4 : w2.cell? ⟨w1.heap.size, 4, none⟩ = some (.string s) := hx2.cell (cell_new w1 _ _ 4)
        have hlt2 := World.block_lt_of_cell? _ _ d0
        replace hx := (hx.trans (Ext.alloc w1 _)).trans hx2
        clear hx2
        go_wp2_with fail
        refine (law5_known _).mono ?_
        rintro e w4 ⟨rfl, hx4⟩
        go_wp2_with fail
        go_ret
        exact ⟨rfl, hx.trans hx4⟩
      by_cases q3 : (bits BinOp.and IntKind.i64 x 255).tmod 5 = 3
      · skip
        have g0 : ((bits BinOp.and IntKind.i64 x 255).tmod 5 == 0) = false := by simpa using q0
        have g1 : ((bits BinOp.and IntKind.i64 x 255).tmod 5 == 1) = false := by simpa using q1
        have g2 : ((bits BinOp.and IntKind.i64 x 255).tmod 5 == 2) = false := by simpa using q2
        have g3 : ((bits BinOp.and IntKind.i64 x 255).tmod 5 == 3) = true := by simpa using q3
        clear q0 q1 q2 q3
        -- 3: the field, .slice (some ⟨w2.heap.size, 0, none⟩) 1 1: its value, w2: the world ahead of the store; then the event: k o m slice bytes text, the law
        go_enter Try.func10, Try.ntmps10
        go_wp2_with fail
        refine (ref_RightEvent 3 o m A n c s _ h63.1 hs).mono ?_
        rintro e w1 ⟨rfl, hx1⟩
        rw [HR.out]
        have ec0 : w1.cell? ⟨w.heap.size, 0, none⟩ = some (.int .i64 3) := hx1.cell (cell_new w _ _ 0)
        have ec1 : w1.cell? ⟨w.heap.size, 1, none⟩ = some (.int .i64 o) := hx1.cell (cell_new w _ _ 1)
        have ec2 : w1.cell? ⟨w.heap.size, 2, none⟩ = some (.int .i64 m) := hx1.cell (cell_new w _ _ 2)
        have ec3 : w1.cell? ⟨w.heap.size, 3, none⟩ = some (.slice A n c) := hx1.cell (cell_new w _ _ 3)
        have ec4 : w1.cell? ⟨w.heap.size, 4, none⟩ = some (.string s) := hx1.cell (cell_new w _ _ 4)
        have hx := (Ext.alloc w (.cells #[.int .i64 3, .int .i64 o, .int .i64 m, .slice A n c, .string s] 28)).trans hx1
        have hlt := World.block_lt_of_cell? _ _ ec0
        clear hx1
        go_wp2_with fail
        refine (ref_Plain 3 o m A n c s _ h63.1 hs).mono ?_
        rintro e w2 ⟨rfl, hx2⟩
        rw [HPL.out]
        replace ec0 := hx2.cell ((Ext.alloc _ _).cell ec0)
        have d0 : w2.cell? ⟨w1.heap.size, 0, none⟩ = some (.int .i64 3) := hx2.cell (cell_new w1 _ _ 0)
        replace ec1 := hx2.cell ((Ext.alloc _ _).cell ec1)
        have d1 : w2.cell? ⟨w1.heap.size, 1, none⟩ = some (.int .i64 o) := hx2.cell (cell_new w1 _ _ 1)
        replace ec2 := hx2.cell ((Ext.alloc _ _).cell ec2)
        have d2 : w2.cell? ⟨w1.heap.size, 2, none⟩ = some (.int .i64 m) := hx2.cell (cell_new w1 _ _ 2)
        replace ec3 := hx2.cell ((Ext.alloc _ _).cell ec3)
        have d3 : w2.cell? ⟨w1.heap.size, 3, none⟩ = some (.slice A n c) := hx2.cell (cell_new w1 _ _ 3)
        replace ec4 := hx2.cell ((Ext.alloc _ _).cell ec4)
        have d4 : w2.cell? ⟨w1.heap.size, 4, none⟩ = some (.string s) := hx2.cell (cell_new w1 _ _ 4)
        have hlt2 := World.block_lt_of_cell? _ _ d0
        replace hx := (hx.trans (Ext.alloc w1 _)).trans hx2
        have f3 : w2.frozen? ⟨w1.heap.size, 3, none⟩ = false := hx2.frozenF (cell_new w1 _ _ 3) (fr_new w1 _ _ 3)
        clear hx2
        go_wp2_with fail
        obtain ⟨W, hW⟩ : ∃ W, W = ((w2).setCell ⟨w1.heap.size, 3, none⟩ (.slice (some ⟨w2.heap.size, 0, none⟩) 1 1)).alloc (.cells #[.int .u8 0] U8) := ⟨_, rfl⟩
        have hxb : Ext w2 (w2) := by (repeat (first | (with_reducible exact Ext.refl _) | (with_reducible assumption) | (with_reducible refine Ext.draws ?_) | (with_reducible refine Ext.allocs ?_ _) | (with_reducible refine Ext.sets ?_ ?_ _) | (with_reducible exact Nat.le_refl _) | (exact (by simp)) | (exact (by simp; omega))))
        have hsW := hsl.ext (hx.trans hxb)
        have hxW : Ext w W := by rw [hW]; first | exact (hx.trans hxb).sets (by simp; omega) _ | exact ((hx.trans hxb).sets (by simp; omega) _).allocs _
        replace ec0 : W.cell? ⟨w.heap.size, 0, none⟩ = some (.int .i64 3) := by rw [hW]; first | exact (cell_set_ne _ _ _ _ _ _ (by omega)).trans (hxb.cell ec0) | exact (Ext.alloc _ _).cell ((cell_set_ne _ _ _ _ _ _ (by omega)).trans (hxb.cell ec0))
        replace d0 : W.cell? ⟨w1.heap.size, 0, none⟩ = some (.int .i64 3) := by rw [hW]; first | exact (cell_set_ne _ _ _ _ _ _ (by omega)).trans (hxb.cell d0) | exact World.cell?_setCell_same _ _ _ (hxb.cell d0) | exact (Ext.alloc _ _).cell ((cell_set_ne _ _ _ _ _ _ (by omega)).trans (hxb.cell d0)) | exact (Ext.alloc _ _).cell (World.cell?_setCell_same _ _ _ (hxb.cell d0))
        replace ec1 : W.cell? ⟨w.heap.size, 1, none⟩ = some (.int .i64 o) := by rw [hW]; first | exact (cell_set_ne _ _ _ _ _ _ (by omega)).trans (hxb.cell ec1) | exact (Ext.alloc _ _).cell ((cell_set_ne _ _ _ _ _ _ (by omega)).trans (hxb.cell ec1))
        replace d1 : W.cell? ⟨w1.heap.size, 1, none⟩ = some (.int .i64 o) := by rw [hW]; first | exact (cell_set_ne _ _ _ _ _ _ (by omega)).trans (hxb.cell d1) | exact World.cell?_setCell_same _ _ _ (hxb.cell d1) | exact (Ext.alloc _ _).cell ((cell_set_ne _ _ _ _ _ _ (by omega)).trans (hxb.cell d1)) | exact (Ext.alloc _ _).cell (World.cell?_setCell_same _ _ _ (hxb.cell d1))
        replace ec2 : W.cell? ⟨w.heap.size, 2, none⟩ = some (.int .i64 m) := by rw [hW]; first | exact (cell_set_ne _ _ _ _ _ _ (by omega)).trans (hxb.cell ec2) | exact (Ext.alloc _ _).cell ((cell_set_ne _ _ _ _ _ _ (by omega)).trans (hxb.cell ec2))
        replace d2 : W.cell? ⟨w1.heap.size, 2, none⟩ = some (.int .i64 m) := by rw [hW]; first | exact (cell_set_ne _ _ _ _ _ _ (by omega)).trans (hxb.cell d2) | exact World.cell?_setCell_same _ _ _ (hxb.cell d2) | exact (Ext.alloc _ _).cell ((cell_set_ne _ _ _ _ _ _ (by omega)).trans (hxb.cell d2)) | exact (Ext.alloc _ _).cell (World.cell?_setCell_same _ _ _ (hxb.cell d2))
        replace ec3 : W.cell? ⟨w.heap.size, 3, none⟩ = some (.slice A n c) := by rw [hW]; first | exact (cell_set_ne _ _ _ _ _ _ (by omega)).trans (hxb.cell ec3) | exact (Ext.alloc _ _).cell ((cell_set_ne _ _ _ _ _ _ (by omega)).trans (hxb.cell ec3))
        replace d3 : W.cell? ⟨w1.heap.size, 3, none⟩ = some (.slice (some ⟨w2.heap.size, 0, none⟩) 1 1) := by rw [hW]; first | exact (cell_set_ne _ _ _ _ _ _ (by omega)).trans (hxb.cell d3) | exact World.cell?_setCell_same _ _ _ (hxb.cell d3) | exact (Ext.alloc _ _).cell ((cell_set_ne _ _ _ _ _ _ (by omega)).trans (hxb.cell d3)) | exact (Ext.alloc _ _).cell (World.cell?_setCell_same _ _ _ (hxb.cell d3))
        replace ec4 : W.cell? ⟨w.heap.size, 4, none⟩ = some (.string s) := by rw [hW]; first | exact (cell_set_ne _ _ _ _ _ _ (by omega)).trans (hxb.cell ec4) | exact (Ext.alloc _ _).cell ((cell_set_ne _ _ _ _ _ _ (by omega)).trans (hxb.cell ec4))
        replace d4 : W.cell? ⟨w1.heap.size, 4, none⟩ = some (.string s) := by rw [hW]; first | exact (cell_set_ne _ _ _ _ _ _ (by omega)).trans (hxb.cell d4) | exact World.cell?_setCell_same _ _ _ (hxb.cell d4) | exact (Ext.alloc _ _).cell ((cell_set_ne _ _ _ _ _ _ (by omega)).trans (hxb.cell d4)) | exact (Ext.alloc _ _).cell (World.cell?_setCell_same _ _ _ (hxb.cell d4))
        rw [← hW]
        have hsX : Sl W (some ⟨w2.heap.size, 0, none⟩) 1 1 [0] := by rw [hW]; exact byt_set w2 _ _
        have hsE := hsl.ext hxW
        have HX := Lib.hid (turn_3 (k := 3) (o := o) (m := m) (s := s) (by omega))
        have HXL : Hid ((if false then putE 3 o m [0] s else []) = ([] : List UInt8)) := rfl
        clear hW hxb hsW f3 hlt2 hlt hx
        refine (event_Put 3 o m (some ⟨w2.heap.size, 0, none⟩) 1 1 [0] s _ hsX hs HX HXL).mono ?_
        rintro e w4 ⟨A4, n4, c4, rfl, hb4, hx4⟩
        replace ec0 := hx4.cell ec0
        replace d0 := hx4.cell d0
        replace ec1 := hx4.cell ec1
        replace d1 := hx4.cell d1
        replace ec2 := hx4.cell ec2
        replace d2 := hx4.cell d2
        replace ec3 := hx4.cell ec3
        replace d3 := hx4.cell d3
        replace ec4 := hx4.cell ec4
        replace d4 := hx4.cell d4
        go_wp2_with fail
        refine (event_Right 3 o m A n c l s _ (hsE.ext hx4) hs).mono ?_
        rintro e w5 ⟨rfl, hx5⟩
        rw [HR.out]
        replace d0 := hx5.cell d0
        replace d1 := hx5.cell d1
        replace d2 := hx5.cell d2
        replace d3 := hx5.cell d3
        replace d4 := hx5.cell d4
        go_wp2_with fail
        refine (event_Right 3 o m (some ⟨w2.heap.size, 0, none⟩) 1 1 [0] s _ ((hsX.ext hx4).ext hx5) hs).mono ?_
        rintro e w6 ⟨rfl, hx6⟩
        rw [HX.out]
        replace d0 := hx6.cell d0
        replace d1 := hx6.cell d1
        replace d2 := hx6.cell d2
        replace d3 := hx6.cell d3
        replace d4 := hx6.cell d4
        go_wp2_with fail
        refine (event_Plain 3 o m (some ⟨w2.heap.size, 0, none⟩) 1 1 [0] s _ (((hsX.ext hx4).ext hx5).ext hx6) hs).mono ?_
        rintro e w7 ⟨rfl, hx7⟩
        rw [plain_no HX.out]
        go_wp2_with fail
        refine (law5_known _).mono ?_
        rintro e w8 ⟨rfl, hx8⟩
        go_wp2_with fail
        go_ret
        exact ⟨rfl, ((((hxW.trans hx4).trans hx5).trans hx6).trans hx7).trans hx8⟩
      have g0 : ((bits BinOp.and IntKind.i64 x 255).tmod 5 == 0) = false := by simpa using q0
      have g1 : ((bits BinOp.and IntKind.i64 x 255).tmod 5 == 1) = false := by simpa using q1
      have g2 : ((bits BinOp.and IntKind.i64 x 255).tmod 5 == 2) = false := by simpa using q2
      have g3 : ((bits BinOp.and IntKind.i64 x 255).tmod 5 == 3) = false := by simpa using q3
      clear q0 q1 q2 q3
      go_enter Try.func10, Try.ntmps10
      go_wp2_with fail
      refine (ref_RightEvent 3 o m A n c s _ h63.1 hs).mono ?_
      rintro e w1 ⟨rfl, hx1⟩
      rw [HR.out]
      have ec0 : w1.cell? ⟨w.heap.size, 0, none⟩ = some (.int .i64 3) := hx1.cell (cell_new w _ _ 0)
      have ec1 : w1.cell? ⟨w.heap.size, 1, none⟩ = some (.int .i64 o) := hx1.cell (cell_new w _ _ 1)
      have ec2 : w1.cell? ⟨w.heap.size, 2, none⟩ = some (.int .i64 m) := hx1.cell (cell_new w _ _ 2)
      have ec3 : w1.cell? ⟨w.heap.size, 3, none⟩ = some (.slice A n c) := hx1.cell (cell_new w _ _ 3)
      have ec4 : w1.cell? ⟨w.heap.size, 4, none⟩ = some (.string s) := hx1.cell (cell_new w _ _ 4)
      have hx := (Ext.alloc w (.cells #[.int .i64 3, .int .i64 o, .int .i64 m, .slice A n c, .string s] 28)).trans hx1
      have hlt := World.block_lt_of_cell? _ _ ec0
      clear hx1
      go_wp2_with fail
      refine (ref_Plain 3 o m A n c s _ h63.1 hs).mono ?_
      rintro e w2 ⟨rfl, hx2⟩
      rw [HPL.out]
      replace ec0 := hx2.cell ((Ext.alloc _ _).cell ec0)
      have d0 : w2.cell? ⟨w1.heap.size, 0, none⟩ = some (.int .i64 3) := hx2.cell (cell_new w1 _ _ 0)
      replace ec1 := hx2.cell ((Ext.alloc _ _).cell ec1)
      have d1 : w2.cell? ⟨w1.heap.size, 1, none⟩ = some (.int .i64 o) := hx2.cell (cell_new w1 _ _ 1)
      replace ec2 := hx2.cell ((Ext.alloc _ _).cell ec2)
      have d2 : w2.cell? ⟨w1.heap.size, 2, none⟩ = some (.int .i64 m) := hx2.cell (cell_new w1 _ _ 2)
      replace ec3 := hx2.cell ((Ext.alloc _ _).cell ec3)
      have d3 : w2.cell? ⟨w1.heap.size, 3, none⟩ = some (.slice A n c) := hx2.cell (cell_new w1 _ _ 3)
      replace ec4 := hx2.cell ((Ext.alloc _ _).cell ec4)
      have d4 : w2.cell? ⟨w1.heap.size, 4, none⟩ = some (.string s) := hx2.cell (cell_new w1 _ _ 4)
      have hlt2 := World.block_lt_of_cell? _ _ d0
      replace hx := (hx.trans (Ext.alloc w1 _)).trans hx2
      clear hx2
      go_wp2_with fail
      refine (law5_known _).mono ?_
      rintro e w4 ⟨rfl, hx4⟩
      go_wp2_with fail
      go_ret
      exact ⟨rfl, hx.trans hx4⟩
    · obtain rfl : pl = false := by rw [hplk]; rfl
      clear hplk
      by_cases q0 : (bits BinOp.and IntKind.i64 x 255).tmod 5 = 0
      · skip
        have g0 : ((bits BinOp.and IntKind.i64 x 255).tmod 5 == 0) = true := by simpa using q0
        clear q0
        -- 0: the field, .int .i64 9: its value, w2: the world ahead of the store; then the event: k o m slice bytes text, the law
        go_enter Try.func10, Try.ntmps10
        go_wp2_with fail
        refine (ref_RightEvent 4 o m A n c s _ h63.1 hs).mono ?_
        rintro e w1 ⟨rfl, hx1⟩
        rw [HR.out]
        have ec0 : w1.cell? ⟨w.heap.size, 0, none⟩ = some (.int .i64 4) := hx1.cell (cell_new w _ _ 0)
        have ec1 : w1.cell? ⟨w.heap.size, 1, none⟩ = some (.int .i64 o) := hx1.cell (cell_new w _ _ 1)
        have ec2 : w1.cell? ⟨w.heap.size, 2, none⟩ = some (.int .i64 m) := hx1.cell (cell_new w _ _ 2)
        have ec3 : w1.cell? ⟨w.heap.size, 3, none⟩ = some (.slice A n c) := hx1.cell (cell_new w _ _ 3)
        have ec4 : w1.cell? ⟨w.heap.size, 4, none⟩ = some (.string s) := hx1.cell (cell_new w _ _ 4)
        have hx := (Ext.alloc w (.cells #[.int .i64 4, .int .i64 o, .int .i64 m, .slice A n c, .string s] 28)).trans hx1
        have hlt := World.block_lt_of_cell? _ _ ec0
        clear hx1
        go_wp2_with fail
        refine (ref_Plain 4 o m A n c s _ h63.1 hs).mono ?_
        rintro e w2 ⟨rfl, hx2⟩
        rw [HPL.out]
        replace ec0 := hx2.cell ((Ext.alloc _ _).cell ec0)
        have d0 : w2.cell? ⟨w1.heap.size, 0, none⟩ = some (.int .i64 4) := hx2.cell (cell_new w1 _ _ 0)
        replace ec1 := hx2.cell ((Ext.alloc _ _).cell ec1)
        have d1 : w2.cell? ⟨w1.heap.size, 1, none⟩ = some (.int .i64 o) := hx2.cell (cell_new w1 _ _ 1)
        replace ec2 := hx2.cell ((Ext.alloc _ _).cell ec2)
        have d2 : w2.cell? ⟨w1.heap.size, 2, none⟩ = some (.int .i64 m) := hx2.cell (cell_new w1 _ _ 2)
        replace ec3 := hx2.cell ((Ext.alloc _ _).cell ec3)
        have d3 : w2.cell? ⟨w1.heap.size, 3, none⟩ = some (.slice A n c) := hx2.cell (cell_new w1 _ _ 3)
        replace ec4 := hx2.cell ((Ext.alloc _ _).cell ec4)
        have d4 : w2.cell? ⟨w1.heap.size, 4, none⟩ = some (.string s) := hx2.cell (cell_new w1 _ _ 4)
        have hlt2 := World.block_lt_of_cell? _ _ d0
        replace hx := (hx.trans (Ext.alloc w1 _)).trans hx2
        have f0 : w2.frozen? ⟨w1.heap.size, 0, none⟩ = false := hx2.frozenF (cell_new w1 _ _ 0) (fr_new w1 _ _ 0)
        clear hx2
        go_wp2_with fail
        obtain ⟨W, hW⟩ : ∃ W, W = ((w2).setCell ⟨w1.heap.size, 0, none⟩ (.int .i64 9)) := ⟨_, rfl⟩
        have hxb : Ext w2 (w2) := by (repeat (first | (with_reducible exact Ext.refl _) | (with_reducible assumption) | (with_reducible refine Ext.draws ?_) | (with_reducible refine Ext.allocs ?_ _) | (with_reducible refine Ext.sets ?_ ?_ _) | (with_reducible exact Nat.le_refl _) | (exact (by simp)) | (exact (by simp; omega))))
        have hsW := hsl.ext (hx.trans hxb)
        have hxW : Ext w W := by rw [hW]; first | exact (hx.trans hxb).sets (by simp; omega) _ | exact ((hx.trans hxb).sets (by simp; omega) _).allocs _
        replace ec0 : W.cell? ⟨w.heap.size, 0, none⟩ = some (.int .i64 4) := by rw [hW]; first | exact (cell_set_ne _ _ _ _ _ _ (by omega)).trans (hxb.cell ec0) | exact (Ext.alloc _ _).cell ((cell_set_ne _ _ _ _ _ _ (by omega)).trans (hxb.cell ec0))
        replace d0 : W.cell? ⟨w1.heap.size, 0, none⟩ = some (.int .i64 9) := by rw [hW]; first | exact (cell_set_ne _ _ _ _ _ _ (by omega)).trans (hxb.cell d0) | exact World.cell?_setCell_same _ _ _ (hxb.cell d0) | exact (Ext.alloc _ _).cell ((cell_set_ne _ _ _ _ _ _ (by omega)).trans (hxb.cell d0)) | exact (Ext.alloc _ _).cell (World.cell?_setCell_same _ _ _ (hxb.cell d0))
        replace ec1 : W.cell? ⟨w.heap.size, 1, none⟩ = some (.int .i64 o) := by rw [hW]; first | exact (cell_set_ne _ _ _ _ _ _ (by omega)).trans (hxb.cell ec1) | exact (Ext.alloc _ _).cell ((cell_set_ne _ _ _ _ _ _ (by omega)).trans (hxb.cell ec1))
        replace d1 : W.cell? ⟨w1.heap.size, 1, none⟩ = some (.int .i64 o) := by rw [hW]; first | exact (cell_set_ne _ _ _ _ _ _ (by omega)).trans (hxb.cell d1) | exact World.cell?_setCell_same _ _ _ (hxb.cell d1) | exact (Ext.alloc _ _).cell ((cell_set_ne _ _ _ _ _ _ (by omega)).trans (hxb.cell d1)) | exact (Ext.alloc _ _).cell (World.cell?_setCell_same _ _ _ (hxb.cell d1))
        replace ec2 : W.cell? ⟨w.heap.size, 2, none⟩ = some (.int .i64 m) := by rw [hW]; first | exact (cell_set_ne _ _ _ _ _ _ (by omega)).trans (hxb.cell ec2) | exact (Ext.alloc _ _).cell ((cell_set_ne _ _ _ _ _ _ (by omega)).trans (hxb.cell ec2))
        replace d2 : W.cell? ⟨w1.heap.size, 2, none⟩ = some (.int .i64 m) := by rw [hW]; first | exact (cell_set_ne _ _ _ _ _ _ (by omega)).trans (hxb.cell d2) | exact World.cell?_setCell_same _ _ _ (hxb.cell d2) | exact (Ext.alloc _ _).cell ((cell_set_ne _ _ _ _ _ _ (by omega)).trans (hxb.cell d2)) | exact (Ext.alloc _ _).cell (World.cell?_setCell_same _ _ _ (hxb.cell d2))
        replace ec3 : W.cell? ⟨w.heap.size, 3, none⟩ = some (.slice A n c) := by rw [hW]; first | exact (cell_set_ne _ _ _ _ _ _ (by omega)).trans (hxb.cell ec3) | exact (Ext.alloc _ _).cell ((cell_set_ne _ _ _ _ _ _ (by omega)).trans (hxb.cell ec3))
        replace d3 : W.cell? ⟨w1.heap.size, 3, none⟩ = some (.slice A n c) := by rw [hW]; first | exact (cell_set_ne _ _ _ _ _ _ (by omega)).trans (hxb.cell d3) | exact World.cell?_setCell_same _ _ _ (hxb.cell d3) | exact (Ext.alloc _ _).cell ((cell_set_ne _ _ _ _ _ _ (by omega)).trans (hxb.cell d3)) | exact (Ext.alloc _ _).cell (World.cell?_setCell_same _ _ _ (hxb.cell d3))
        replace ec4 : W.cell? ⟨w.heap.size, 4, none⟩ = some (.string s) := by rw [hW]; first | exact (cell_set_ne _ _ _ _ _ _ (by omega)).trans (hxb.cell ec4) | exact (Ext.alloc _ _).cell ((cell_set_ne _ _ _ _ _ _ (by omega)).trans (hxb.cell ec4))
        replace d4 : W.cell? ⟨w1.heap.size, 4, none⟩ = some (.string s) := by rw [hW]; first | exact (cell_set_ne _ _ _ _ _ _ (by omega)).trans (hxb.cell d4) | exact World.cell?_setCell_same _ _ _ (hxb.cell d4) | exact (Ext.alloc _ _).cell ((cell_set_ne _ _ _ _ _ _ (by omega)).trans (hxb.cell d4)) | exact (Ext.alloc _ _).cell (World.cell?_setCell_same _ _ _ (hxb.cell d4))
        rw [← hW]
        have hsX : Sl W A n c l := by rw [hW]; exact hsW.keepBlk (fun ad ea hn => Below.heap_setCell _ _ _ _ (by have := hsl.blk ad ea hn; show ad.block ≠ w1.heap.size; omega))
        have hsE := hsl.ext hxW
        have HX := Lib.hid (turn_0 o m n s)
        have HXL : Hid ((if false then putE 9 o m l s else []) = ([] : List UInt8)) := rfl
        clear hW hxb hsW f0 hlt2 hlt hx
        refine (event_Put 9 o m A n c l s _ hsX hs HX HXL).mono ?_
        rintro e w4 ⟨A4, n4, c4, rfl, hb4, hx4⟩
        replace ec0 := hx4.cell ec0
        replace d0 := hx4.cell d0
        replace ec1 := hx4.cell ec1
        replace d1 := hx4.cell d1
        replace ec2 := hx4.cell ec2
        replace d2 := hx4.cell d2
        replace ec3 := hx4.cell ec3
        replace d3 := hx4.cell d3
        replace ec4 := hx4.cell ec4
        replace d4 := hx4.cell d4
        go_wp2_with fail
        refine (event_Right 4 o m A n c l s _ (hsE.ext hx4) hs).mono ?_
        rintro e w5 ⟨rfl, hx5⟩
        rw [HR.out]
        replace d0 := hx5.cell d0
        replace d1 := hx5.cell d1
        replace d2 := hx5.cell d2
        replace d3 := hx5.cell d3
        replace d4 := hx5.cell d4
        go_wp2_with fail
        refine (event_Right 9 o m A n c l s _ ((hsX.ext hx4).ext hx5) hs).mono ?_
        rintro e w6 ⟨rfl, hx6⟩
        rw [HX.out]
        replace d0 := hx6.cell d0
        replace d1 := hx6.cell d1
        replace d2 := hx6.cell d2
        replace d3 := hx6.cell d3
        replace d4 := hx6.cell d4
        go_wp2_with fail
        refine (event_Plain 9 o m A n c l s _ (((hsX.ext hx4).ext hx5).ext hx6) hs).mono ?_
        rintro e w7 ⟨rfl, hx7⟩
        rw [plain_no HX.out]
        go_wp2_with fail
        refine (law5_known _).mono ?_
        rintro e w8 ⟨rfl, hx8⟩
        go_wp2_with fail
        go_ret
        exact ⟨rfl, ((((hxW.trans hx4).trans hx5).trans hx6).trans hx7).trans hx8⟩
      by_cases q1 : (bits BinOp.and IntKind.i64 x 255).tmod 5 = 1
      · skip
        have g0 : ((bits BinOp.and IntKind.i64 x 255).tmod 5 == 0) = false := by simpa using q0
        have g1 : ((bits BinOp.and IntKind.i64 x 255).tmod 5 == 1) = true := by simpa using q1
        clear q0 q1
        -- 4: the field, .string ⟨#[97]⟩: its value, w2: the world ahead of the store; then the event: k o m slice bytes text, the law
        go_enter Try.func10, Try.ntmps10
        go_wp2_with fail
        refine (ref_RightEvent 4 o m A n c s _ h63.1 hs).mono ?_
        rintro e w1 ⟨rfl, hx1⟩
        rw [HR.out]
        have ec0 : w1.cell? ⟨w.heap.size, 0, none⟩ = some (.int .i64 4) := hx1.cell (cell_new w _ _ 0)
        have ec1 : w1.cell? ⟨w.heap.size, 1, none⟩ = some (.int .i64 o) := hx1.cell (cell_new w _ _ 1)
        have ec2 : w1.cell? ⟨w.heap.size, 2, none⟩ = some (.int .i64 m) := hx1.cell (cell_new w _ _ 2)
        have ec3 : w1.cell? ⟨w.heap.size, 3, none⟩ = some (.slice A n c) := hx1.cell (cell_new w _ _ 3)
        have ec4 : w1.cell? ⟨w.heap.size, 4, none⟩ = some (.string s) := hx1.cell (cell_new w _ _ 4)
        have hx := (Ext.alloc w (.cells #[.int .i64 4, .int .i64 o, .int .i64 m, .slice A n c, .string s] 28)).trans hx1
        have hlt := World.block_lt_of_cell? _ _ ec0
        clear hx1
        go_wp2_with fail
        refine (ref_Plain 4 o m A n c s _ h63.1 hs).mono ?_
        rintro e w2 ⟨rfl, hx2⟩
        rw [HPL.out]
        replace ec0 := hx2.cell ((Ext.alloc _ _).cell ec0)
        have d0 : w2.cell? ⟨w1.heap.size, 0, none⟩ = some (.int .i64 4) := hx2.cell (cell_new w1 _ _ 0)
        replace ec1 := hx2.cell ((Ext.alloc _ _).cell ec1)
        have d1 : w2.cell? ⟨w1.heap.size, 1, none⟩ = some (.int .i64 o) := hx2.cell (cell_new w1 _ _ 1)
        replace ec2 := hx2.cell ((Ext.alloc _ _).cell ec2)
        have d2 : w2.cell? ⟨w1.heap.size, 2, none⟩ = some (.int .i64 m) := hx2.cell (cell_new w1 _ _ 2)
        replace ec3 := hx2.cell ((Ext.alloc _ _).cell ec3)
        have d3 : w2.cell? ⟨w1.heap.size, 3, none⟩ = some (.slice A n c) := hx2.cell (cell_new w1 _ _ 3)
        replace ec4 := hx2.cell ((Ext.alloc _ _).cell ec4)
        have d4 : w2.cell? ⟨w1.heap.size, 4, none⟩ = some (.string s) := hx2.cell (cell_new w1 _ _ 4)
        have hlt2 := World.block_lt_of_cell? _ _ d0
        replace hx := (hx.trans (Ext.alloc w1 _)).trans hx2
        have f4 : w2.frozen? ⟨w1.heap.size, 4, none⟩ = false := hx2.frozenF (cell_new w1 _ _ 4) (fr_new w1 _ _ 4)
        clear hx2
        go_wp2_with fail
        obtain ⟨W, hW⟩ : ∃ W, W = ((w2).setCell ⟨w1.heap.size, 4, none⟩ (.string ⟨#[97]⟩)) := ⟨_, rfl⟩
        have hxb : Ext w2 (w2) := by (repeat (first | (with_reducible exact Ext.refl _) | (with_reducible assumption) | (with_reducible refine Ext.draws ?_) | (with_reducible refine Ext.allocs ?_ _) | (with_reducible refine Ext.sets ?_ ?_ _) | (with_reducible exact Nat.le_refl _) | (exact (by simp)) | (exact (by simp; omega))))
        have hsW := hsl.ext (hx.trans hxb)
        have hxW : Ext w W := by rw [hW]; first | exact (hx.trans hxb).sets (by simp; omega) _ | exact ((hx.trans hxb).sets (by simp; omega) _).allocs _
        replace ec0 : W.cell? ⟨w.heap.size, 0, none⟩ = some (.int .i64 4) := by rw [hW]; first | exact (cell_set_ne _ _ _ _ _ _ (by omega)).trans (hxb.cell ec0) | exact (Ext.alloc _ _).cell ((cell_set_ne _ _ _ _ _ _ (by omega)).trans (hxb.cell ec0))
        replace d0 : W.cell? ⟨w1.heap.size, 0, none⟩ = some (.int .i64 4) := by rw [hW]; first | exact (cell_set_ne _ _ _ _ _ _ (by omega)).trans (hxb.cell d0) | exact World.cell?_setCell_same _ _ _ (hxb.cell d0) | exact (Ext.alloc _ _).cell ((cell_set_ne _ _ _ _ _ _ (by omega)).trans (hxb.cell d0)) | exact (Ext.alloc _ _).cell (World.cell?_setCell_same _ _ _ (hxb.cell d0))
        replace ec1 : W.cell? ⟨w.heap.size, 1, none⟩ = some (.int .i64 o) := by rw [hW]; first | exact (cell_set_ne _ _ _ _ _ _ (by omega)).trans (hxb.cell ec1) | exact (Ext.alloc _ _).cell ((cell_set_ne _ _ _ _ _ _ (by omega)).trans (hxb.cell ec1))
        replace d1 : W.cell? ⟨w1.heap.size, 1, none⟩ = some (.int .i64 o) := by rw [hW]; first | exact (cell_set_ne _ _ _ _ _ _ (by omega)).trans (hxb.cell d1) | exact World.cell?_setCell_same _ _ _ (hxb.cell d1) | exact (Ext.alloc _ _).cell ((cell_set_ne _ _ _ _ _ _ (by omega)).trans (hxb.cell d1)) | exact (Ext.alloc _ _).cell (World.cell?_setCell_same _ _ _ (hxb.cell d1))
        replace ec2 : W.cell? ⟨w.heap.size, 2, none⟩ = some (.int .i64 m) := by rw [hW]; first | exact (cell_set_ne _ _ _ _ _ _ (by omega)).trans (hxb.cell ec2) | exact (Ext.alloc _ _).cell ((cell_set_ne _ _ _ _ _ _ (by omega)).trans (hxb.cell ec2))
        replace d2 : W.cell? ⟨w1.heap.size, 2, none⟩ = some (.int .i64 m) := by rw [hW]; first | exact (cell_set_ne _ _ _ _ _ _ (by omega)).trans (hxb.cell d2) | exact World.cell?_setCell_same _ _ _ (hxb.cell d2) | exact (Ext.alloc _ _).cell ((cell_set_ne _ _ _ _ _ _ (by omega)).trans (hxb.cell d2)) | exact (Ext.alloc _ _).cell (World.cell?_setCell_same _ _ _ (hxb.cell d2))
        replace ec3 : W.cell? ⟨w.heap.size, 3, none⟩ = some (.slice A n c) := by rw [hW]; first | exact (cell_set_ne _ _ _ _ _ _ (by omega)).trans (hxb.cell ec3) | exact (Ext.alloc _ _).cell ((cell_set_ne _ _ _ _ _ _ (by omega)).trans (hxb.cell ec3))
        replace d3 : W.cell? ⟨w1.heap.size, 3, none⟩ = some (.slice A n c) := by rw [hW]; first | exact (cell_set_ne _ _ _ _ _ _ (by omega)).trans (hxb.cell d3) | exact World.cell?_setCell_same _ _ _ (hxb.cell d3) | exact (Ext.alloc _ _).cell ((cell_set_ne _ _ _ _ _ _ (by omega)).trans (hxb.cell d3)) | exact (Ext.alloc _ _).cell (World.cell?_setCell_same _ _ _ (hxb.cell d3))
        replace ec4 : W.cell? ⟨w.heap.size, 4, none⟩ = some (.string s) := by rw [hW]; first | exact (cell_set_ne _ _ _ _ _ _ (by omega)).trans (hxb.cell ec4) | exact (Ext.alloc _ _).cell ((cell_set_ne _ _ _ _ _ _ (by omega)).trans (hxb.cell ec4))
        replace d4 : W.cell? ⟨w1.heap.size, 4, none⟩ = some (.string ⟨#[97]⟩) := by rw [hW]; first | exact (cell_set_ne _ _ _ _ _ _ (by omega)).trans (hxb.cell d4) | exact World.cell?_setCell_same _ _ _ (hxb.cell d4) | exact (Ext.alloc _ _).cell ((cell_set_ne _ _ _ _ _ _ (by omega)).trans (hxb.cell d4)) | exact (Ext.alloc _ _).cell (World.cell?_setCell_same _ _ _ (hxb.cell d4))
        rw [← hW]
        have hsX : Sl W A n c l := by rw [hW]; exact hsW.keepBlk (fun ad ea hn => Below.heap_setCell _ _ _ _ (by have := hsl.blk ad ea hn; show ad.block ≠ w1.heap.size; omega))
        have hsE := hsl.ext hxW
        have HX := Lib.hid (turn_1 (k := 4) (o := o) (m := m) (n := n) (by omega))
        have HXL : Hid ((if false then putE 4 o m l ⟨#[97]⟩ else []) = ([] : List UInt8)) := rfl
        clear hW hxb hsW f4 hlt2 hlt hx
        refine (event_Put 4 o m A n c l ⟨#[97]⟩ _ hsX (by simp [maxLen, ByteArray.size]) HX HXL).mono ?_
        rintro e w4 ⟨A4, n4, c4, rfl, hb4, hx4⟩
        replace ec0 := hx4.cell ec0
        replace d0 := hx4.cell d0
        replace ec1 := hx4.cell ec1
        replace d1 := hx4.cell d1
        replace ec2 := hx4.cell ec2
        replace d2 := hx4.cell d2
        replace ec3 := hx4.cell ec3
        replace d3 := hx4.cell d3
        replace ec4 := hx4.cell ec4
        replace d4 := hx4.cell d4
        go_wp2_with fail
        refine (event_Right 4 o m A n c l s _ (hsE.ext hx4) hs).mono ?_
        rintro e w5 ⟨rfl, hx5⟩
        rw [HR.out]
        replace d0 := hx5.cell d0
        replace d1 := hx5.cell d1
        replace d2 := hx5.cell d2
        replace d3 := hx5.cell d3
        replace d4 := hx5.cell d4
        go_wp2_with fail
        refine (event_Right 4 o m A n c l ⟨#[97]⟩ _ ((hsX.ext hx4).ext hx5) (by simp [maxLen, ByteArray.size])).mono ?_
        rintro e w6 ⟨rfl, hx6⟩
        rw [HX.out]
        replace d0 := hx6.cell d0
        replace d1 := hx6.cell d1
        replace d2 := hx6.cell d2
        replace d3 := hx6.cell d3
        replace d4 := hx6.cell d4
        go_wp2_with fail
        refine (event_Plain 4 o m A n c l ⟨#[97]⟩ _ (((hsX.ext hx4).ext hx5).ext hx6) (by simp [maxLen, ByteArray.size])).mono ?_
        rintro e w7 ⟨rfl, hx7⟩
        rw [plain_no HX.out]
        go_wp2_with fail
        refine (law5_known _).mono ?_
        rintro e w8 ⟨rfl, hx8⟩
        go_wp2_with fail
        go_ret
        exact ⟨rfl, ((((hxW.trans hx4).trans hx5).trans hx6).trans hx7).trans hx8⟩
      by_cases q2 : (bits BinOp.and IntKind.i64 x 255).tmod 5 = 2
      · skip
        have g0 : ((bits BinOp.and IntKind.i64 x 255).tmod 5 == 0) = false := by simpa using q0
        have g1 : ((bits BinOp.and IntKind.i64 x 255).tmod 5 == 1) = false := by simpa using q1
        have g2 : ((bits BinOp.and IntKind.i64 x 255).tmod 5 == 2) = true := by simpa using q2
        clear q0 q1 q2
        -- 1: the field, .int .i64 1: its value, w2: the world ahead of the store; then the event: k o m slice bytes text, the law
        go_enter Try.func10, Try.ntmps10
        go_wp2_with fail
        refine (ref_RightEvent 4 o m A n c s _ h63.1 hs).mono ?_
        rintro e w1 ⟨rfl, hx1⟩
        rw [HR.out]
        have ec0 : w1.cell? ⟨w.heap.size, 0, none⟩ = some (.int .i64 4) := hx1.cell (cell_new w _ _ 0)
        have ec1 : w1.cell? ⟨w.heap.size, 1, none⟩ = some (.int .i64 o) := hx1.cell (cell_new w _ _ 1)
        have ec2 : w1.cell? ⟨w.heap.size, 2, none⟩ = some (.int .i64 m) := hx1.cell (cell_new w _ _ 2)
        have ec3 : w1.cell? ⟨w.heap.size, 3, none⟩ = some (.slice A n c) := hx1.cell (cell_new w _ _ 3)
        have ec4 : w1.cell? ⟨w.heap.size, 4, none⟩ = some (.string s) := hx1.cell (cell_new w _ _ 4)
        have hx := (Ext.alloc w (.cells #[.int .i64 4, .int .i64 o, .int .i64 m, .slice A n c, .string s] 28)).trans hx1
        have hlt := World.block_lt_of_cell? _ _ ec0
        clear hx1
        go_wp2_with fail
        refine (ref_Plain 4 o m A n c s _ h63.1 hs).mono ?_
        rintro e w2 ⟨rfl, hx2⟩
        rw [HPL.out]
        replace ec0 := hx2.cell ((Ext.alloc _ _).cell ec0)
        have d0 : w2.cell? ⟨w1.heap.size, 0, none⟩ = some (.int .i64 4) := hx2.cell (cell_new w1 _ _ 0)
        replace ec1 := hx2.cell ((Ext.alloc _ _).cell ec1)
        have d1 : w2.cell? ⟨w1.heap.size, 1, none⟩ = some (.int .i64 o) := hx2.cell (cell_new w1 _ _ 1)
        replace ec2 := hx2.cell ((Ext.alloc _ _).cell ec2)
        have d2 : w2.cell? ⟨w1.heap.size, 2, none⟩ = some (.int .i64 m) := hx2.cell (cell_new w1 _ _ 2)
        replace ec3 := hx2.cell ((Ext.alloc _ _).cell ec3)
        have d3 : w2.cell? ⟨w1.heap.size, 3, none⟩ = some (.slice A n c) := hx2.cell (cell_new w1 _ _ 3)
        replace ec4 := hx2.cell ((Ext.alloc _ _).cell ec4)
        have d4 : w2.cell? ⟨w1.heap.size, 4, none⟩ = some (.string s) := hx2.cell (cell_new w1 _ _ 4)
        have hlt2 := World.block_lt_of_cell? _ _ d0
        replace hx := (hx.trans (Ext.alloc w1 _)).trans hx2
        have f1 : w2.frozen? ⟨w1.heap.size, 1, none⟩ = false := hx2.frozenF (cell_new w1 _ _ 1) (fr_new w1 _ _ 1)
        clear hx2
        go_wp2_with fail
        obtain ⟨W, hW⟩ : ∃ W, W = ((w2).setCell ⟨w1.heap.size, 1, none⟩ (.int .i64 1)) := ⟨_, rfl⟩
        have hxb : Ext w2 (w2) := by (repeat (first | (with_reducible exact Ext.refl _) | (with_reducible assumption) | (with_reducible refine Ext.draws ?_) | (with_reducible refine Ext.allocs ?_ _) | (with_reducible refine Ext.sets ?_ ?_ _) | (with_reducible exact Nat.le_refl _) | (exact (by simp)) | (exact (by simp; omega))))
        have hsW := hsl.ext (hx.trans hxb)
        have hxW : Ext w W := by rw [hW]; first | exact (hx.trans hxb).sets (by simp; omega) _ | exact ((hx.trans hxb).sets (by simp; omega) _).allocs _
        replace ec0 : W.cell? ⟨w.heap.size, 0, none⟩ = some (.int .i64 4) := by rw [hW]; first | exact (cell_set_ne _ _ _ _ _ _ (by omega)).trans (hxb.cell ec0) | exact (Ext.alloc _ _).cell ((cell_set_ne _ _ _ _ _ _ (by omega)).trans (hxb.cell ec0))
        replace d0 : W.cell? ⟨w1.heap.size, 0, none⟩ = some (.int .i64 4) := by rw [hW]; first | exact (cell_set_ne _ _ _ _ _ _ (by omega)).trans (hxb.cell d0) | exact World.cell?_setCell_same _ _ _ (hxb.cell d0) | exact (Ext.alloc _ _).cell ((cell_set_ne _ _ _ _ _ _ (by omega)).trans (hxb.cell d0)) | exact (Ext.alloc _ _).cell (World.cell?_setCell_same _ _ _ (hxb.cell d0))
        replace ec1 : W.cell? ⟨w.heap.size, 1, none⟩ = some (.int .i64 o) := by rw [hW]; first | exact (cell_set_ne _ _ _ _ _ _ (by omega)).trans (hxb.cell ec1) | exact (Ext.alloc _ _).cell ((cell_set_ne _ _ _ _ _ _ (by omega)).trans (hxb.cell ec1))
        replace d1 : W.cell? ⟨w1.heap.size, 1, none⟩ = some (.int .i64 1) := by rw [hW]; first | exact (cell_set_ne _ _ _ _ _ _ (by omega)).trans (hxb.cell d1) | exact World.cell?_setCell_same _ _ _ (hxb.cell d1) | exact (Ext.alloc _ _).cell ((cell_set_ne _ _ _ _ _ _ (by omega)).trans (hxb.cell d1)) | exact (Ext.alloc _ _).cell (World.cell?_setCell_same _ _ _ (hxb.cell d1))
        replace ec2 : W.cell? ⟨w.heap.size, 2, none⟩ = some (.int .i64 m) := by rw [hW]; first | exact (cell_set_ne _ _ _ _ _ _ (by omega)).trans (hxb.cell ec2) | exact (Ext.alloc _ _).cell ((cell_set_ne _ _ _ _ _ _ (by omega)).trans (hxb.cell ec2))
        replace d2 : W.cell? ⟨w1.heap.size, 2, none⟩ = some (.int .i64 m) := by rw [hW]; first | exact (cell_set_ne _ _ _ _ _ _ (by omega)).trans (hxb.cell d2) | exact World.cell?_setCell_same _ _ _ (hxb.cell d2) | exact (Ext.alloc _ _).cell ((cell_set_ne _ _ _ _ _ _ (by omega)).trans (hxb.cell d2)) | exact (Ext.alloc _ _).cell (World.cell?_setCell_same _ _ _ (hxb.cell d2))
        replace ec3 : W.cell? ⟨w.heap.size, 3, none⟩ = some (.slice A n c) := by rw [hW]; first | exact (cell_set_ne _ _ _ _ _ _ (by omega)).trans (hxb.cell ec3) | exact (Ext.alloc _ _).cell ((cell_set_ne _ _ _ _ _ _ (by omega)).trans (hxb.cell ec3))
        replace d3 : W.cell? ⟨w1.heap.size, 3, none⟩ = some (.slice A n c) := by rw [hW]; first | exact (cell_set_ne _ _ _ _ _ _ (by omega)).trans (hxb.cell d3) | exact World.cell?_setCell_same _ _ _ (hxb.cell d3) | exact (Ext.alloc _ _).cell ((cell_set_ne _ _ _ _ _ _ (by omega)).trans (hxb.cell d3)) | exact (Ext.alloc _ _).cell (World.cell?_setCell_same _ _ _ (hxb.cell d3))
        replace ec4 : W.cell? ⟨w.heap.size, 4, none⟩ = some (.string s) := by rw [hW]; first | exact (cell_set_ne _ _ _ _ _ _ (by omega)).trans (hxb.cell ec4) | exact (Ext.alloc _ _).cell ((cell_set_ne _ _ _ _ _ _ (by omega)).trans (hxb.cell ec4))
        replace d4 : W.cell? ⟨w1.heap.size, 4, none⟩ = some (.string s) := by rw [hW]; first | exact (cell_set_ne _ _ _ _ _ _ (by omega)).trans (hxb.cell d4) | exact World.cell?_setCell_same _ _ _ (hxb.cell d4) | exact (Ext.alloc _ _).cell ((cell_set_ne _ _ _ _ _ _ (by omega)).trans (hxb.cell d4)) | exact (Ext.alloc _ _).cell (World.cell?_setCell_same _ _ _ (hxb.cell d4))
        rw [← hW]
        have hsX : Sl W A n c l := by rw [hW]; exact hsW.keepBlk (fun ad ea hn => Below.heap_setCell _ _ _ _ (by have := hsl.blk ad ea hn; show ad.block ≠ w1.heap.size; omega))
        have hsE := hsl.ext hxW
        have HX := Lib.hid (turn_2 (k := 4) (m := m) (n := n) (s := s) (by omega))
        have HXL : Hid ((if false then putE 4 1 m l s else []) = ([] : List UInt8)) := rfl
        clear hW hxb hsW f1 hlt2 hlt hx
        refine (event_Put 4 1 m A n c l s _ hsX hs HX HXL).mono ?_
        rintro e w4 ⟨A4, n4, c4, rfl, hb4, hx4⟩
        replace ec0 := hx4.cell ec0
        replace d0 := hx4.cell d0
        replace ec1 := hx4.cell ec1
        replace d1 := hx4.cell d1
        replace ec2 := hx4.cell ec2
        replace d2 := hx4.cell d2
        replace ec3 := hx4.cell ec3
        replace d3 := hx4.cell d3
        replace ec4 := hx4.cell ec4
        replace d4 := hx4.cell d4
        go_wp2_with fail
        refine (event_Right 4 o m A n c l s _ (hsE.ext hx4) hs).mono ?_
        rintro e w5 ⟨rfl, hx5⟩
        rw [HR.out]
        replace d0 := hx5.cell d0
        replace d1 := hx5.cell d1
        replace d2 := hx5.cell d2
        replace d3 := hx5.cell d3
        replace d4 := hx5.cell d4
        go_wp2_with fail
        refine (event_Right 4 1 m A n c l s _ ((hsX.ext hx4).ext hx5) hs).mono ?_
        rintro e w6 ⟨rfl, hx6⟩
        rw [HX.out]
        replace d0 := hx6.cell d0
        replace d1 := hx6.cell d1
        replace d2 := hx6.cell d2
        replace d3 := hx6.cell d3
        replace d4 := hx6.cell d4
        go_wp2_with fail
        refine (event_Plain 4 1 m A n c l s _ (((hsX.ext hx4).ext hx5).ext hx6) hs).mono ?_
        rintro e w7 ⟨rfl, hx7⟩
        rw [plain_no HX.out]
        go_wp2_with fail
        refine (law5_known _).mono ?_
        rintro e w8 ⟨rfl, hx8⟩
        go_wp2_with fail
        go_ret
        exact ⟨rfl, ((((hxW.trans hx4).trans hx5).trans hx6).trans hx7).trans hx8⟩
      by_cases q3 : (bits BinOp.and IntKind.i64 x 255).tmod 5 = 3
      · skip
        have g0 : ((bits BinOp.and IntKind.i64 x 255).tmod 5 == 0) = false := by simpa using q0
        have g1 : ((bits BinOp.and IntKind.i64 x 255).tmod 5 == 1) = false := by simpa using q1
        have g2 : ((bits BinOp.and IntKind.i64 x 255).tmod 5 == 2) = false := by simpa using q2
        have g3 : ((bits BinOp.and IntKind.i64 x 255).tmod 5 == 3) = true := by simpa using q3
        clear q0 q1 q2 q3
        -- 3: the field, .slice (some ⟨w2.heap.size, 0, none⟩) 1 1: its value, w2: the world ahead of the store; then the event: k o m slice bytes text, the law
        go_enter Try.func10, Try.ntmps10
        go_wp2_with fail
        refine (ref_RightEvent 4 o m A n c s _ h63.1 hs).mono ?_
        rintro e w1 ⟨rfl, hx1⟩
        rw [HR.out]
        have ec0 : w1.cell? ⟨w.heap.size, 0, none⟩ = some (.int .i64 4) := hx1.cell (cell_new w _ _ 0)
        have ec1 : w1.cell? ⟨w.heap.size, 1, none⟩ = some (.int .i64 o) := hx1.cell (cell_new w _ _ 1)
        have ec2 : w1.cell? ⟨w.heap.size, 2, none⟩ = some (.int .i64 m) := hx1.cell (cell_new w _ _ 2)
        have ec3 : w1.cell? ⟨w.heap.size, 3, none⟩ = some (.slice A n c) := hx1.cell (cell_new w _ _ 3)
        have ec4 : w1.cell? ⟨w.heap.size, 4, none⟩ = some (.string s) := hx1.cell (cell_new w _ _ 4)
        have hx := (Ext.alloc w (.cells #[.int .i64 4, .int .i64 o, .int .i64 m, .slice A n c, .string s] 28)).trans hx1
        have hlt := World.block_lt_of_cell? _ _ ec0
        clear hx1
        go_wp2_with fail
        refine (ref_Plain 4 o m A n c s _ h63.1 hs).mono ?_
        rintro e w2 ⟨rfl, hx2⟩
        rw [HPL.out]
        replace ec0 := hx2.cell ((Ext.alloc _ _).cell ec0)
        have d0 : w2.cell? ⟨w1.heap.size, 0, none⟩ = some (.int .i64 4) := hx2.cell (cell_new w1 _ _ 0)
        replace ec1 := hx2.cell ((Ext.alloc _ _).cell ec1)
        have d1 : w2.cell? ⟨w1.heap.size, 1, none⟩ = some (.int .i64 o) := hx2.cell (cell_new w1 _ _ 1)
        replace ec2 := hx2.cell ((Ext.alloc _ _).cell ec2)
        have d2 : w2.cell? ⟨w1.heap.size, 2, none⟩ = some (.int .i64 m) := hx2.cell (cell_new w1 _ _ 2)
        replace ec3 := hx2.cell ((Ext.alloc _ _).cell ec3)
        have d3 : w2.cell? ⟨w1.heap.size, 3, none⟩ = some (.slice A n c) := hx2.cell (cell_new w1 _ _ 3)
        replace ec4 := hx2.cell ((Ext.alloc _ _).cell ec4)
        have d4 : w2.cell? ⟨w1.heap.size, 4, none⟩ = some (.string s) := hx2.cell (cell_new w1 _ _ 4)
        have hlt2 := World.block_lt_of_cell? _ _ d0
        replace hx := (hx.trans (Ext.alloc w1 _)).trans hx2
        have f3 : w2.frozen? ⟨w1.heap.size, 3, none⟩ = false := hx2.frozenF (cell_new w1 _ _ 3) (fr_new w1 _ _ 3)
        clear hx2
        go_wp2_with fail
        obtain ⟨W, hW⟩ : ∃ W, W = ((w2).setCell ⟨w1.heap.size, 3, none⟩ (.slice (some ⟨w2.heap.size, 0, none⟩) 1 1)).alloc (.cells #[.int .u8 0] U8) := ⟨_, rfl⟩
        have hxb : Ext w2 (w2) := by (repeat (first | (with_reducible exact Ext.refl _) | (with_reducible assumption) | (with_reducible refine Ext.draws ?_) | (with_reducible refine Ext.allocs ?_ _) | (with_reducible refine Ext.sets ?_ ?_ _) | (with_reducible exact Nat.le_refl _) | (exact (by simp)) | (exact (by simp; omega))))
        have hsW := hsl.ext (hx.trans hxb)
        have hxW : Ext w W := by rw [hW]; first | exact (hx.trans hxb).sets (by simp; omega) _ | exact ((hx.trans hxb).sets (by simp; omega) _).allocs _
        replace ec0 : W.cell? ⟨w.heap.size, 0, none⟩ = some (.int .i64 4) := by rw [hW]; first | exact (cell_set_ne _ _ _ _ _ _ (by omega)).trans (hxb.cell ec0) | exact (Ext.alloc _ _).cell ((cell_set_ne _ _ _ _ _ _ (by omega)).trans (hxb.cell ec0))
        replace d0 : W.cell? ⟨w1.heap.size, 0, none⟩ = some (.int .i64 4) := by rw [hW]; first | exact (cell_set_ne _ _ _ _ _ _ (by omega)).trans (hxb.cell d0) | exact World.cell?_setCell_same _ _ _ (hxb.cell d0) | exact (Ext.alloc _ _).cell ((cell_set_ne _ _ _ _ _ _ (by omega)).trans (hxb.cell d0)) | exact (Ext.alloc _ _).cell (World.cell?_setCell_same _ _ _ (hxb.cell d0))
        replace ec1 : W.cell? ⟨w.heap.size, 1, none⟩ = some (.int .i64 o) := by rw [hW]; first | exact (cell_set_ne _ _ _ _ _ _ (by omega)).trans (hxb.cell ec1) | exact (Ext.alloc _ _).cell ((cell_set_ne _ _ _ _ _ _ (by omega)).trans (hxb.cell ec1))
        replace d1 : W.cell? ⟨w1.heap.size, 1, none⟩ = some (.int .i64 o) := by rw [hW]; first | exact (cell_set_ne _ _ _ _ _ _ (by omega)).trans (hxb.cell d1) | exact World.cell?_setCell_same _ _ _ (hxb.cell d1) | exact (Ext.alloc _ _).cell ((cell_set_ne _ _ _ _ _ _ (by omega)).trans (hxb.cell d1)) | exact (Ext.alloc _ _).cell (World.cell?_setCell_same _ _ _ (hxb.cell d1))
        replace ec2 : W.cell? ⟨w.heap.size, 2, none⟩ = some (.int .i64 m) := by rw [hW]; first | exact (cell_set_ne _ _ _ _ _ _ (by omega)).trans (hxb.cell ec2) | exact (Ext.alloc _ _).cell ((cell_set_ne _ _ _ _ _ _ (by omega)).trans (hxb.cell ec2))
        replace d2 : W.cell? ⟨w1.heap.size, 2, none⟩ = some (.int .i64 m) := by rw [hW]; first | exact (cell_set_ne _ _ _ _ _ _ (by omega)).trans (hxb.cell d2) | exact World.cell?_setCell_same _ _ _ (hxb.cell d2) | exact (Ext.alloc _ _).cell ((cell_set_ne _ _ _ _ _ _ (by omega)).trans (hxb.cell d2)) | exact (Ext.alloc _ _).cell (World.cell?_setCell_same _ _ _ (hxb.cell d2))
        replace ec3 : W.cell? ⟨w.heap.size, 3, none⟩ = some (.slice A n c) := by rw [hW]; first | exact (cell_set_ne _ _ _ _ _ _ (by omega)).trans (hxb.cell ec3) | exact (Ext.alloc _ _).cell ((cell_set_ne _ _ _ _ _ _ (by omega)).trans (hxb.cell ec3))
        replace d3 : W.cell? ⟨w1.heap.size, 3, none⟩ = some (.slice (some ⟨w2.heap.size, 0, none⟩) 1 1) := by rw [hW]; first | exact (cell_set_ne _ _ _ _ _ _ (by omega)).trans (hxb.cell d3) | exact World.cell?_setCell_same _ _ _ (hxb.cell d3) | exact (Ext.alloc _ _).cell ((cell_set_ne _ _ _ _ _ _ (by omega)).trans (hxb.cell d3)) | exact (Ext.alloc _ _).cell (World.cell?_setCell_same _ _ _ (hxb.cell d3))
        replace ec4 : W.cell? ⟨w.heap.size, 4, none⟩ = some (.string s) := by rw [hW]; first | exact (cell_set_ne _ _ _ _ _ _ (by omega)).trans (hxb.cell ec4) | exact (Ext.alloc _ _).cell ((cell_set_ne _ _ _ _ _ _ (by omega)).trans (hxb.cell ec4))
        replace d4 : W.cell? ⟨w1.heap.size, 4, none⟩ = some (.string s) := by rw [hW]; first | exact (cell_set_ne _ _ _ _ _ _ (by omega)).trans (hxb.cell d4) | exact World.cell?_setCell_same _ _ _ (hxb.cell d4) | exact (Ext.alloc _ _).cell ((cell_set_ne _ _ _ _ _ _ (by omega)).trans (hxb.cell d4)) | exact (Ext.alloc _ _).cell (World.cell?_setCell_same _ _ _ (hxb.cell d4))
        rw [← hW]
        have hsX : Sl W (some ⟨w2.heap.size, 0, none⟩) 1 1 [0] := by rw [hW]; exact byt_set w2 _ _
        have hsE := hsl.ext hxW
        have HX := Lib.hid (turn_3 (k := 4) (o := o) (m := m) (s := s) (by omega))
        have HXL : Hid ((if false then putE 4 o m [0] s else []) = ([] : List UInt8)) := rfl
        clear hW hxb hsW f3 hlt2 hlt hx
        refine (event_Put 4 o m (some ⟨w2.heap.size, 0, none⟩) 1 1 [0] s _ hsX hs HX HXL).mono ?_
        rintro e w4 ⟨A4, n4, c4, rfl, hb4, hx4⟩
        replace ec0 := hx4.cell ec0
        replace d0 := hx4.cell d0
        replace ec1 := hx4.cell ec1
        replace d1 := hx4.cell d1
        replace ec2 := hx4.cell ec2
        replace d2 := hx4.cell d2
        replace ec3 := hx4.cell ec3
        replace d3 := hx4.cell d3
        replace ec4 := hx4.cell ec4
        replace d4 := hx4.cell d4
        go_wp2_with fail
        refine (event_Right 4 o m A n c l s _ (hsE.ext hx4) hs).mono ?_
        rintro e w5 ⟨rfl, hx5⟩
        rw [HR.out]
        replace d0 := hx5.cell d0
        replace d1 := hx5.cell d1
        replace d2 := hx5.cell d2
        replace d3 := hx5.cell d3
        replace d4 := hx5.cell d4
        go_wp2_with fail
        refine (event_Right 4 o m (some ⟨w2.heap.size, 0, none⟩) 1 1 [0] s _ ((hsX.ext hx4).ext hx5) hs).mono ?_
        rintro e w6 ⟨rfl, hx6⟩
        rw [HX.out]
        replace d0 := hx6.cell d0
        replace d1 := hx6.cell d1
        replace d2 := hx6.cell d2
        replace d3 := hx6.cell d3
        replace d4 := hx6.cell d4
        go_wp2_with fail
        refine (event_Plain 4 o m (some ⟨w2.heap.size, 0, none⟩) 1 1 [0] s _ (((hsX.ext hx4).ext hx5).ext hx6) hs).mono ?_
        rintro e w7 ⟨rfl, hx7⟩
        rw [plain_no HX.out]
        go_wp2_with fail
        refine (law5_known _).mono ?_
        rintro e w8 ⟨rfl, hx8⟩
        go_wp2_with fail
        go_ret
        exact ⟨rfl, ((((hxW.trans hx4).trans hx5).trans hx6).trans hx7).trans hx8⟩
      have g0 : ((bits BinOp.and IntKind.i64 x 255).tmod 5 == 0) = false := by simpa using q0
      have g1 : ((bits BinOp.and IntKind.i64 x 255).tmod 5 == 1) = false := by simpa using q1
      have g2 : ((bits BinOp.and IntKind.i64 x 255).tmod 5 == 2) = false := by simpa using q2
      have g3 : ((bits BinOp.and IntKind.i64 x 255).tmod 5 == 3) = false := by simpa using q3
      clear q0 q1 q2 q3
      go_enter Try.func10, Try.ntmps10
      go_wp2_with fail
      refine (ref_RightEvent 4 o m A n c s _ h63.1 hs).mono ?_
      rintro e w1 ⟨rfl, hx1⟩
      rw [HR.out]
      have ec0 : w1.cell? ⟨w.heap.size, 0, none⟩ = some (.int .i64 4) := hx1.cell (cell_new w _ _ 0)
      have ec1 : w1.cell? ⟨w.heap.size, 1, none⟩ = some (.int .i64 o) := hx1.cell (cell_new w _ _ 1)
      have ec2 : w1.cell? ⟨w.heap.size, 2, none⟩ = some (.int .i64 m) := hx1.cell (cell_new w _ _ 2)
      have ec3 : w1.cell? ⟨w.heap.size, 3, none⟩ = some (.slice A n c) := hx1.cell (cell_new w _ _ 3)
      have ec4 : w1.cell? ⟨w.heap.size, 4, none⟩ = some (.string s) := hx1.cell (cell_new w _ _ 4)
      have hx := (Ext.alloc w (.cells #[.int .i64 4, .int .i64 o, .int .i64 m, .slice A n c, .string s] 28)).trans hx1
      have hlt := World.block_lt_of_cell? _ _ ec0
      clear hx1
      go_wp2_with fail
      refine (ref_Plain 4 o m A n c s _ h63.1 hs).mono ?_
      rintro e w2 ⟨rfl, hx2⟩
      rw [HPL.out]
      replace ec0 := hx2.cell ((Ext.alloc _ _).cell ec0)
      have d0 : w2.cell? ⟨w1.heap.size, 0, none⟩ = some (.int .i64 4) := hx2.cell (cell_new w1 _ _ 0)
      replace ec1 := hx2.cell ((Ext.alloc _ _).cell ec1)
      have d1 : w2.cell? ⟨w1.heap.size, 1, none⟩ = some (.int .i64 o) := hx2.cell (cell_new w1 _ _ 1)
      replace ec2 := hx2.cell ((Ext.alloc _ _).cell ec2)
      have d2 : w2.cell? ⟨w1.heap.size, 2, none⟩ = some (.int .i64 m) := hx2.cell (cell_new w1 _ _ 2)
      replace ec3 := hx2.cell ((Ext.alloc _ _).cell ec3)
      have d3 : w2.cell? ⟨w1.heap.size, 3, none⟩ = some (.slice A n c) := hx2.cell (cell_new w1 _ _ 3)
      replace ec4 := hx2.cell ((Ext.alloc _ _).cell ec4)
      have d4 : w2.cell? ⟨w1.heap.size, 4, none⟩ = some (.string s) := hx2.cell (cell_new w1 _ _ 4)
      have hlt2 := World.block_lt_of_cell? _ _ d0
      replace hx := (hx.trans (Ext.alloc w1 _)).trans hx2
      clear hx2
      go_wp2_with fail
      refine (law5_known _).mono ?_
      rintro e w4 ⟨rfl, hx4⟩
      go_wp2_with fail
      go_ret
      exact ⟨rfl, hx.trans hx4⟩
    · obtain rfl : pl = false := by rw [hplk]; rfl
      clear hplk
      by_cases q0 : (bits BinOp.and IntKind.i64 x 255).tmod 5 = 0
      · skip
        have g0 : ((bits BinOp.and IntKind.i64 x 255).tmod 5 == 0) = true := by simpa using q0
        clear q0
        -- 0: the field, .int .i64 9: its value, w2: the world ahead of the store; then the event: k o m slice bytes text, the law
        go_enter Try.func10, Try.ntmps10
        go_wp2_with fail
        refine (ref_RightEvent 5 o m A n c s _ h63.1 hs).mono ?_
        rintro e w1 ⟨rfl, hx1⟩
        rw [HR.out]
        have ec0 : w1.cell? ⟨w.heap.size, 0, none⟩ = some (.int .i64 5) := hx1.cell (cell_new w _ _ 0)
        have ec1 : w1.cell? ⟨w.heap.size, 1, none⟩ = some (.int .i64 o) := hx1.cell (cell_new w _ _ 1)
        have ec2 : w1.cell? ⟨w.heap.size, 2, none⟩ = some (.int .i64 m) := hx1.cell (cell_new w _ _ 2)
        have ec3 : w1.cell? ⟨w.heap.size, 3, none⟩ = some (.slice A n c) := hx1.cell (cell_new w _ _ 3)
        have ec4 : w1.cell? ⟨w.heap.size, 4, none⟩ = some (.string s) := hx1.cell (cell_new w _ _ 4)
        have hx := (Ext.alloc w (.cells #[.int .i64 5, .int .i64 o, .int .i64 m, .slice A n c, .string s] 28)).trans hx1
        have hlt := World.block_lt_of_cell? _ _ ec0
        clear hx1
        go_wp2_with fail
        refine (ref_Plain 5 o m A n c s _ h63.1 hs).mono ?_
        rintro e w2 ⟨rfl, hx2⟩
        rw [HPL.out]
        replace ec0 := hx2.cell ((Ext.alloc _ _).cell ec0)
        have d0 : w2.cell? ⟨w1.heap.size, 0, none⟩ = some (.int .i64 5) := hx2.cell (cell_new w1 _ _ 0)
        replace ec1 := hx2.cell ((Ext.alloc _ _).cell ec1)
        have d1 : w2.cell? ⟨w1.heap.size, 1, none⟩ = some (.int .i64 o) := hx2.cell (cell_new w1 _ _ 1)
        replace ec2 := hx2.cell ((Ext.alloc _ _).cell ec2)
        have d2 : w2.cell? ⟨w1.heap.size, 2, none⟩ = some (.int .i64 m) := hx2.cell (cell_new w1 _ _ 2)
        replace ec3 := hx2.cell ((Ext.alloc _ _).cell ec3)
        have d3 : w2.cell? ⟨w1.heap.size, 3, none⟩ = some (.slice A n c) := hx2.cell (cell_new w1 _ _ 3)
        replace ec4 := hx2.cell ((Ext.alloc _ _).cell ec4)
        have d4 : w2.cell? ⟨w1.heap.size, 4, none⟩ = some (.string s) := hx2.cell (cell_new w1 _ _ 4)
        have hlt2 := World.block_lt_of_cell? _ _ d0
        replace hx := (hx.trans (Ext.alloc w1 _)).trans hx2
        have f0 : w2.frozen? ⟨w1.heap.size, 0, none⟩ = false := hx2.frozenF (cell_new w1 _ _ 0) (fr_new w1 _ _ 0)
        clear hx2
        go_wp2_with fail
        obtain ⟨W, hW⟩ : ∃ W, W = ((w2).setCell ⟨w1.heap.size, 0, none⟩ (.int .i64 9)) := ⟨_, rfl⟩
        have hxb : Ext w2 (w2) := by (repeat (first | (with_reducible exact Ext.refl _) | (with_reducible assumption) | (with_reducible refine Ext.draws ?_) | (with_reducible refine Ext.allocs ?_ _) | (with_reducible refine Ext.sets ?_ ?_ _) | (with_reducible exact Nat.le_refl _) | (exact (by simp)) | (exact (by simp; omega))))
        have hsW := hsl.ext (hx.trans hxb)
        have hxW : Ext w W := by rw [hW]; first | exact (hx.trans hxb).sets (by simp; omega) _ | exact ((hx.trans hxb).sets (by simp; omega) _).allocs _
        replace ec0 : W.cell? ⟨w.heap.size, 0, none⟩ = some (.int .i64 5) := by rw [hW]; first | exact (cell_set_ne _ _ _ _ _ _ (by omega)).trans (hxb.cell ec0) | exact (Ext.alloc _ _).cell ((cell_set_ne _ _ _ _ _ _ (by omega)).trans (hxb.cell ec0))
        replace d0 : W.cell? ⟨w1.heap.size, 0, none⟩ = some (.int .i64 9) := by rw [hW]; first | exact (cell_set_ne _ _ _ _ _ _ (by omega)).trans (hxb.cell d0) | exact World.cell?_setCell_same _ _ _ (hxb.cell d0) | exact (Ext.alloc _ _).cell ((cell_set_ne _ _ _ _ _ _ (by omega)).trans (hxb.cell d0)) | exact (Ext.alloc _ _).cell (World.cell?_setCell_same _ _ _ (hxb.cell d0))
        replace ec1 : W.cell? ⟨w.heap.size, 1, none⟩ = some (.int .i64 o) := by rw [hW]; first | exact (cell_set_ne _ _ _ _ _ _ (by omega)).trans (hxb.cell ec1) | exact (Ext.alloc _ _).cell ((cell_set_ne _ _ _ _ _ _ (by omega)).trans (hxb.cell ec1))
        replace d1 : W.cell? ⟨w1.heap.size, 1, none⟩ = some (.int .i64 o) := by rw [hW]; first | exact (cell_set_ne _ _ _ _ _ _ (by omega)).trans (hxb.cell d1) | exact World.cell?_setCell_same _ _ _ (hxb.cell d1) | exact (Ext.alloc _ _).cell ((cell_set_ne _ _ _ _ _ _ (by omega)).trans (hxb.cell d1)) | exact (Ext.alloc _ _).cell (World.cell?_setCell_same _ _ _ (hxb.cell d1))
        replace ec2 : W.cell? ⟨w.heap.size, 2, none⟩ = some (.int .i64 m) := by rw [hW]; first | exact (cell_set_ne _ _ _ _ _ _ (by omega)).trans (hxb.cell ec2) | exact (Ext.alloc _ _).cell ((cell_set_ne _ _ _ _ _ _ (by omega)).trans (hxb.cell ec2))
        replace d2 : W.cell? ⟨w1.heap.size, 2, none⟩ = some (.int .i64 m) := by rw [hW]; first | exact (cell_set_ne _ _ _ _ _ _ (by omega)).trans (hxb.cell d2) | exact World.cell?_setCell_same _ _ _ (hxb.cell d2) | exact (Ext.alloc _ _).cell ((cell_set_ne _ _ _ _ _ _ (by omega)).trans (hxb.cell d2)) | exact (Ext.alloc _ _).cell (World.cell?_setCell_same _ _ _ (hxb.cell d2))
        replace ec3 : W.cell? ⟨w.heap.size, 3, none⟩ = some (.slice A n c) := by rw [hW]; first | exact (cell_set_ne _ _ _ _ _ _ (by omega)).trans (hxb.cell ec3) | exact (Ext.alloc _ _).cell ((cell_set_ne _ _ _ _ _ _ (by omega)).trans (hxb.cell ec3))
        replace d3 : W.cell? ⟨w1.heap.size, 3, none⟩ = some (.slice A n c) := by rw [hW]; first | exact (cell_set_ne _ _ _ _ _ _ (by omega)).trans (hxb.cell d3) | exact World.cell?_setCell_same _ _ _ (hxb.cell d3) | exact (Ext.alloc _ _).cell ((cell_set_ne _ _ _ _ _ _ (by omega)).trans (hxb.cell d3)) | exact (Ext.alloc _ _).cell (World.cell?_setCell_same _ _ _ (hxb.cell d3))
        replace ec4 : W.cell? ⟨w.heap.size, 4, none⟩ = some (.string s) := by rw [hW]; first | exact (cell_set_ne _ _ _ _ _ _ (by omega)).trans (hxb.cell ec4) | exact (Ext.alloc _ _).cell ((cell_set_ne _ _ _ _ _ _ (by omega)).trans (hxb.cell ec4))
        replace d4 : W.cell? ⟨w1.heap.size, 4, none⟩ = some (.string s) := by rw [hW]; first | exact (cell_set_ne _ _ _ _ _ _ (by omega)).trans (hxb.cell d4) | exact World.cell?_setCell_same _ _ _ (hxb.cell d4) | exact (Ext.alloc _ _).cell ((cell_set_ne _ _ _ _ _ _ (by omega)).trans (hxb.cell d4)) | exact (Ext.alloc _ _).cell (World.cell?_setCell_same _ _ _ (hxb.cell d4))
        rw [← hW]
        have hsX : Sl W A n c l := by rw [hW]; exact hsW.keepBlk (fun ad ea hn => Below.heap_setCell _ _ _ _ (by have := hsl.blk ad ea hn; show ad.block ≠ w1.heap.size; omega))
        have hsE := hsl.ext hxW
        have HX := Lib.hid (turn_0 o m n s)
        have HXL : Hid ((if false then putE 9 o m l s else []) = ([] : List UInt8)) := rfl
        clear hW hxb hsW f0 hlt2 hlt hx
        refine (event_Put 9 o m A n c l s _ hsX hs HX HXL).mono ?_
        rintro e w4 ⟨A4, n4, c4, rfl, hb4, hx4⟩
        replace ec0 := hx4.cell ec0
        replace d0 := hx4.cell d0
        replace ec1 := hx4.cell ec1
        replace d1 := hx4.cell d1
        replace ec2 := hx4.cell ec2
        replace d2 := hx4.cell d2
        replace ec3 := hx4.cell ec3
        replace d3 := hx4.cell d3
        replace ec4 := hx4.cell ec4
        replace d4 := hx4.cell d4
        go_wp2_with fail
        refine (event_Right 5 o m A n c l s _ (hsE.ext hx4) hs).mono ?_
        rintro e w5 ⟨rfl, hx5⟩
        rw [HR.out]
        replace d0 := hx5.cell d0
        replace d1 := hx5.cell d1
        replace d2 := hx5.cell d2
        replace d3 := hx5.cell d3
        replace d4 := hx5.cell d4
        go_wp2_with fail
        refine (event_Right 9 o m A n c l s _ ((hsX.ext hx4).ext hx5) hs).mono ?_
        rintro e w6 ⟨rfl, hx6⟩
        rw [HX.out]
        replace d0 := hx6.cell d0
        replace d1 := hx6.cell d1
        replace d2 := hx6.cell d2
        replace d3 := hx6.cell d3
        replace d4 := hx6.cell d4
        go_wp2_with fail
        refine (event_Plain 9 o m A n c l s _ (((hsX.ext hx4).ext hx5).ext hx6) hs).mono ?_
        rintro e w7 ⟨rfl, hx7⟩
        rw [plain_no HX.out]
        go_wp2_with fail
        refine (law5_known _).mono ?_
        rintro e w8 ⟨rfl, hx8⟩
        go_wp2_with fail
        go_ret
        exact ⟨rfl, ((((hxW.trans hx4).trans hx5).trans hx6).trans hx7).trans hx8⟩
      by_cases q1 : (bits BinOp.and IntKind.i64 x 255).tmod 5 = 1
      · skip
        have g0 : ((bits BinOp.and IntKind.i64 x 255).tmod 5 == 0) = false := by simpa using q0
        have g1 : ((bits BinOp.and IntKind.i64 x 255).tmod 5 == 1) = true := by simpa using q1
        clear q0 q1
        go_enter Try.func10, Try.ntmps10
        go_wp2_with fail
        refine (ref_RightEvent 5 o m A n c s _ h63.1 hs).mono ?_
        rintro e w1 ⟨rfl, hx1⟩
        rw [HR.out]
        have ec0 : w1.cell? ⟨w.heap.size, 0, none⟩ = some (.int .i64 5) := hx1.cell (cell_new w _ _ 0)
        have ec1 : w1.cell? ⟨w.heap.size, 1, none⟩ = some (.int .i64 o) := hx1.cell (cell_new w _ _ 1)
        have ec2 : w1.cell? ⟨w.heap.size, 2, none⟩ = some (.int .i64 m) := hx1.cell (cell_new w _ _ 2)
        have ec3 : w1.cell? ⟨w.heap.size, 3, none⟩ = some (.slice A n c) := hx1.cell (cell_new w _ _ 3)
        have ec4 : w1.cell? ⟨w.heap.size, 4, none⟩ = some (.string s) := hx1.cell (cell_new w _ _ 4)
        have hx := (Ext.alloc w (.cells #[.int .i64 5, .int .i64 o, .int .i64 m, .slice A n c, .string s] 28)).trans hx1
        have hlt := World.block_lt_of_cell? _ _ ec0
        clear hx1
        go_wp2_with fail
        refine (ref_Plain 5 o m A n c s _ h63.1 hs).mono ?_
        rintro e w2 ⟨rfl, hx2⟩
        rw [HPL.out]
        replace ec0 := hx2.cell ((Ext.alloc _ _).cell ec0)
        have d0 : w2.cell? ⟨w1.heap.size, 0, none⟩ = some (.int .i64 5) := hx2.cell (cell_new w1 _ _ 0)
        replace ec1 := hx2.cell ((Ext.alloc _ _).cell ec1)
        have d1 : w2.cell? ⟨w1.heap.size, 1, none⟩ = some (.int .i64 o) := hx2.cell (cell_new w1 _ _ 1)
        replace ec2 := hx2.cell ((Ext.alloc _ _).cell ec2)
        have d2 : w2.cell? ⟨w1.heap.size, 2, none⟩ = some (.int .i64 m) := hx2.cell (cell_new w1 _ _ 2)
        replace ec3 := hx2.cell ((Ext.alloc _ _).cell ec3)
        have d3 : w2.cell? ⟨w1.heap.size, 3, none⟩ = some (.slice A n c) := hx2.cell (cell_new w1 _ _ 3)
        replace ec4 := hx2.cell ((Ext.alloc _ _).cell ec4)
        have d4 : w2.cell? ⟨w1.heap.size, 4, none⟩ = some (.string s) := hx2.cell (cell_new w1 _ _ 4)
        have hlt2 := World.block_lt_of_cell? _ _ d0
        replace hx := (hx.trans (Ext.alloc w1 _)).trans hx2
        clear hx2
        go_wp2_with fail
        refine (law5_known _).mono ?_
        rintro e w4 ⟨rfl, hx4⟩
        go_wp2_with fail
        go_ret
        exact ⟨rfl, hx.trans hx4⟩
      by_cases q2 : (bits BinOp.and IntKind.i64 x 255).tmod 5 = 2
      · skip
        have g0 : ((bits BinOp.and IntKind.i64 x 255).tmod 5 == 0) = false := by simpa using q0
        have g1 : ((bits BinOp.and IntKind.i64 x 255).tmod 5 == 1) = false := by simpa using q1
        have g2 : ((bits BinOp.and IntKind.i64 x 255).tmod 5 == 2) = true := by simpa using q2
        clear q0 q1 q2
        -- 1: the field, .int .i64 1: its value, w2: the world ahead of the store; then the event: k o m slice bytes text, the law
        go_enter Try.func10, Try.ntmps10
        go_wp2_with fail
        refine (ref_RightEvent 5 o m A n c s _ h63.1 hs).mono ?_
        rintro e w1 ⟨rfl, hx1⟩
        rw [HR.out]
        have ec0 : w1.cell? ⟨w.heap.size, 0, none⟩ = some (.int .i64 5) := hx1.cell (cell_new w _ _ 0)
        have ec1 : w1.cell? ⟨w.heap.size, 1, none⟩ = some (.int .i64 o) := hx1.cell (cell_new w _ _ 1)
        have ec2 : w1.cell? ⟨w.heap.size, 2, none⟩ = some (.int .i64 m) := hx1.cell (cell_new w _ _ 2)
        have ec3 : w1.cell? ⟨w.heap.size, 3, none⟩ = some (.slice A n c) := hx1.cell (cell_new w _ _ 3)
        have ec4 : w1.cell? ⟨w.heap.size, 4, none⟩ = some (.string s) := hx1.cell (cell_new w _ _ 4)
        have hx := (Ext.alloc w (.cells #[.int .i64 5, .int .i64 o, .int .i64 m, .slice A n c, .string s] 28)).trans hx1
        have hlt := World.block_lt_of_cell? _ _ ec0
        clear hx1
        go_wp2_with fail
        refine (ref_Plain 5 o m A n c s _ h63.1 hs).mono ?_
        rintro e w2 ⟨rfl, hx2⟩
        rw [HPL.out]
        replace ec0 := hx2.cell ((Ext.alloc _ _).cell ec0)
        have d0 : w2.cell? ⟨w1.heap.size, 0, none⟩ = some (.int .i64 5) := hx2.cell (cell_new w1 _ _ 0)
        replace ec1 := hx2.cell ((Ext.alloc _ _).cell ec1)
        have d1 : w2.cell? ⟨w1.heap.size, 1, none⟩ = some (.int .i64 o) := hx2.cell (cell_new w1 _ _ 1)
        replace ec2 := hx2.cell ((Ext.alloc _ _).cell ec2)
        have d2 : w2.cell? ⟨w1.heap.size, 2, none⟩ = some (.int .i64 m) := hx2.cell (cell_new w1 _ _ 2)
        replace ec3 := hx2.cell ((Ext.alloc _ _).cell ec3)
        have d3 : w2.cell? ⟨w1.heap.size, 3, none⟩ = some (.slice A n c) := hx2.cell (cell_new w1 _ _ 3)
        replace ec4 := hx2.cell ((Ext.alloc _ _).cell ec4)
        have d4 : w2.cell? ⟨w1.heap.size, 4, none⟩ = some (.string s) := hx2.cell (cell_new w1 _ _ 4)
        have hlt2 := World.block_lt_of_cell? _ _ d0
        replace hx := (hx.trans (Ext.alloc w1 _)).trans hx2
        have f1 : w2.frozen? ⟨w1.heap.size, 1, none⟩ = false := hx2.frozenF (cell_new w1 _ _ 1) (fr_new w1 _ _ 1)
        clear hx2
        go_wp2_with fail
        obtain ⟨W, hW⟩ : ∃ W, W = ((w2).setCell ⟨w1.heap.size, 1, none⟩ (.int .i64 1)) := ⟨_, rfl⟩
        have hxb : Ext w2 (w2) := by (repeat (first | (with_reducible exact Ext.refl _) | (with_reducible assumption) | (with_reducible refine Ext.draws ?_) | (with_reducible refine Ext.allocs ?_ _) | (with_reducible refine Ext.sets ?_ ?_ _) | (with_reducible exact Nat.le_refl _) | (exact (by simp)) | (exact (by simp; omega))))
        have hsW := hsl.ext (hx.trans hxb)
        have hxW : Ext w W := by rw [hW]; first | exact (hx.trans hxb).sets (by simp; omega) _ | exact ((hx.trans hxb).sets (by simp; omega) _).allocs _
        replace ec0 : W.cell? ⟨w.heap.size, 0, none⟩ = some (.int .i64 5) := by rw [hW]; first | exact (cell_set_ne _ _ _ _ _ _ (by omega)).trans (hxb.cell ec0) | exact (Ext.alloc _ _).cell ((cell_set_ne _ _ _ _ _ _ (by omega)).trans (hxb.cell ec0))
        replace d0 : W.cell? ⟨w1.heap.size, 0, none⟩ = some (.int .i64 5) := by rw [hW]; first | exact (cell_set_ne _ _ _ _ _ _ (by omega)).trans (hxb.cell d0) | exact World.cell?_setCell_same _ _ _ (hxb.cell d0) | exact (Ext.alloc _ _).cell ((cell_set_ne _ _ _ _ _ _ (by omega)).trans (hxb.cell d0)) | exact (Ext.alloc _ _).cell (World.cell?_setCell_same _ _ _ (hxb.cell d0))
        replace ec1 : W.cell? ⟨w.heap.size, 1, none⟩ = some (.int .i64 o) := by rw [hW]; first | exact (cell_set_ne _ _ _ _ _ _ (by omega)).trans (hxb.cell ec1) | exact (Ext.alloc _ _).cell ((cell_set_ne _ _ _ _ _ _ (by omega)).trans (hxb.cell ec1))
        replace d1 : W.cell? ⟨w1.heap.size, 1, none⟩ = some (.int .i64 1) := by rw [hW]; first | exact (cell_set_ne _ _ _ _ _ _ (by omega)).trans (hxb.cell d1) | exact World.cell?_setCell_same _ _ _ (hxb.cell d1) | exact (Ext.alloc _ _).cell ((cell_set_ne _ _ _ _ _ _ (by omega)).trans (hxb.cell d1)) | exact (Ext.alloc _ _).cell (World.cell?_setCell_same _ _ _ (hxb.cell d1))
        replace ec2 : W.cell? ⟨w.heap.size, 2, none⟩ = some (.int .i64 m) := by rw [hW]; first | exact (cell_set_ne _ _ _ _ _ _ (by omega)).trans (hxb.cell ec2) | exact (Ext.alloc _ _).cell ((cell_set_ne _ _ _ _ _ _ (by omega)).trans (hxb.cell ec2))
        replace d2 : W.cell? ⟨w1.heap.size, 2, none⟩ = some (.int .i64 m) := by rw [hW]; first | exact (cell_set_ne _ _ _ _ _ _ (by omega)).trans (hxb.cell d2) | exact World.cell?_setCell_same _ _ _ (hxb.cell d2) | exact (Ext.alloc _ _).cell ((cell_set_ne _ _ _ _ _ _ (by omega)).trans (hxb.cell d2)) | exact (Ext.alloc _ _).cell (World.cell?_setCell_same _ _ _ (hxb.cell d2))
        replace ec3 : W.cell? ⟨w.heap.size, 3, none⟩ = some (.slice A n c) := by rw [hW]; first | exact (cell_set_ne _ _ _ _ _ _ (by omega)).trans (hxb.cell ec3) | exact (Ext.alloc _ _).cell ((cell_set_ne _ _ _ _ _ _ (by omega)).trans (hxb.cell ec3))
        replace d3 : W.cell? ⟨w1.heap.size, 3, none⟩ = some (.slice A n c) := by rw [hW]; first | exact (cell_set_ne _ _ _ _ _ _ (by omega)).trans (hxb.cell d3) | exact World.cell?_setCell_same _ _ _ (hxb.cell d3) | exact (Ext.alloc _ _).cell ((cell_set_ne _ _ _ _ _ _ (by omega)).trans (hxb.cell d3)) | exact (Ext.alloc _ _).cell (World.cell?_setCell_same _ _ _ (hxb.cell d3))
        replace ec4 : W.cell? ⟨w.heap.size, 4, none⟩ = some (.string s) := by rw [hW]; first | exact (cell_set_ne _ _ _ _ _ _ (by omega)).trans (hxb.cell ec4) | exact (Ext.alloc _ _).cell ((cell_set_ne _ _ _ _ _ _ (by omega)).trans (hxb.cell ec4))
        replace d4 : W.cell? ⟨w1.heap.size, 4, none⟩ = some (.string s) := by rw [hW]; first | exact (cell_set_ne _ _ _ _ _ _ (by omega)).trans (hxb.cell d4) | exact World.cell?_setCell_same _ _ _ (hxb.cell d4) | exact (Ext.alloc _ _).cell ((cell_set_ne _ _ _ _ _ _ (by omega)).trans (hxb.cell d4)) | exact (Ext.alloc _ _).cell (World.cell?_setCell_same _ _ _ (hxb.cell d4))
        rw [← hW]
        have hsX : Sl W A n c l := by rw [hW]; exact hsW.keepBlk (fun ad ea hn => Below.heap_setCell _ _ _ _ (by have := hsl.blk ad ea hn; show ad.block ≠ w1.heap.size; omega))
        have hsE := hsl.ext hxW
        have HX := Lib.hid (turn_2 (k := 5) (m := m) (n := n) (s := s) (by omega))
        have HXL : Hid ((if false then putE 5 1 m l s else []) = ([] : List UInt8)) := rfl
        clear hW hxb hsW f1 hlt2 hlt hx
        refine (event_Put 5 1 m A n c l s _ hsX hs HX HXL).mono ?_
        rintro e w4 ⟨A4, n4, c4, rfl, hb4, hx4⟩
        replace ec0 := hx4.cell ec0
        replace d0 := hx4.cell d0
        replace ec1 := hx4.cell ec1
        replace d1 := hx4.cell d1
        replace ec2 := hx4.cell ec2
        replace d2 := hx4.cell d2
        replace ec3 := hx4.cell ec3
        replace d3 := hx4.cell d3
        replace ec4 := hx4.cell ec4
        replace d4 := hx4.cell d4
        go_wp2_with fail
        refine (event_Right 5 o m A n c l s _ (hsE.ext hx4) hs).mono ?_
        rintro e w5 ⟨rfl, hx5⟩
        rw [HR.out]
        replace d0 := hx5.cell d0
        replace d1 := hx5.cell d1
        replace d2 := hx5.cell d2
        replace d3 := hx5.cell d3
        replace d4 := hx5.cell d4
        go_wp2_with fail
        refine (event_Right 5 1 m A n c l s _ ((hsX.ext hx4).ext hx5) hs).mono ?_
        rintro e w6 ⟨rfl, hx6⟩
        rw [HX.out]
        replace d0 := hx6.cell d0
        replace d1 := hx6.cell d1
        replace d2 := hx6.cell d2
        replace d3 := hx6.cell d3
        replace d4 := hx6.cell d4
        go_wp2_with fail
        refine (event_Plain 5 1 m A n c l s _ (((hsX.ext hx4).ext hx5).ext hx6) hs).mono ?_
        rintro e w7 ⟨rfl, hx7⟩
        rw [plain_no HX.out]
        go_wp2_with fail
        refine (law5_known _).mono ?_
        rintro e w8 ⟨rfl, hx8⟩
        go_wp2_with fail
        go_ret
        exact ⟨rfl, ((((hxW.trans hx4).trans hx5).trans hx6).trans hx7).trans hx8⟩
      by_cases q3 : (bits BinOp.and IntKind.i64 x 255).tmod 5 = 3
      · skip
        have g0 : ((bits BinOp.and IntKind.i64 x 255).tmod 5 == 0) = false := by simpa using q0
        have g1 : ((bits BinOp.and IntKind.i64 x 255).tmod 5 == 1) = false := by simpa using q1
        have g2 : ((bits BinOp.and IntKind.i64 x 255).tmod 5 == 2) = false := by simpa using q2
        have g3 : ((bits BinOp.and IntKind.i64 x 255).tmod 5 == 3) = true := by simpa using q3
        clear q0 q1 q2 q3
        -- 3: the field, .slice (some ⟨w2.heap.size, 0, none⟩) 1 1: its value, w2: the world ahead of the store; then the event: k o m slice bytes text, the law
        go_enter Try.func10, Try.ntmps10
        go_wp2_with fail
        refine (ref_RightEvent 5 o m A n c s _ h63.1 hs).mono ?_
        rintro e w1 ⟨rfl, hx1⟩
        rw [HR.out]
        have ec0 : w1.cell? ⟨w.heap.size, 0, none⟩ = some (.int .i64 5) := hx1.cell (cell_new w _ _ 0)
        have ec1 : w1.cell? ⟨w.heap.size, 1, none⟩ = some (.int .i64 o) := hx1.cell (cell_new w _ _ 1)
        have ec2 : w1.cell? ⟨w.heap.size, 2, none⟩ = some (.int .i64 m) := hx1.cell (cell_new w _ _ 2)
        have ec3 : w1.cell? ⟨w.heap.size, 3, none⟩ = some (.slice A n c) := hx1.cell (cell_new w _ _ 3)
        have ec4 : w1.cell? ⟨w.heap.size, 4, none⟩ = some (.string s) := hx1.cell (cell_new w _ _ 4)
        have hx := (Ext.alloc w (.cells #[.int .i64 5, .int .i64 o, .int .i64 m, .slice A n c, .string s] 28)).trans hx1
        have hlt := World.block_lt_of_cell? _ _ ec0
        clear hx1
        go_wp2_with fail
        refine (ref_Plain 5 o m A n c s _ h63.1 hs).mono ?_
        rintro e w2 ⟨rfl, hx2⟩
        rw [HPL.out]
        replace ec0 := hx2.cell ((Ext.alloc _ _).cell ec0)
        have d0 : w2.cell? ⟨w1.heap.size, 0, none⟩ = some (.int .i64 5) := hx2.cell (cell_new w1 _ _ 0)
        replace ec1 := hx2.cell ((Ext.alloc _ _).cell ec1)
        have d1 : w2.cell? ⟨w1.heap.size, 1, none⟩ = some (.int .i64 o) := hx2.cell (cell_new w1 _ _ 1)
        replace ec2 := hx2.cell ((Ext.alloc _ _).cell ec2)
        have d2 : w2.cell? ⟨w1.heap.size, 2, none⟩ = some (.int .i64 m) := hx2.cell (cell_new w1 _ _ 2)
        replace ec3 := hx2.cell ((Ext.alloc _ _).cell ec3)
        have d3 : w2.cell? ⟨w1.heap.size, 3, none⟩ = some (.slice A n c) := hx2.cell (cell_new w1 _ _ 3)
        replace ec4 := hx2.cell ((Ext.alloc _ _).cell ec4)
        have d4 : w2.cell? ⟨w1.heap.size, 4, none⟩ = some (.string s) := hx2.cell (cell_new w1 _ _ 4)
        have hlt2 := World.block_lt_of_cell? _ _ d0
        replace hx := (hx.trans (Ext.alloc w1 _)).trans hx2
        have f3 : w2.frozen? ⟨w1.heap.size, 3, none⟩ = false := hx2.frozenF (cell_new w1 _ _ 3) (fr_new w1 _ _ 3)
        clear hx2
        go_wp2_with fail
        obtain ⟨W, hW⟩ : ∃ W, W = ((w2).setCell ⟨w1.heap.size, 3, none⟩ (.slice (some ⟨w2.heap.size, 0, none⟩) 1 1)).alloc (.cells #[.int .u8 0] U8) := ⟨_, rfl⟩
        have hxb : Ext w2 (w2) := by (repeat (first | (with_reducible exact Ext.refl _) | (with_reducible assumption) | (with_reducible refine Ext.draws ?_) | (with_reducible refine Ext.allocs ?_ _) | (with_reducible refine Ext.sets ?_ ?_ _) | (with_reducible exact Nat.le_refl _) | (exact (by simp)) | (exact (by simp; omega))))
        have hsW := hsl.ext (hx.trans hxb)
        have hxW : Ext w W := by rw [hW]; first | exact (hx.trans hxb).sets (by simp; omega) _ | exact ((hx.trans hxb).sets (by simp; omega) _).allocs _
        replace ec0 : W.cell? ⟨w.heap.size, 0, none⟩ = some (.int .i64 5) := by rw [hW]; first | exact (cell_set_ne _ _ _ _ _ _ (by omega)).trans (hxb.cell ec0) | exact (Ext.alloc _ _).cell ((cell_set_ne _ _ _ _ _ _ (by omega)).trans (hxb.cell ec0))
        replace d0 : W.cell? ⟨w1.heap.size, 0, none⟩ = some (.int .i64 5) := by rw [hW]; first | exact (cell_set_ne _ _ _ _ _ _ (by omega)).trans (hxb.cell d0) | exact World.cell?_setCell_same _ _ _ (hxb.cell d0) | exact (Ext.alloc _ _).cell ((cell_set_ne _ _ _ _ _ _ (by omega)).trans (hxb.cell d0)) | exact (Ext.alloc _ _).cell (World.cell?_setCell_same _ _ _ (hxb.cell d0))
        replace ec1 : W.cell? ⟨w.heap.size, 1, none⟩ = some (.int .i64 o) := by rw [hW]; first | exact (cell_set_ne _ _ _ _ _ _ (by omega)).trans (hxb.cell ec1) | exact (Ext.alloc _ _).cell ((cell_set_ne _ _ _ _ _ _ (by omega)).trans (hxb.cell ec1))
        replace d1 : W.cell? ⟨w1.heap.size, 1, none⟩ = some (.int .i64 o) := by rw [hW]; first | exact (cell_set_ne _ _ _ _ _ _ (by omega)).trans (hxb.cell d1) | exact World.cell?_setCell_same _ _ _ (hxb.cell d1) | exact (Ext.alloc _ _).cell ((cell_set_ne _ _ _ _ _ _ (by omega)).trans (hxb.cell d1)) | exact (Ext.alloc _ _).cell (World.cell?_setCell_same _ _ _ (hxb.cell d1))
        replace ec2 : W.cell? ⟨w.heap.size, 2, none⟩ = some (.int .i64 m) := by rw [hW]; first | exact (cell_set_ne _ _ _ _ _ _ (by omega)).trans (hxb.cell ec2) | exact (Ext.alloc _ _).cell ((cell_set_ne _ _ _ _ _ _ (by omega)).trans (hxb.cell ec2))
        replace d2 : W.cell? ⟨w1.heap.size, 2, none⟩ = some (.int .i64 m) := by rw [hW]; first | exact (cell_set_ne _ _ _ _ _ _ (by omega)).trans (hxb.cell d2) | exact World.cell?_setCell_same _ _ _ (hxb.cell d2) | exact (Ext.alloc _ _).cell ((cell_set_ne _ _ _ _ _ _ (by omega)).trans (hxb.cell d2)) | exact (Ext.alloc _ _).cell (World.cell?_setCell_same _ _ _ (hxb.cell d2))
        replace ec3 : W.cell? ⟨w.heap.size, 3, none⟩ = some (.slice A n c) := by rw [hW]; first | exact (cell_set_ne _ _ _ _ _ _ (by omega)).trans (hxb.cell ec3) | exact (Ext.alloc _ _).cell ((cell_set_ne _ _ _ _ _ _ (by omega)).trans (hxb.cell ec3))
        replace d3 : W.cell? ⟨w1.heap.size, 3, none⟩ = some (.slice (some ⟨w2.heap.size, 0, none⟩) 1 1) := by rw [hW]; first | exact (cell_set_ne _ _ _ _ _ _ (by omega)).trans (hxb.cell d3) | exact World.cell?_setCell_same _ _ _ (hxb.cell d3) | exact (Ext.alloc _ _).cell ((cell_set_ne _ _ _ _ _ _ (by omega)).trans (hxb.cell d3)) | exact (Ext.alloc _ _).cell (World.cell?_setCell_same _ _ _ (hxb.cell d3))
        replace ec4 : W.cell? ⟨w.heap.size, 4, none⟩ = some (.string s) := by rw [hW]; first | exact (cell_set_ne _ _ _ _ _ _ (by omega)).trans (hxb.cell ec4) | exact (Ext.alloc _ _).cell ((cell_set_ne _ _ _ _ _ _ (by omega)).trans (hxb.cell ec4))
        replace d4 : W.cell? ⟨w1.heap.size, 4, none⟩ = some (.string s) := by rw [hW]; first | exact (cell_set_ne _ _ _ _ _ _ (by omega)).trans (hxb.cell d4) | exact World.cell?_setCell_same _ _ _ (hxb.cell d4) | exact (Ext.alloc _ _).cell ((cell_set_ne _ _ _ _ _ _ (by omega)).trans (hxb.cell d4)) | exact (Ext.alloc _ _).cell (World.cell?_setCell_same _ _ _ (hxb.cell d4))
        rw [← hW]
        have hsX : Sl W (some ⟨w2.heap.size, 0, none⟩) 1 1 [0] := by rw [hW]; exact byt_set w2 _ _
        have hsE := hsl.ext hxW
        have HX := Lib.hid (turn_3 (k := 5) (o := o) (m := m) (s := s) (by omega))
        have HXL : Hid ((if false then putE 5 o m [0] s else []) = ([] : List UInt8)) := rfl
        clear hW hxb hsW f3 hlt2 hlt hx
        refine (event_Put 5 o m (some ⟨w2.heap.size, 0, none⟩) 1 1 [0] s _ hsX hs HX HXL).mono ?_
        rintro e w4 ⟨A4, n4, c4, rfl, hb4, hx4⟩
        replace ec0 := hx4.cell ec0
        replace d0 := hx4.cell d0
        replace ec1 := hx4.cell ec1
        replace d1 := hx4.cell d1
        replace ec2 := hx4.cell ec2
        replace d2 := hx4.cell d2
        replace ec3 := hx4.cell ec3
        replace d3 := hx4.cell d3
        replace ec4 := hx4.cell ec4
        replace d4 := hx4.cell d4
        go_wp2_with fail
        refine (event_Right 5 o m A n c l s _ (hsE.ext hx4) hs).mono ?_
        rintro e w5 ⟨rfl, hx5⟩
        rw [HR.out]
        replace d0 := hx5.cell d0
        replace d1 := hx5.cell d1
        replace d2 := hx5.cell d2
        replace d3 := hx5.cell d3
        replace d4 := hx5.cell d4
        go_wp2_with fail
        refine (event_Right 5 o m (some ⟨w2.heap.size, 0, none⟩) 1 1 [0] s _ ((hsX.ext hx4).ext hx5) hs).mono ?_
        rintro e w6 ⟨rfl, hx6⟩
        rw [HX.out]
        replace d0 := hx6.cell d0
        replace d1 := hx6.cell d1
        replace d2 := hx6.cell d2
        replace d3 := hx6.cell d3
        replace d4 := hx6.cell d4
        go_wp2_with fail
        refine (event_Plain 5 o m (some ⟨w2.heap.size, 0, none⟩) 1 1 [0] s _ (((hsX.ext hx4).ext hx5).ext hx6) hs).mono ?_
        rintro e w7 ⟨rfl, hx7⟩
        rw [plain_no HX.out]
        go_wp2_with fail
        refine (law5_known _).mono ?_
        rintro e w8 ⟨rfl, hx8⟩
        go_wp2_with fail
        go_ret
        exact ⟨rfl, ((((hxW.trans hx4).trans hx5).trans hx6).trans hx7).trans hx8⟩
      have g0 : ((bits BinOp.and IntKind.i64 x 255).tmod 5 == 0) = false := by simpa using q0
      have g1 : ((bits BinOp.and IntKind.i64 x 255).tmod 5 == 1) = false := by simpa using q1
      have g2 : ((bits BinOp.and IntKind.i64 x 255).tmod 5 == 2) = false := by simpa using q2
      have g3 : ((bits BinOp.and IntKind.i64 x 255).tmod 5 == 3) = false := by simpa using q3
      clear q0 q1 q2 q3
      -- 2: the field, .int .i64 1: its value, w2: the world ahead of the store; then the event: k o m slice bytes text, the law
      go_enter Try.func10, Try.ntmps10
      go_wp2_with fail
      refine (ref_RightEvent 5 o m A n c s _ h63.1 hs).mono ?_
      rintro e w1 ⟨rfl, hx1⟩
      rw [HR.out]
      have ec0 : w1.cell? ⟨w.heap.size, 0, none⟩ = some (.int .i64 5) := hx1.cell (cell_new w _ _ 0)
      have ec1 : w1.cell? ⟨w.heap.size, 1, none⟩ = some (.int .i64 o) := hx1.cell (cell_new w _ _ 1)
      have ec2 : w1.cell? ⟨w.heap.size, 2, none⟩ = some (.int .i64 m) := hx1.cell (cell_new w _ _ 2)
      have ec3 : w1.cell? ⟨w.heap.size, 3, none⟩ = some (.slice A n c) := hx1.cell (cell_new w _ _ 3)
      have ec4 : w1.cell? ⟨w.heap.size, 4, none⟩ = some (.string s) := hx1.cell (cell_new w _ _ 4)
      have hx := (Ext.alloc w (.cells #[.int .i64 5, .int .i64 o, .int .i64 m, .slice A n c, .string s] 28)).trans hx1
      have hlt := World.block_lt_of_cell? _ _ ec0
      clear hx1
      go_wp2_with fail
      refine (ref_Plain 5 o m A n c s _ h63.1 hs).mono ?_
      rintro e w2 ⟨rfl, hx2⟩
      rw [HPL.out]
      replace ec0 := hx2.cell ((Ext.alloc _ _).cell ec0)
      have d0 : w2.cell? ⟨w1.heap.size, 0, none⟩ = some (.int .i64 5) := hx2.cell (cell_new w1 _ _ 0)
      replace ec1 := hx2.cell ((Ext.alloc _ _).cell ec1)
      have d1 : w2.cell? ⟨w1.heap.size, 1, none⟩ = some (.int .i64 o) := hx2.cell (cell_new w1 _ _ 1)
      replace ec2 := hx2.cell ((Ext.alloc _ _).cell ec2)
      have d2 : w2.cell? ⟨w1.heap.size, 2, none⟩ = some (.int .i64 m) := hx2.cell (cell_new w1 _ _ 2)
      replace ec3 := hx2.cell ((Ext.alloc _ _).cell ec3)
      have d3 : w2.cell? ⟨w1.heap.size, 3, none⟩ = some (.slice A n c) := hx2.cell (cell_new w1 _ _ 3)
      replace ec4 := hx2.cell ((Ext.alloc _ _).cell ec4)
      have d4 : w2.cell? ⟨w1.heap.size, 4, none⟩ = some (.string s) := hx2.cell (cell_new w1 _ _ 4)
      have hlt2 := World.block_lt_of_cell? _ _ d0
      replace hx := (hx.trans (Ext.alloc w1 _)).trans hx2
      have f2 : w2.frozen? ⟨w1.heap.size, 2, none⟩ = false := hx2.frozenF (cell_new w1 _ _ 2) (fr_new w1 _ _ 2)
      clear hx2
      go_wp2_with fail
      obtain ⟨W, hW⟩ : ∃ W, W = ((w2).setCell ⟨w1.heap.size, 2, none⟩ (.int .i64 1)) := ⟨_, rfl⟩
      have hxb : Ext w2 (w2) := by (repeat (first | (with_reducible exact Ext.refl _) | (with_reducible assumption) | (with_reducible refine Ext.draws ?_) | (with_reducible refine Ext.allocs ?_ _) | (with_reducible refine Ext.sets ?_ ?_ _) | (with_reducible exact Nat.le_refl _) | (exact (by simp)) | (exact (by simp; omega))))
      have hsW := hsl.ext (hx.trans hxb)
      have hxW : Ext w W := by rw [hW]; first | exact (hx.trans hxb).sets (by simp; omega) _ | exact ((hx.trans hxb).sets (by simp; omega) _).allocs _
      replace ec0 : W.cell? ⟨w.heap.size, 0, none⟩ = some (.int .i64 5) := by rw [hW]; first | exact (cell_set_ne _ _ _ _ _ _ (by omega)).trans (hxb.cell ec0) | exact (Ext.alloc _ _).cell ((cell_set_ne _ _ _ _ _ _ (by omega)).trans (hxb.cell ec0))
      replace d0 : W.cell? ⟨w1.heap.size, 0, none⟩ = some (.int .i64 5) := by rw [hW]; first | exact (cell_set_ne _ _ _ _ _ _ (by omega)).trans (hxb.cell d0) | exact World.cell?_setCell_same _ _ _ (hxb.cell d0) | exact (Ext.alloc _ _).cell ((cell_set_ne _ _ _ _ _ _ (by omega)).trans (hxb.cell d0)) | exact (Ext.alloc _ _).cell (World.cell?_setCell_same _ _ _ (hxb.cell d0))
      replace ec1 : W.cell? ⟨w.heap.size, 1, none⟩ = some (.int .i64 o) := by rw [hW]; first | exact (cell_set_ne _ _ _ _ _ _ (by omega)).trans (hxb.cell ec1) | exact (Ext.alloc _ _).cell ((cell_set_ne _ _ _ _ _ _ (by omega)).trans (hxb.cell ec1))
      replace d1 : W.cell? ⟨w1.heap.size, 1, none⟩ = some (.int .i64 o) := by rw [hW]; first | exact (cell_set_ne _ _ _ _ _ _ (by omega)).trans (hxb.cell d1) | exact World.cell?_setCell_same _ _ _ (hxb.cell d1) | exact (Ext.alloc _ _).cell ((cell_set_ne _ _ _ _ _ _ (by omega)).trans (hxb.cell d1)) | exact (Ext.alloc _ _).cell (World.cell?_setCell_same _ _ _ (hxb.cell d1))
      replace ec2 : W.cell? ⟨w.heap.size, 2, none⟩ = some (.int .i64 m) := by rw [hW]; first | exact (cell_set_ne _ _ _ _ _ _ (by omega)).trans (hxb.cell ec2) | exact (Ext.alloc _ _).cell ((cell_set_ne _ _ _ _ _ _ (by omega)).trans (hxb.cell ec2))
      replace d2 : W.cell? ⟨w1.heap.size, 2, none⟩ = some (.int .i64 1) := by rw [hW]; first | exact (cell_set_ne _ _ _ _ _ _ (by omega)).trans (hxb.cell d2) | exact World.cell?_setCell_same _ _ _ (hxb.cell d2) | exact (Ext.alloc _ _).cell ((cell_set_ne _ _ _ _ _ _ (by omega)).trans (hxb.cell d2)) | exact (Ext.alloc _ _).cell (World.cell?_setCell_same _ _ _ (hxb.cell d2))
      replace ec3 : W.cell? ⟨w.heap.size, 3, none⟩ = some (.slice A n c) := by rw [hW]; first | exact (cell_set_ne _ _ _ _ _ _ (by omega)).trans (hxb.cell ec3) | exact (Ext.alloc _ _).cell ((cell_set_ne _ _ _ _ _ _ (by omega)).trans (hxb.cell ec3))
      replace d3 : W.cell? ⟨w1.heap.size, 3, none⟩ = some (.slice A n c) := by rw [hW]; first | exact (cell_set_ne _ _ _ _ _ _ (by omega)).trans (hxb.cell d3) | exact World.cell?_setCell_same _ _ _ (hxb.cell d3) | exact (Ext.alloc _ _).cell ((cell_set_ne _ _ _ _ _ _ (by omega)).trans (hxb.cell d3)) | exact (Ext.alloc _ _).cell (World.cell?_setCell_same _ _ _ (hxb.cell d3))
      replace ec4 : W.cell? ⟨w.heap.size, 4, none⟩ = some (.string s) := by rw [hW]; first | exact (cell_set_ne _ _ _ _ _ _ (by omega)).trans (hxb.cell ec4) | exact (Ext.alloc _ _).cell ((cell_set_ne _ _ _ _ _ _ (by omega)).trans (hxb.cell ec4))
      replace d4 : W.cell? ⟨w1.heap.size, 4, none⟩ = some (.string s) := by rw [hW]; first | exact (cell_set_ne _ _ _ _ _ _ (by omega)).trans (hxb.cell d4) | exact World.cell?_setCell_same _ _ _ (hxb.cell d4) | exact (Ext.alloc _ _).cell ((cell_set_ne _ _ _ _ _ _ (by omega)).trans (hxb.cell d4)) | exact (Ext.alloc _ _).cell (World.cell?_setCell_same _ _ _ (hxb.cell d4))
      rw [← hW]
      have hsX : Sl W A n c l := by rw [hW]; exact hsW.keepBlk (fun ad ea hn => Below.heap_setCell _ _ _ _ (by have := hsl.blk ad ea hn; show ad.block ≠ w1.heap.size; omega))
      have hsE := hsl.ext hxW
      have HX := Lib.hid (turn_4 (k := 5) (o := o) (n := n) (s := s) (by omega))
      have HXL : Hid ((if false then putE 5 o 1 l s else []) = ([] : List UInt8)) := rfl
      clear hW hxb hsW f2 hlt2 hlt hx
      refine (event_Put 5 o 1 A n c l s _ hsX hs HX HXL).mono ?_
      rintro e w4 ⟨A4, n4, c4, rfl, hb4, hx4⟩
      replace ec0 := hx4.cell ec0
      replace d0 := hx4.cell d0
      replace ec1 := hx4.cell ec1
      replace d1 := hx4.cell d1
      replace ec2 := hx4.cell ec2
      replace d2 := hx4.cell d2
      replace ec3 := hx4.cell ec3
      replace d3 := hx4.cell d3
      replace ec4 := hx4.cell ec4
      replace d4 := hx4.cell d4
      go_wp2_with fail
      refine (event_Right 5 o m A n c l s _ (hsE.ext hx4) hs).mono ?_
      rintro e w5 ⟨rfl, hx5⟩
      rw [HR.out]
      replace d0 := hx5.cell d0
      replace d1 := hx5.cell d1
      replace d2 := hx5.cell d2
      replace d3 := hx5.cell d3
      replace d4 := hx5.cell d4
      go_wp2_with fail
      refine (event_Right 5 o 1 A n c l s _ ((hsX.ext hx4).ext hx5) hs).mono ?_
      rintro e w6 ⟨rfl, hx6⟩
      rw [HX.out]
      replace d0 := hx6.cell d0
      replace d1 := hx6.cell d1
      replace d2 := hx6.cell d2
      replace d3 := hx6.cell d3
      replace d4 := hx6.cell d4
      go_wp2_with fail
      refine (event_Plain 5 o 1 A n c l s _ (((hsX.ext hx4).ext hx5).ext hx6) hs).mono ?_
      rintro e w7 ⟨rfl, hx7⟩
      rw [plain_no HX.out]
      go_wp2_with fail
      refine (law5_known _).mono ?_
      rintro e w8 ⟨rfl, hx8⟩
      go_wp2_with fail
      go_ret
      exact ⟨rfl, ((((hxW.trans hx4).trans hx5).trans hx6).trans hx7).trans hx8⟩
    · obtain rfl : pl = false := by rw [hplk]; rfl
      clear hplk
      by_cases q0 : (bits BinOp.and IntKind.i64 x 255).tmod 5 = 0
      · skip
        have g0 : ((bits BinOp.and IntKind.i64 x 255).tmod 5 == 0) = true := by simpa using q0
        clear q0
        -- 0: the field, .int .i64 9: its value, w2: the world ahead of the store; then the event: k o m slice bytes text, the law
        go_enter Try.func10, Try.ntmps10
        go_wp2_with fail
        refine (ref_RightEvent 6 o m A n c s _ h63.1 hs).mono ?_
        rintro e w1 ⟨rfl, hx1⟩
        rw [HR.out]
        have ec0 : w1.cell? ⟨w.heap.size, 0, none⟩ = some (.int .i64 6) := hx1.cell (cell_new w _ _ 0)
        have ec1 : w1.cell? ⟨w.heap.size, 1, none⟩ = some (.int .i64 o) := hx1.cell (cell_new w _ _ 1)
        have ec2 : w1.cell? ⟨w.heap.size, 2, none⟩ = some (.int .i64 m) := hx1.cell (cell_new w _ _ 2)
        have ec3 : w1.cell? ⟨w.heap.size, 3, none⟩ = some (.slice A n c) := hx1.cell (cell_new w _ _ 3)
        have ec4 : w1.cell? ⟨w.heap.size, 4, none⟩ = some (.string s) := hx1.cell (cell_new w _ _ 4)
        have hx := (Ext.alloc w (.cells #[.int .i64 6, .int .i64 o, .int .i64 m, .slice A n c, .string s] 28)).trans hx1
        have hlt := World.block_lt_of_cell? _ _ ec0
        clear hx1
        go_wp2_with fail
        refine (ref_Plain 6 o m A n c s _ h63.1 hs).mono ?_
        rintro e w2 ⟨rfl, hx2⟩
        rw [HPL.out]
        replace ec0 := hx2.cell ((Ext.alloc _ _).cell ec0)
        have d0 : w2.cell? ⟨w1.heap.size, 0, none⟩ = some (.int .i64 6) := hx2.cell (cell_new w1 _ _ 0)
        replace ec1 := hx2.cell ((Ext.alloc _ _).cell ec1)
        have d1 : w2.cell? ⟨w1.heap.size, 1, none⟩ = some (.int .i64 o) := hx2.cell (cell_new w1 _ _ 1)
        replace ec2 := hx2.cell ((Ext.alloc _ _).cell ec2)
        have d2 : w2.cell? ⟨w1.heap.size, 2, none⟩ = some (.int .i64 m) := hx2.cell (cell_new w1 _ _ 2)
        replace ec3 := hx2.cell ((Ext.alloc _ _).cell ec3)
        have d3 : w2.cell? ⟨w1.heap.size, 3, none⟩ = some (.slice A n c) := hx2.cell (cell_new w1 _ _ 3)
        replace ec4 := hx2.cell ((Ext.alloc _ _).cell ec4)
        have d4 : w2.cell? ⟨w1.heap.size, 4, none⟩ = some (.string s) := hx2.cell (cell_new w1 _ _ 4)
        have hlt2 := World.block_lt_of_cell? _ _ d0
        replace hx := (hx.trans (Ext.alloc w1 _)).trans hx2
        have f0 : w2.frozen? ⟨w1.heap.size, 0, none⟩ = false := hx2.frozenF (cell_new w1 _ _ 0) (fr_new w1 _ _ 0)
        clear hx2
        go_wp2_with fail
        obtain ⟨W, hW⟩ : ∃ W, W = ((w2).setCell ⟨w1.heap.size, 0, none⟩ (.int .i64 9)) := ⟨_, rfl⟩
        have hxb : Ext w2 (w2) := by (repeat (first | (with_reducible exact Ext.refl _) | (with_reducible assumption) | (with_reducible refine Ext.draws ?_) | (with_reducible refine Ext.allocs ?_ _) | (with_reducible refine Ext.sets ?_ ?_ _) | (with_reducible exact Nat.le_refl _) | (exact (by simp)) | (exact (by simp; omega))))
        have hsW := hsl.ext (hx.trans hxb)
        have hxW : Ext w W := by rw [hW]; first | exact (hx.trans hxb).sets (by simp; omega) _ | exact ((hx.trans hxb).sets (by simp; omega) _).allocs _
        replace ec0 : W.cell? ⟨w.heap.size, 0, none⟩ = some (.int .i64 6) := by rw [hW]; first | exact (cell_set_ne _ _ _ _ _ _ (by omega)).trans (hxb.cell ec0) | exact (Ext.alloc _ _).cell ((cell_set_ne _ _ _ _ _ _ (by omega)).trans (hxb.cell ec0))
        replace d0 : W.cell? ⟨w1.heap.size, 0, none⟩ = some (.int .i64 9) := by rw [hW]; first | exact (cell_set_ne _ _ _ _ _ _ (by omega)).trans (hxb.cell d0) | exact World.cell?_setCell_same _ _ _ (hxb.cell d0) | exact (Ext.alloc _ _).cell ((cell_set_ne _ _ _ _ _ _ (by omega)).trans (hxb.cell d0)) | exact (Ext.alloc _ _).cell (World.cell?_setCell_same _ _ _ (hxb.cell d0))
        replace ec1 : W.cell? ⟨w.heap.size, 1, none⟩ = some (.int .i64 o) := by rw [hW]; first | exact (cell_set_ne _ _ _ _ _ _ (by omega)).trans (hxb.cell ec1) | exact (Ext.alloc _ _).cell ((cell_set_ne _ _ _ _ _ _ (by omega)).trans (hxb.cell ec1))
        replace d1 : W.cell? ⟨w1.heap.size, 1, none⟩ = some (.int .i64 o) := by rw [hW]; first | exact (cell_set_ne _ _ _ _ _ _ (by omega)).trans (hxb.cell d1) | exact World.cell?_setCell_same _ _ _ (hxb.cell d1) | exact (Ext.alloc _ _).cell ((cell_set_ne _ _ _ _ _ _ (by omega)).trans (hxb.cell d1)) | exact (Ext.alloc _ _).cell (World.cell?_setCell_same _ _ _ (hxb.cell d1))
        replace ec2 : W.cell? ⟨w.heap.size, 2, none⟩ = some (.int .i64 m) := by rw [hW]; first | exact (cell_set_ne _ _ _ _ _ _ (by omega)).trans (hxb.cell ec2) | exact (Ext.alloc _ _).cell ((cell_set_ne _ _ _ _ _ _ (by omega)).trans (hxb.cell ec2))
        replace d2 : W.cell? ⟨w1.heap.size, 2, none⟩ = some (.int .i64 m) := by rw [hW]; first | exact (cell_set_ne _ _ _ _ _ _ (by omega)).trans (hxb.cell d2) | exact World.cell?_setCell_same _ _ _ (hxb.cell d2) | exact (Ext.alloc _ _).cell ((cell_set_ne _ _ _ _ _ _ (by omega)).trans (hxb.cell d2)) | exact (Ext.alloc _ _).cell (World.cell?_setCell_same _ _ _ (hxb.cell d2))
        replace ec3 : W.cell? ⟨w.heap.size, 3, none⟩ = some (.slice A n c) := by rw [hW]; first | exact (cell_set_ne _ _ _ _ _ _ (by omega)).trans (hxb.cell ec3) | exact (Ext.alloc _ _).cell ((cell_set_ne _ _ _ _ _ _ (by omega)).trans (hxb.cell ec3))
        replace d3 : W.cell? ⟨w1.heap.size, 3, none⟩ = some (.slice A n c) := by rw [hW]; first | exact (cell_set_ne _ _ _ _ _ _ (by omega)).trans (hxb.cell d3) | exact World.cell?_setCell_same _ _ _ (hxb.cell d3) | exact (Ext.alloc _ _).cell ((cell_set_ne _ _ _ _ _ _ (by omega)).trans (hxb.cell d3)) | exact (Ext.alloc _ _).cell (World.cell?_setCell_same _ _ _ (hxb.cell d3))
        replace ec4 : W.cell? ⟨w.heap.size, 4, none⟩ = some (.string s) := by rw [hW]; first | exact (cell_set_ne _ _ _ _ _ _ (by omega)).trans (hxb.cell ec4) | exact (Ext.alloc _ _).cell ((cell_set_ne _ _ _ _ _ _ (by omega)).trans (hxb.cell ec4))
        replace d4 : W.cell? ⟨w1.heap.size, 4, none⟩ = some (.string s) := by rw [hW]; first | exact (cell_set_ne _ _ _ _ _ _ (by omega)).trans (hxb.cell d4) | exact World.cell?_setCell_same _ _ _ (hxb.cell d4) | exact (Ext.alloc _ _).cell ((cell_set_ne _ _ _ _ _ _ (by omega)).trans (hxb.cell d4)) | exact (Ext.alloc _ _).cell (World.cell?_setCell_same _ _ _ (hxb.cell d4))
        rw [← hW]
        have hsX : Sl W A n c l := by rw [hW]; exact hsW.keepBlk (fun ad ea hn => Below.heap_setCell _ _ _ _ (by have := hsl.blk ad ea hn; show ad.block ≠ w1.heap.size; omega))
        have hsE := hsl.ext hxW
        have HX := Lib.hid (turn_0 o m n s)
        have HXL : Hid ((if false then putE 9 o m l s else []) = ([] : List UInt8)) := rfl
        clear hW hxb hsW f0 hlt2 hlt hx
        refine (event_Put 9 o m A n c l s _ hsX hs HX HXL).mono ?_
        rintro e w4 ⟨A4, n4, c4, rfl, hb4, hx4⟩
        replace ec0 := hx4.cell ec0
        replace d0 := hx4.cell d0
        replace ec1 := hx4.cell ec1
        replace d1 := hx4.cell d1
        replace ec2 := hx4.cell ec2
        replace d2 := hx4.cell d2
        replace ec3 := hx4.cell ec3
        replace d3 := hx4.cell d3
        replace ec4 := hx4.cell ec4
        replace d4 := hx4.cell d4
        go_wp2_with fail
        refine (event_Right 6 o m A n c l s _ (hsE.ext hx4) hs).mono ?_
        rintro e w5 ⟨rfl, hx5⟩
        rw [HR.out]
        replace d0 := hx5.cell d0
        replace d1 := hx5.cell d1
        replace d2 := hx5.cell d2
        replace d3 := hx5.cell d3
        replace d4 := hx5.cell d4
        go_wp2_with fail
        refine (event_Right 9 o m A n c l s _ ((hsX.ext hx4).ext hx5) hs).mono ?_
        rintro e w6 ⟨rfl, hx6⟩
        rw [HX.out]
        replace d0 := hx6.cell d0
        replace d1 := hx6.cell d1
        replace d2 := hx6.cell d2
        replace d3 := hx6.cell d3
        replace d4 := hx6.cell d4
        go_wp2_with fail
        refine (event_Plain 9 o m A n c l s _ (((hsX.ext hx4).ext hx5).ext hx6) hs).mono ?_
        rintro e w7 ⟨rfl, hx7⟩
        rw [plain_no HX.out]
        go_wp2_with fail
        refine (law5_known _).mono ?_
        rintro e w8 ⟨rfl, hx8⟩
        go_wp2_with fail
        go_ret
        exact ⟨rfl, ((((hxW.trans hx4).trans hx5).trans hx6).trans hx7).trans hx8⟩
      by_cases q1 : (bits BinOp.and IntKind.i64 x 255).tmod 5 = 1
      · skip
        have g0 : ((bits BinOp.and IntKind.i64 x 255).tmod 5 == 0) = false := by simpa using q0
        have g1 : ((bits BinOp.and IntKind.i64 x 255).tmod 5 == 1) = true := by simpa using q1
        clear q0 q1
        go_enter Try.func10, Try.ntmps10
        go_wp2_with fail
        refine (ref_RightEvent 6 o m A n c s _ h63.1 hs).mono ?_
        rintro e w1 ⟨rfl, hx1⟩
        rw [HR.out]
        have ec0 : w1.cell? ⟨w.heap.size, 0, none⟩ = some (.int .i64 6) := hx1.cell (cell_new w _ _ 0)
        have ec1 : w1.cell? ⟨w.heap.size, 1, none⟩ = some (.int .i64 o) := hx1.cell (cell_new w _ _ 1)
        have ec2 : w1.cell? ⟨w.heap.size, 2, none⟩ = some (.int .i64 m) := hx1.cell (cell_new w _ _ 2)
        have ec3 : w1.cell? ⟨w.heap.size, 3, none⟩ = some (.slice A n c) := hx1.cell (cell_new w _ _ 3)
        have ec4 : w1.cell? ⟨w.heap.size, 4, none⟩ = some (.string s) := hx1.cell (cell_new w _ _ 4)
        have hx := (Ext.alloc w (.cells #[.int .i64 6, .int .i64 o, .int .i64 m, .slice A n c, .string s] 28)).trans hx1
        have hlt := World.block_lt_of_cell? _ _ ec0
        clear hx1
        go_wp2_with fail
        refine (ref_Plain 6 o m A n c s _ h63.1 hs).mono ?_
        rintro e w2 ⟨rfl, hx2⟩
        rw [HPL.out]
        replace ec0 := hx2.cell ((Ext.alloc _ _).cell ec0)
        have d0 : w2.cell? ⟨w1.heap.size, 0, none⟩ = some (.int .i64 6) := hx2.cell (cell_new w1 _ _ 0)
        replace ec1 := hx2.cell ((Ext.alloc _ _).cell ec1)
        have d1 : w2.cell? ⟨w1.heap.size, 1, none⟩ = some (.int .i64 o) := hx2.cell (cell_new w1 _ _ 1)
        replace ec2 := hx2.cell ((Ext.alloc _ _).cell ec2)
        have d2 : w2.cell? ⟨w1.heap.size, 2, none⟩ = some (.int .i64 m) := hx2.cell (cell_new w1 _ _ 2)
        replace ec3 := hx2.cell ((Ext.alloc _ _).cell ec3)
        have d3 : w2.cell? ⟨w1.heap.size, 3, none⟩ = some (.slice A n c) := hx2.cell (cell_new w1 _ _ 3)
        replace ec4 := hx2.cell ((Ext.alloc _ _).cell ec4)
        have d4 : w2.cell? ⟨w1.heap.size, 4, none⟩ = some (.string s) := hx2.cell (cell_new w1 _ _ 4)
        have hlt2 := World.block_lt_of_cell? _ _ d0
        replace hx := (hx.trans (Ext.alloc w1 _)).trans hx2
        clear hx2
        go_wp2_with fail
        refine (law5_known _).mono ?_
        rintro e w4 ⟨rfl, hx4⟩
        go_wp2_with fail
        go_ret
        exact ⟨rfl, hx.trans hx4⟩
      by_cases q2 : (bits BinOp.and IntKind.i64 x 255).tmod 5 = 2
      · skip
        have g0 : ((bits BinOp.and IntKind.i64 x 255).tmod 5 == 0) = false := by simpa using q0
        have g1 : ((bits BinOp.and IntKind.i64 x 255).tmod 5 == 1) = false := by simpa using q1
        have g2 : ((bits BinOp.and IntKind.i64 x 255).tmod 5 == 2) = true := by simpa using q2
        clear q0 q1 q2
        -- 1: the field, .int .i64 1: its value, w2: the world ahead of the store; then the event: k o m slice bytes text, the law
        go_enter Try.func10, Try.ntmps10
        go_wp2_with fail
        refine (ref_RightEvent 6 o m A n c s _ h63.1 hs).mono ?_
        rintro e w1 ⟨rfl, hx1⟩
        rw [HR.out]
        have ec0 : w1.cell? ⟨w.heap.size, 0, none⟩ = some (.int .i64 6) := hx1.cell (cell_new w _ _ 0)
        have ec1 : w1.cell? ⟨w.heap.size, 1, none⟩ = some (.int .i64 o) := hx1.cell (cell_new w _ _ 1)
        have ec2 : w1.cell? ⟨w.heap.size, 2, none⟩ = some (.int .i64 m) := hx1.cell (cell_new w _ _ 2)
        have ec3 : w1.cell? ⟨w.heap.size, 3, none⟩ = some (.slice A n c) := hx1.cell (cell_new w _ _ 3)
        have ec4 : w1.cell? ⟨w.heap.size, 4, none⟩ = some (.string s) := hx1.cell (cell_new w _ _ 4)
        have hx := (Ext.alloc w (.cells #[.int .i64 6, .int .i64 o, .int .i64 m, .slice A n c, .string s] 28)).trans hx1
        have hlt := World.block_lt_of_cell? _ _ ec0
        clear hx1
        go_wp2_with fail
        refine (ref_Plain 6 o m A n c s _ h63.1 hs).mono ?_
        rintro e w2 ⟨rfl, hx2⟩
        rw [HPL.out]
        replace ec0 := hx2.cell ((Ext.alloc _ _).cell ec0)
        have d0 : w2.cell? ⟨w1.heap.size, 0, none⟩ = some (.int .i64 6) := hx2.cell (cell_new w1 _ _ 0)
        replace ec1 := hx2.cell ((Ext.alloc _ _).cell ec1)
        have d1 : w2.cell? ⟨w1.heap.size, 1, none⟩ = some (.int .i64 o) := hx2.cell (cell_new w1 _ _ 1)
        replace ec2 := hx2.cell ((Ext.alloc _ _).cell ec2)
        have d2 : w2.cell? ⟨w1.heap.size, 2, none⟩ = some (.int .i64 m) := hx2.cell (cell_new w1 _ _ 2)
        replace ec3 := hx2.cell ((Ext.alloc _ _).cell ec3)
        have d3 : w2.cell? ⟨w1.heap.size, 3, none⟩ = some (.slice A n c) := hx2.cell (cell_new w1 _ _ 3)
        replace ec4 := hx2.cell ((Ext.alloc _ _).cell ec4)
        have d4 : w2.cell? ⟨w1.heap.size, 4, none⟩ = some (.string s) := hx2.cell (cell_new w1 _ _ 4)
        have hlt2 := World.block_lt_of_cell? _ _ d0
        replace hx := (hx.trans (Ext.alloc w1 _)).trans hx2
        have f1 : w2.frozen? ⟨w1.heap.size, 1, none⟩ = false := hx2.frozenF (cell_new w1 _ _ 1) (fr_new w1 _ _ 1)
        clear hx2
        go_wp2_with fail
        obtain ⟨W, hW⟩ : ∃ W, W = ((w2).setCell ⟨w1.heap.size, 1, none⟩ (.int .i64 1)) := ⟨_, rfl⟩
        have hxb : Ext w2 (w2) := by (repeat (first | (with_reducible exact Ext.refl _) | (with_reducible assumption) | (with_reducible refine Ext.draws ?_) | (with_reducible refine Ext.allocs ?_ _) | (with_reducible refine Ext.sets ?_ ?_ _) | (with_reducible exact Nat.le_refl _) | (exact (by simp)) | (exact (by simp; omega))))
        have hsW := hsl.ext (hx.trans hxb)
        have hxW : Ext w W := by rw [hW]; first | exact (hx.trans hxb).sets (by simp; omega) _ | exact ((hx.trans hxb).sets (by simp; omega) _).allocs _
        replace ec0 : W.cell? ⟨w.heap.size, 0, none⟩ = some (.int .i64 6) := by rw [hW]; first | exact (cell_set_ne _ _ _ _ _ _ (by omega)).trans (hxb.cell ec0) | exact (Ext.alloc _ _).cell ((cell_set_ne _ _ _ _ _ _ (by omega)).trans (hxb.cell ec0))
        replace d0 : W.cell? ⟨w1.heap.size, 0, none⟩ = some (.int .i64 6) := by rw [hW]; first | exact (cell_set_ne _ _ _ _ _ _ (by omega)).trans (hxb.cell d0) | exact World.cell?_setCell_same _ _ _ (hxb.cell d0) | exact (Ext.alloc _ _).cell ((cell_set_ne _ _ _ _ _ _ (by omega)).trans (hxb.cell d0)) | exact (Ext.alloc _ _).cell (World.cell?_setCell_same _ _ _ (hxb.cell d0))
        replace ec1 : W.cell? ⟨w.heap.size, 1, none⟩ = some (.int .i64 o) := by rw [hW]; first | exact (cell_set_ne _ _ _ _ _ _ (by omega)).trans (hxb.cell ec1) | exact (Ext.alloc _ _).cell ((cell_set_ne _ _ _ _ _ _ (by omega)).trans (hxb.cell ec1))
        replace d1 : W.cell? ⟨w1.heap.size, 1, none⟩ = some (.int .i64 1) := by rw [hW]; first | exact (cell_set_ne _ _ _ _ _ _ (by omega)).trans (hxb.cell d1) | exact World.cell?_setCell_same _ _ _ (hxb.cell d1) | exact (Ext.alloc _ _).cell ((cell_set_ne _ _ _ _ _ _ (by omega)).trans (hxb.cell d1)) | exact (Ext.alloc _ _).cell (World.cell?_setCell_same _ _ _ (hxb.cell d1))
        replace ec2 : W.cell? ⟨w.heap.size, 2, none⟩ = some (.int .i64 m) := by rw [hW]; first | exact (cell_set_ne _ _ _ _ _ _ (by omega)).trans (hxb.cell ec2) | exact (Ext.alloc _ _).cell ((cell_set_ne _ _ _ _ _ _ (by omega)).trans (hxb.cell ec2))
        replace d2 : W.cell? ⟨w1.heap.size, 2, none⟩ = some (.int .i64 m) := by rw [hW]; first | exact (cell_set_ne _ _ _ _ _ _ (by omega)).trans (hxb.cell d2) | exact World.cell?_setCell_same _ _ _ (hxb.cell d2) | exact (Ext.alloc _ _).cell ((cell_set_ne _ _ _ _ _ _ (by omega)).trans (hxb.cell d2)) | exact (Ext.alloc _ _).cell (World.cell?_setCell_same _ _ _ (hxb.cell d2))
        replace ec3 : W.cell? ⟨w.heap.size, 3, none⟩ = some (.slice A n c) := by rw [hW]; first | exact (cell_set_ne _ _ _ _ _ _ (by omega)).trans (hxb.cell ec3) | exact (Ext.alloc _ _).cell ((cell_set_ne _ _ _ _ _ _ (by omega)).trans (hxb.cell ec3))
        replace d3 : W.cell? ⟨w1.heap.size, 3, none⟩ = some (.slice A n c) := by rw [hW]; first | exact (cell_set_ne _ _ _ _ _ _ (by omega)).trans (hxb.cell d3) | exact World.cell?_setCell_same _ _ _ (hxb.cell d3) | exact (Ext.alloc _ _).cell ((cell_set_ne _ _ _ _ _ _ (by omega)).trans (hxb.cell d3)) | exact (Ext.alloc _ _).cell (World.cell?_setCell_same _ _ _ (hxb.cell d3))
        replace ec4 : W.cell? ⟨w.heap.size, 4, none⟩ = some (.string s) := by rw [hW]; first | exact (cell_set_ne _ _ _ _ _ _ (by omega)).trans (hxb.cell ec4) | exact (Ext.alloc _ _).cell ((cell_set_ne _ _ _ _ _ _ (by omega)).trans (hxb.cell ec4))
        replace d4 : W.cell? ⟨w1.heap.size, 4, none⟩ = some (.string s) := by rw [hW]; first | exact (cell_set_ne _ _ _ _ _ _ (by omega)).trans (hxb.cell d4) | exact World.cell?_setCell_same _ _ _ (hxb.cell d4) | exact (Ext.alloc _ _).cell ((cell_set_ne _ _ _ _ _ _ (by omega)).trans (hxb.cell d4)) | exact (Ext.alloc _ _).cell (World.cell?_setCell_same _ _ _ (hxb.cell d4))
        rw [← hW]
        have hsX : Sl W A n c l := by rw [hW]; exact hsW.keepBlk (fun ad ea hn => Below.heap_setCell _ _ _ _ (by have := hsl.blk ad ea hn; show ad.block ≠ w1.heap.size; omega))
        have hsE := hsl.ext hxW
        have HX := Lib.hid (turn_2 (k := 6) (m := m) (n := n) (s := s) (by omega))
        have HXL : Hid ((if false then putE 6 1 m l s else []) = ([] : List UInt8)) := rfl
        clear hW hxb hsW f1 hlt2 hlt hx
        refine (event_Put 6 1 m A n c l s _ hsX hs HX HXL).mono ?_
        rintro e w4 ⟨A4, n4, c4, rfl, hb4, hx4⟩
        replace ec0 := hx4.cell ec0
        replace d0 := hx4.cell d0
        replace ec1 := hx4.cell ec1
        replace d1 := hx4.cell d1
        replace ec2 := hx4.cell ec2
        replace d2 := hx4.cell d2
        replace ec3 := hx4.cell ec3
        replace d3 := hx4.cell d3
        replace ec4 := hx4.cell ec4
        replace d4 := hx4.cell d4
        go_wp2_with fail
        refine (event_Right 6 o m A n c l s _ (hsE.ext hx4) hs).mono ?_
        rintro e w5 ⟨rfl, hx5⟩
        rw [HR.out]
        replace d0 := hx5.cell d0
        replace d1 := hx5.cell d1
        replace d2 := hx5.cell d2
        replace d3 := hx5.cell d3
        replace d4 := hx5.cell d4
        go_wp2_with fail
        refine (event_Right 6 1 m A n c l s _ ((hsX.ext hx4).ext hx5) hs).mono ?_
        rintro e w6 ⟨rfl, hx6⟩
        rw [HX.out]
        replace d0 := hx6.cell d0
        replace d1 := hx6.cell d1
        replace d2 := hx6.cell d2
        replace d3 := hx6.cell d3
        replace d4 := hx6.cell d4
        go_wp2_with fail
        refine (event_Plain 6 1 m A n c l s _ (((hsX.ext hx4).ext hx5).ext hx6) hs).mono ?_
        rintro e w7 ⟨rfl, hx7⟩
        rw [plain_no HX.out]
        go_wp2_with fail
        refine (law5_known _).mono ?_
        rintro e w8 ⟨rfl, hx8⟩
        go_wp2_with fail
        go_ret
        exact ⟨rfl, ((((hxW.trans hx4).trans hx5).trans hx6).trans hx7).trans hx8⟩
      by_cases q3 : (bits BinOp.and IntKind.i64 x 255).tmod 5 = 3
      · skip
        have g0 : ((bits BinOp.and IntKind.i64 x 255).tmod 5 == 0) = false := by simpa using q0
        have g1 : ((bits BinOp.and IntKind.i64 x 255).tmod 5 == 1) = false := by simpa using q1
        have g2 : ((bits BinOp.and IntKind.i64 x 255).tmod 5 == 2) = false := by simpa using q2
        have g3 : ((bits BinOp.and IntKind.i64 x 255).tmod 5 == 3) = true := by simpa using q3
        clear q0 q1 q2 q3
        -- 3: the field, .slice (some ⟨w2.heap.size, 0, none⟩) 1 1: its value, w2: the world ahead of the store; then the event: k o m slice bytes text, the law
        go_enter Try.func10, Try.ntmps10
        go_wp2_with fail
        refine (ref_RightEvent 6 o m A n c s _ h63.1 hs).mono ?_
        rintro e w1 ⟨rfl, hx1⟩
        rw [HR.out]
        have ec0 : w1.cell? ⟨w.heap.size, 0, none⟩ = some (.int .i64 6) := hx1.cell (cell_new w _ _ 0)
        have ec1 : w1.cell? ⟨w.heap.size, 1, none⟩ = some (.int .i64 o) := hx1.cell (cell_new w _ _ 1)
        have ec2 : w1.cell? ⟨w.heap.size, 2, none⟩ = some (.int .i64 m) := hx1.cell (cell_new w _ _ 2)
        have ec3 : w1.cell? ⟨w.heap.size, 3, none⟩ = some (.slice A n c) := hx1.cell (cell_new w _ _ 3)
        have ec4 : w1.cell? ⟨w.heap.size, 4, none⟩ = some (.string s) := hx1.cell (cell_new w _ _ 4)
        have hx := (Ext.alloc w (.cells #[.int .i64 6, .int .i64 o, .int .i64 m, .slice A n c, .string s] 28)).trans hx1
        have hlt := World.block_lt_of_cell? _ _ ec0
        clear hx1
        go_wp2_with fail
        refine (ref_Plain 6 o m A n c s _ h63.1 hs).mono ?_
        rintro e w2 ⟨rfl, hx2⟩
        rw [HPL.out]
        replace ec0 := hx2.cell ((Ext.alloc _ _).cell ec0)
        have d0 : w2.cell? ⟨w1.heap.size, 0, none⟩ = some (.int .i64 6) := hx2.cell (cell_new w1 _ _ 0)
        replace ec1 := hx2.cell ((Ext.alloc _ _).cell ec1)
        have d1 : w2.cell? ⟨w1.heap.size, 1, none⟩ = some (.int .i64 o) := hx2.cell (cell_new w1 _ _ 1)
        replace ec2 := hx2.cell ((Ext.alloc _ _).cell ec2)
        have d2 : w2.cell? ⟨w1.heap.size, 2, none⟩ = some (.int .i64 m) := hx2.cell (cell_new w1 _ _ 2)
        replace ec3 := hx2.cell ((Ext.alloc _ _).cell ec3)
        have d3 : w2.cell? ⟨w1.heap.size, 3, none⟩ = some (.slice A n c) := hx2.cell (cell_new w1 _ _ 3)
        replace ec4 := hx2.cell ((Ext.alloc _ _).cell ec4)
        have d4 : w2.cell? ⟨w1.heap.size, 4, none⟩ = some (.string s) := hx2.cell (cell_new w1 _ _ 4)
        have hlt2 := World.block_lt_of_cell? _ _ d0
        replace hx := (hx.trans (Ext.alloc w1 _)).trans hx2
        have f3 : w2.frozen? ⟨w1.heap.size, 3, none⟩ = false := hx2.frozenF (cell_new w1 _ _ 3) (fr_new w1 _ _ 3)
        clear hx2
        go_wp2_with fail
        obtain ⟨W, hW⟩ : ∃ W, W = ((w2).setCell ⟨w1.heap.size, 3, none⟩ (.slice (some ⟨w2.heap.size, 0, none⟩) 1 1)).alloc (.cells #[.int .u8 0] U8) := ⟨_, rfl⟩
        have hxb : Ext w2 (w2) := by (repeat (first | (with_reducible exact Ext.refl _) | (with_reducible assumption) | (with_reducible refine Ext.draws ?_) | (with_reducible refine Ext.allocs ?_ _) | (with_reducible refine Ext.sets ?_ ?_ _) | (with_reducible exact Nat.le_refl _) | (exact (by simp)) | (exact (by simp; omega))))
        have hsW := hsl.ext (hx.trans hxb)
        have hxW : Ext w W := by rw [hW]; first | exact (hx.trans hxb).sets (by simp; omega) _ | exact ((hx.trans hxb).sets (by simp; omega) _).allocs _
        replace ec0 : W.cell? ⟨w.heap.size, 0, none⟩ = some (.int .i64 6) := by rw [hW]; first | exact (cell_set_ne _ _ _ _ _ _ (by omega)).trans (hxb.cell ec0) | exact (Ext.alloc _ _).cell ((cell_set_ne _ _ _ _ _ _ (by omega)).trans (hxb.cell ec0))
        replace d0 : W.cell? ⟨w1.heap.size, 0, none⟩ = some (.int .i64 6) := by rw [hW]; first | exact (cell_set_ne _ _ _ _ _ _ (by omega)).trans (hxb.cell d0) | exact World.cell?_setCell_same _ _ _ (hxb.cell d0) | exact (Ext.alloc _ _).cell ((cell_set_ne _ _ _ _ _ _ (by omega)).trans (hxb.cell d0)) | exact (Ext.alloc _ _).cell (World.cell?_setCell_same _ _ _ (hxb.cell d0))
        replace ec1 : W.cell? ⟨w.heap.size, 1, none⟩ = some (.int .i64 o) := by rw [hW]; first | exact (cell_set_ne _ _ _ _ _ _ (by omega)).trans (hxb.cell ec1) | exact (Ext.alloc _ _).cell ((cell_set_ne _ _ _ _ _ _ (by omega)).trans (hxb.cell ec1))
        replace d1 : W.cell? ⟨w1.heap.size, 1, none⟩ = some (.int .i64 o) := by rw [hW]; first | exact (cell_set_ne _ _ _ _ _ _ (by omega)).trans (hxb.cell d1) | exact World.cell?_setCell_same _ _ _ (hxb.cell d1) | exact (Ext.alloc _ _).cell ((cell_set_ne _ _ _ _ _ _ (by omega)).trans (hxb.cell d1)) | exact (Ext.alloc _ _).cell (World.cell?_setCell_same _ _ _ (hxb.cell d1))
        replace ec2 : W.cell? ⟨w.heap.size, 2, none⟩ = some (.int .i64 m) := by rw [hW]; first | exact (cell_set_ne _ _ _ _ _ _ (by omega)).trans (hxb.cell ec2) | exact (Ext.alloc _ _).cell ((cell_set_ne _ _ _ _ _ _ (by omega)).trans (hxb.cell ec2))
        replace d2 : W.cell? ⟨w1.heap.size, 2, none⟩ = some (.int .i64 m) := by rw [hW]; first | exact (cell_set_ne _ _ _ _ _ _ (by omega)).trans (hxb.cell d2) | exact World.cell?_setCell_same _ _ _ (hxb.cell d2) | exact (Ext.alloc _ _).cell ((cell_set_ne _ _ _ _ _ _ (by omega)).trans (hxb.cell d2)) | exact (Ext.alloc _ _).cell (World.cell?_setCell_same _ _ _ (hxb.cell d2))
        replace ec3 : W.cell? ⟨w.heap.size, 3, none⟩ = some (.slice A n c) := by rw [hW]; first | exact (cell_set_ne _ _ _ _ _ _ (by omega)).trans (hxb.cell ec3) | exact (Ext.alloc _ _).cell ((cell_set_ne _ _ _ _ _ _ (by omega)).trans (hxb.cell ec3))
        replace d3 : W.cell? ⟨w1.heap.size, 3, none⟩ = some (.slice (some ⟨w2.heap.size, 0, none⟩) 1 1) := by rw [hW]; first | exact (cell_set_ne _ _ _ _ _ _ (by omega)).trans (hxb.cell d3) | exact World.cell?_setCell_same _ _ _ (hxb.cell d3) | exact (Ext.alloc _ _).cell ((cell_set_ne _ _ _ _ _ _ (by omega)).trans (hxb.cell d3)) | exact (Ext.alloc _ _).cell (World.cell?_setCell_same _ _ _ (hxb.cell d3))
        replace ec4 : W.cell? ⟨w.heap.size, 4, none⟩ = some (.string s) := by rw [hW]; first | exact (cell_set_ne _ _ _ _ _ _ (by omega)).trans (hxb.cell ec4) | exact (Ext.alloc _ _).cell ((cell_set_ne _ _ _ _ _ _ (by omega)).trans (hxb.cell ec4))
        replace d4 : W.cell? ⟨w1.heap.size, 4, none⟩ = some (.string s) := by rw [hW]; first | exact (cell_set_ne _ _ _ _ _ _ (by omega)).trans (hxb.cell d4) | exact World.cell?_setCell_same _ _ _ (hxb.cell d4) | exact (Ext.alloc _ _).cell ((cell_set_ne _ _ _ _ _ _ (by omega)).trans (hxb.cell d4)) | exact (Ext.alloc _ _).cell (World.cell?_setCell_same _ _ _ (hxb.cell d4))
        rw [← hW]
        have hsX : Sl W (some ⟨w2.heap.size, 0, none⟩) 1 1 [0] := by rw [hW]; exact byt_set w2 _ _
        have hsE := hsl.ext hxW
        have HX := Lib.hid (turn_3 (k := 6) (o := o) (m := m) (s := s) (by omega))
        have HXL : Hid ((if false then putE 6 o m [0] s else []) = ([] : List UInt8)) := rfl
        clear hW hxb hsW f3 hlt2 hlt hx
        refine (event_Put 6 o m (some ⟨w2.heap.size, 0, none⟩) 1 1 [0] s _ hsX hs HX HXL).mono ?_
        rintro e w4 ⟨A4, n4, c4, rfl, hb4, hx4⟩
        replace ec0 := hx4.cell ec0
        replace d0 := hx4.cell d0
        replace ec1 := hx4.cell ec1
        replace d1 := hx4.cell d1
        replace ec2 := hx4.cell ec2
        replace d2 := hx4.cell d2
        replace ec3 := hx4.cell ec3
        replace d3 := hx4.cell d3
        replace ec4 := hx4.cell ec4
        replace d4 := hx4.cell d4
        go_wp2_with fail
        refine (event_Right 6 o m A n c l s _ (hsE.ext hx4) hs).mono ?_
        rintro e w5 ⟨rfl, hx5⟩
        rw [HR.out]
        replace d0 := hx5.cell d0
        replace d1 := hx5.cell d1
        replace d2 := hx5.cell d2
        replace d3 := hx5.cell d3
        replace d4 := hx5.cell d4
        go_wp2_with fail
        refine (event_Right 6 o m (some ⟨w2.heap.size, 0, none⟩) 1 1 [0] s _ ((hsX.ext hx4).ext hx5) hs).mono ?_
        rintro e w6 ⟨rfl, hx6⟩
        rw [HX.out]
        replace d0 := hx6.cell d0
        replace d1 := hx6.cell d1
        replace d2 := hx6.cell d2
        replace d3 := hx6.cell d3
        replace d4 := hx6.cell d4
        go_wp2_with fail
        refine (event_Plain 6 o m (some ⟨w2.heap.size, 0, none⟩) 1 1 [0] s _ (((hsX.ext hx4).ext hx5).ext hx6) hs).mono ?_
        rintro e w7 ⟨rfl, hx7⟩
        rw [plain_no HX.out]
        go_wp2_with fail
        refine (law5_known _).mono ?_
        rintro e w8 ⟨rfl, hx8⟩
        go_wp2_with fail
        go_ret
        exact ⟨rfl, ((((hxW.trans hx4).trans hx5).trans hx6).trans hx7).trans hx8⟩
      have g0 : ((bits BinOp.and IntKind.i64 x 255).tmod 5 == 0) = false := by simpa using q0
      have g1 : ((bits BinOp.and IntKind.i64 x 255).tmod 5 == 1) = false := by simpa using q1
      have g2 : ((bits BinOp.and IntKind.i64 x 255).tmod 5 == 2) = false := by simpa using q2
      have g3 : ((bits BinOp.and IntKind.i64 x 255).tmod 5 == 3) = false := by simpa using q3
      clear q0 q1 q2 q3
      -- 2: the field, .int .i64 1: its value, w2: the world ahead of the store; then the event: k o m slice bytes text, the law
      go_enter Try.func10, Try.ntmps10
      go_wp2_with fail
      refine (ref_RightEvent 6 o m A n c s _ h63.1 hs).mono ?_
      rintro e w1 ⟨rfl, hx1⟩
      rw [HR.out]
      have ec0 : w1.cell? ⟨w.heap.size, 0, none⟩ = some (.int .i64 6) := hx1.cell (cell_new w _ _ 0)
      have ec1 : w1.cell? ⟨w.heap.size, 1, none⟩ = some (.int .i64 o) := hx1.cell (cell_new w _ _ 1)
      have ec2 : w1.cell? ⟨w.heap.size, 2, none⟩ = some (.int .i64 m) := hx1.cell (cell_new w _ _ 2)
      have ec3 : w1.cell? ⟨w.heap.size, 3, none⟩ = some (.slice A n c) := hx1.cell (cell_new w _ _ 3)
      have ec4 : w1.cell? ⟨w.heap.size, 4, none⟩ = some (.string s) := hx1.cell (cell_new w _ _ 4)
      have hx := (Ext.alloc w (.cells #[.int .i64 6, .int .i64 o, .int .i64 m, .slice A n c, .string s] 28)).trans hx1
      have hlt := World.block_lt_of_cell? _ _ ec0
      clear hx1
      go_wp2_with fail
      refine (ref_Plain 6 o m A n c s _ h63.1 hs).mono ?_
      rintro e w2 ⟨rfl, hx2⟩
      rw [HPL.out]
      replace ec0 := hx2.cell ((Ext.alloc _ _).cell ec0)
      have d0 : w2.cell? ⟨w1.heap.size, 0, none⟩ = some (.int .i64 6) := hx2.cell (cell_new w1 _ _ 0)
      replace ec1 := hx2.cell ((Ext.alloc _ _).cell ec1)
      have d1 : w2.cell? ⟨w1.heap.size, 1, none⟩ = some (.int .i64 o) := hx2.cell (cell_new w1 _ _ 1)
      replace ec2 := hx2.cell ((Ext.alloc _ _).cell ec2)
      have d2 : w2.cell? ⟨w1.heap.size, 2, none⟩ = some (.int .i64 m) := hx2.cell (cell_new w1 _ _ 2)
      replace ec3 := hx2.cell ((Ext.alloc _ _).cell ec3)
      have d3 : w2.cell? ⟨w1.heap.size, 3, none⟩ = some (.slice A n c) := hx2.cell (cell_new w1 _ _ 3)
      replace ec4 := hx2.cell ((Ext.alloc _ _).cell ec4)
      have d4 : w2.cell? ⟨w1.heap.size, 4, none⟩ = some (.string s) := hx2.cell (cell_new w1 _ _ 4)
      have hlt2 := World.block_lt_of_cell? _ _ d0
      replace hx := (hx.trans (Ext.alloc w1 _)).trans hx2
      have f2 : w2.frozen? ⟨w1.heap.size, 2, none⟩ = false := hx2.frozenF (cell_new w1 _ _ 2) (fr_new w1 _ _ 2)
      clear hx2
      go_wp2_with fail
      obtain ⟨W, hW⟩ : ∃ W, W = ((w2).setCell ⟨w1.heap.size, 2, none⟩ (.int .i64 1)) := ⟨_, rfl⟩
      have hxb : Ext w2 (w2) := by (repeat (first | (with_reducible exact Ext.refl _) | (with_reducible assumption) | (with_reducible refine Ext.draws ?_) | (with_reducible refine Ext.allocs ?_ _) | (with_reducible refine Ext.sets ?_ ?_ _) | (with_reducible exact Nat.le_refl _) | (exact (by simp)) | (exact (by simp; omega))))
      have hsW := hsl.ext (hx.trans hxb)
      have hxW : Ext w W := by rw [hW]; first | exact (hx.trans hxb).sets (by simp; omega) _ | exact ((hx.trans hxb).sets (by simp; omega) _).allocs _
      replace ec0 : W.cell? ⟨w.heap.size, 0, none⟩ = some (.int .i64 6) := by rw [hW]; first | exact (cell_set_ne _ _ _ _ _ _ (by omega)).trans (hxb.cell ec0) | exact (Ext.alloc _ _).cell ((cell_set_ne _ _ _ _ _ _ (by omega)).trans (hxb.cell ec0))
      replace d0 : W.cell? ⟨w1.heap.size, 0, none⟩ = some (.int .i64 6) := by rw [hW]; first | exact (cell_set_ne _ _ _ _ _ _ (by omega)).trans (hxb.cell d0) | exact World.cell?_setCell_same _ _ _ (hxb.cell d0) | exact (Ext.alloc _ _).cell ((cell_set_ne _ _ _ _ _ _ (by omega)).trans (hxb.cell d0)) | exact (Ext.alloc _ _).cell (World.cell?_setCell_same _ _ _ (hxb.cell d0))
      replace ec1 : W.cell? ⟨w.heap.size, 1, none⟩ = some (.int .i64 o) := by rw [hW]; first | exact (cell_set_ne _ _ _ _ _ _ (by omega)).trans (hxb.cell ec1) | exact (Ext.alloc _ _).cell ((cell_set_ne _ _ _ _ _ _ (by omega)).trans (hxb.cell ec1))
      replace d1 : W.cell? ⟨w1.heap.size, 1, none⟩ = some (.int .i64 o) := by rw [hW]; first | exact (cell_set_ne _ _ _ _ _ _ (by omega)).trans (hxb.cell d1) | exact World.cell?_setCell_same _ _ _ (hxb.cell d1) | exact (Ext.alloc _ _).cell ((cell_set_ne _ _ _ _ _ _ (by omega)).trans (hxb.cell d1)) | exact (Ext.alloc _ _).cell (World.cell?_setCell_same _ _ _ (hxb.cell d1))
      replace ec2 : W.cell? ⟨w.heap.size, 2, none⟩ = some (.int .i64 m) := by rw [hW]; first | exact (cell_set_ne _ _ _ _ _ _ (by omega)).trans (hxb.cell ec2) | exact (Ext.alloc _ _).cell ((cell_set_ne _ _ _ _ _ _ (by omega)).trans (hxb.cell ec2))
      replace d2 : W.cell? ⟨w1.heap.size, 2, none⟩ = some (.int .i64 1) := by rw [hW]; first | exact (cell_set_ne _ _ _ _ _ _ (by omega)).trans (hxb.cell d2) | exact World.cell?_setCell_same _ _ _ (hxb.cell d2) | exact (Ext.alloc _ _).cell ((cell_set_ne _ _ _ _ _ _ (by omega)).trans (hxb.cell d2)) | exact (Ext.alloc _ _).cell (World.cell?_setCell_same _ _ _ (hxb.cell d2))
      replace ec3 : W.cell? ⟨w.heap.size, 3, none⟩ = some (.slice A n c) := by rw [hW]; first | exact (cell_set_ne _ _ _ _ _ _ (by omega)).trans (hxb.cell ec3) | exact (Ext.alloc _ _).cell ((cell_set_ne _ _ _ _ _ _ (by omega)).trans (hxb.cell ec3))
      replace d3 : W.cell? ⟨w1.heap.size, 3, none⟩ = some (.slice A n c) := by rw [hW]; first | exact (cell_set_ne _ _ _ _ _ _ (by omega)).trans (hxb.cell d3) | exact World.cell?_setCell_same _ _ _ (hxb.cell d3) | exact (Ext.alloc _ _).cell ((cell_set_ne _ _ _ _ _ _ (by omega)).trans (hxb.cell d3)) | exact (Ext.alloc _ _).cell (World.cell?_setCell_same _ _ _ (hxb.cell d3))
      replace ec4 : W.cell? ⟨w.heap.size, 4, none⟩ = some (.string s) := by rw [hW]; first | exact (cell_set_ne _ _ _ _ _ _ (by omega)).trans (hxb.cell ec4) | exact (Ext.alloc _ _).cell ((cell_set_ne _ _ _ _ _ _ (by omega)).trans (hxb.cell ec4))
      replace d4 : W.cell? ⟨w1.heap.size, 4, none⟩ = some (.string s) := by rw [hW]; first | exact (cell_set_ne _ _ _ _ _ _ (by omega)).trans (hxb.cell d4) | exact World.cell?_setCell_same _ _ _ (hxb.cell d4) | exact (Ext.alloc _ _).cell ((cell_set_ne _ _ _ _ _ _ (by omega)).trans (hxb.cell d4)) | exact (Ext.alloc _ _).cell (World.cell?_setCell_same _ _ _ (hxb.cell d4))
      rw [← hW]
      have hsX : Sl W A n c l := by rw [hW]; exact hsW.keepBlk (fun ad ea hn => Below.heap_setCell _ _ _ _ (by have := hsl.blk ad ea hn; show ad.block ≠ w1.heap.size; omega))
      have hsE := hsl.ext hxW
      have HX := Lib.hid (turn_4 (k := 6) (o := o) (n := n) (s := s) (by omega))
      have HXL : Hid ((if false then putE 6 o 1 l s else []) = ([] : List UInt8)) := rfl
      clear hW hxb hsW f2 hlt2 hlt hx
      refine (event_Put 6 o 1 A n c l s _ hsX hs HX HXL).mono ?_
      rintro e w4 ⟨A4, n4, c4, rfl, hb4, hx4⟩
      replace ec0 := hx4.cell ec0
      replace d0 := hx4.cell d0
      replace ec1 := hx4.cell ec1
      replace d1 := hx4.cell d1
      replace ec2 := hx4.cell ec2
      replace d2 := hx4.cell d2
      replace ec3 := hx4.cell ec3
      replace d3 := hx4.cell d3
      replace ec4 := hx4.cell ec4
      replace d4 := hx4.cell d4
      go_wp2_with fail
      refine (event_Right 6 o m A n c l s _ (hsE.ext hx4) hs).mono ?_
      rintro e w5 ⟨rfl, hx5⟩
      rw [HR.out]
      replace d0 := hx5.cell d0
      replace d1 := hx5.cell d1
      replace d2 := hx5.cell d2
      replace d3 := hx5.cell d3
      replace d4 := hx5.cell d4
      go_wp2_with fail
      refine (event_Right 6 o 1 A n c l s _ ((hsX.ext hx4).ext hx5) hs).mono ?_
      rintro e w6 ⟨rfl, hx6⟩
      rw [HX.out]
      replace d0 := hx6.cell d0
      replace d1 := hx6.cell d1
      replace d2 := hx6.cell d2
      replace d3 := hx6.cell d3
      replace d4 := hx6.cell d4
      go_wp2_with fail
      refine (event_Plain 6 o 1 A n c l s _ (((hsX.ext hx4).ext hx5).ext hx6) hs).mono ?_
      rintro e w7 ⟨rfl, hx7⟩
      rw [plain_no HX.out]
      go_wp2_with fail
      refine (law5_known _).mono ?_
      rintro e w8 ⟨rfl, hx8⟩
      go_wp2_with fail
      go_ret
      exact ⟨rfl, ((((hxW.trans hx4).trans hx5).trans hx6).trans hx7).trans hx8⟩
    · obtain rfl : pl = false := by rw [hplk]; rfl
      clear hplk
      by_cases q0 : (bits BinOp.and IntKind.i64 x 255).tmod 5 = 0
      · skip
        have g0 : ((bits BinOp.and IntKind.i64 x 255).tmod 5 == 0) = true := by simpa using q0
        clear q0
        -- 0: the field, .int .i64 9: its value, w2: the world ahead of the store; then the event: k o m slice bytes text, the law
        go_enter Try.func10, Try.ntmps10
        go_wp2_with fail
        refine (ref_RightEvent 7 o m A n c s _ h63.1 hs).mono ?_
        rintro e w1 ⟨rfl, hx1⟩
        rw [HR.out]
        have ec0 : w1.cell? ⟨w.heap.size, 0, none⟩ = some (.int .i64 7) := hx1.cell (cell_new w _ _ 0)
        have ec1 : w1.cell? ⟨w.heap.size, 1, none⟩ = some (.int .i64 o) := hx1.cell (cell_new w _ _ 1)
        have ec2 : w1.cell? ⟨w.heap.size, 2, none⟩ = some (.int .i64 m) := hx1.cell (cell_new w _ _ 2)
        have ec3 : w1.cell? ⟨w.heap.size, 3, none⟩ = some (.slice A n c) := hx1.cell (cell_new w _ _ 3)
        have ec4 : w1.cell? ⟨w.heap.size, 4, none⟩ = some (.string s) := hx1.cell (cell_new w _ _ 4)
        have hx := (Ext.alloc w (.cells #[.int .i64 7, .int .i64 o, .int .i64 m, .slice A n c, .string s] 28)).trans hx1
        have hlt := World.block_lt_of_cell? _ _ ec0
        clear hx1
        go_wp2_with fail
        refine (ref_Plain 7 o m A n c s _ h63.1 hs).mono ?_
        rintro e w2 ⟨rfl, hx2⟩
        rw [HPL.out]
        replace ec0 := hx2.cell ((Ext.alloc _ _).cell ec0)
        have d0 : w2.cell? ⟨w1.heap.size, 0, none⟩ = some (.int .i64 7) := hx2.cell (cell_new w1 _ _ 0)
        replace ec1 := hx2.cell ((Ext.alloc _ _).cell ec1)
        have d1 : w2.cell? ⟨w1.heap.size, 1, none⟩ = some (.int .i64 o) := hx2.cell (cell_new w1 _ _ 1)
        replace ec2 := hx2.cell ((Ext.alloc _ _).cell ec2)
        have d2 : w2.cell? ⟨w1.heap.size, 2, none⟩ = some (.int .i64 m) := hx2.cell (cell_new w1 _ _ 2)
        replace ec3 := hx2.cell ((Ext.alloc _ _).cell ec3)
        have d3 : w2.cell? ⟨w1.heap.size, 3, none⟩ = some (.slice A n c) := hx2.cell (cell_new w1 _ _ 3)
        replace ec4 := hx2.cell ((Ext.alloc _ _).cell ec4)
        have d4 : w2.cell? ⟨w1.heap.size, 4, none⟩ = some (.string s) := hx2.cell (cell_new w1 _ _ 4)
        have hlt2 := World.block_lt_of_cell? _ _ d0
        replace hx := (hx.trans (Ext.alloc w1 _)).trans hx2
        have f0 : w2.frozen? ⟨w1.heap.size, 0, none⟩ = false := hx2.frozenF (cell_new w1 _ _ 0) (fr_new w1 _ _ 0)
        clear hx2
        go_wp2_with fail
        obtain ⟨W, hW⟩ : ∃ W, W = ((w2).setCell ⟨w1.heap.size, 0, none⟩ (.int .i64 9)) := ⟨_, rfl⟩
        have hxb : Ext w2 (w2) := by (repeat (first | (with_reducible exact Ext.refl _) | (with_reducible assumption) | (with_reducible refine Ext.draws ?_) | (with_reducible refine Ext.allocs ?_ _) | (with_reducible refine Ext.sets ?_ ?_ _) | (with_reducible exact Nat.le_refl _) | (exact (by simp)) | (exact (by simp; omega))))
        have hsW := hsl.ext (hx.trans hxb)
        have hxW : Ext w W := by rw [hW]; first | exact (hx.trans hxb).sets (by simp; omega) _ | exact ((hx.trans hxb).sets (by simp; omega) _).allocs _
        replace ec0 : W.cell? ⟨w.heap.size, 0, none⟩ = some (.int .i64 7) := by rw [hW]; first | exact (cell_set_ne _ _ _ _ _ _ (by omega)).trans (hxb.cell ec0) | exact (Ext.alloc _ _).cell ((cell_set_ne _ _ _ _ _ _ (by omega)).trans (hxb.cell ec0))
        replace d0 : W.cell? ⟨w1.heap.size, 0, none⟩ = some (.int .i64 9) := by rw [hW]; first | exact (cell_set_ne _ _ _ _ _ _ (by omega)).trans (hxb.cell d0) | exact World.cell?_setCell_same _ _ _ (hxb.cell d0) | exact (Ext.alloc _ _).cell ((cell_set_ne _ _ _ _ _ _ (by omega)).trans (hxb.cell d0)) | exact (Ext.alloc _ _).cell (World.cell?_setCell_same _ _ _ (hxb.cell d0))
        replace ec1 : W.cell? ⟨w.heap.size, 1, none⟩ = some (.int .i64 o) := by rw [hW]; first | exact (cell_set_ne _ _ _ _ _ _ (by omega)).trans (hxb.cell ec1) | exact (Ext.alloc _ _).cell ((cell_set_ne _ _ _ _ _ _ (by omega)).trans (hxb.cell ec1))
        replace d1 : W.cell? ⟨w1.heap.size, 1, none⟩ = some (.int .i64 o) := by rw [hW]; first | exact (cell_set_ne _ _ _ _ _ _ (by omega)).trans (hxb.cell d1) | exact World.cell?_setCell_same _ _ _ (hxb.cell d1) | exact (Ext.alloc _ _).cell ((cell_set_ne _ _ _ _ _ _ (by omega)).trans (hxb.cell d1)) | exact (Ext.alloc _ _).cell (World.cell?_setCell_same _ _ _ (hxb.cell d1))
        replace ec2 : W.cell? ⟨w.heap.size, 2, none⟩ = some (.int .i64 m) := by rw [hW]; first | exact (cell_set_ne _ _ _ _ _ _ (by omega)).trans (hxb.cell ec2) | exact (Ext.alloc _ _).cell ((cell_set_ne _ _ _ _ _ _ (by omega)).trans (hxb.cell ec2))
        replace d2 : W.cell? ⟨w1.heap.size, 2, none⟩ = some (.int .i64 m) := by rw [hW]; first | exact (cell_set_ne _ _ _ _ _ _ (by omega)).trans (hxb.cell d2) | exact World.cell?_setCell_same _ _ _ (hxb.cell d2) | exact (Ext.alloc _ _).cell ((cell_set_ne _ _ _ _ _ _ (by omega)).trans (hxb.cell d2)) | exact (Ext.alloc _ _).cell (World.cell?_setCell_same _ _ _ (hxb.cell d2))
        replace ec3 : W.cell? ⟨w.heap.size, 3, none⟩ = some (.slice A n c) := by rw [hW]; first | exact (cell_set_ne _ _ _ _ _ _ (by omega)).trans (hxb.cell ec3) | exact (Ext.alloc _ _).cell ((cell_set_ne _ _ _ _ _ _ (by omega)).trans (hxb.cell ec3))
        replace d3 : W.cell? ⟨w1.heap.size, 3, none⟩ = some (.slice A n c) := by rw [hW]; first | exact (cell_set_ne _ _ _ _ _ _ (by omega)).trans (hxb.cell d3) | exact World.cell?_setCell_same _ _ _ (hxb.cell d3) | exact (Ext.alloc _ _).cell ((cell_set_ne _ _ _ _ _ _ (by omega)).trans (hxb.cell d3)) | exact (Ext.alloc _ _).cell (World.cell?_setCell_same _ _ _ (hxb.cell d3))
        replace ec4 : W.cell? ⟨w.heap.size, 4, none⟩ = some (.string s) := by rw [hW]; first | exact (cell_set_ne _ _ _ _ _ _ (by omega)).trans (hxb.cell ec4) | exact (Ext.alloc _ _).cell ((cell_set_ne _ _ _ _ _ _ (by omega)).trans (hxb.cell ec4))
        replace d4 : W.cell? ⟨w1.heap.size, 4, none⟩ = some (.string s) := by rw [hW]; first | exact (cell_set_ne _ _ _ _ _ _ (by omega)).trans (hxb.cell d4) | exact World.cell?_setCell_same _ _ _ (hxb.cell d4) | exact (Ext.alloc _ _).cell ((cell_set_ne _ _ _ _ _ _ (by omega)).trans (hxb.cell d4)) | exact (Ext.alloc _ _).cell (World.cell?_setCell_same _ _ _ (hxb.cell d4))
        rw [← hW]
        have hsX : Sl W A n c l := by rw [hW]; exact hsW.keepBlk (fun ad ea hn => Below.heap_setCell _ _ _ _ (by have := hsl.blk ad ea hn; show ad.block ≠ w1.heap.size; omega))
        have hsE := hsl.ext hxW
        have HX := Lib.hid (turn_0 o m n s)
        have HXL : Hid ((if false then putE 9 o m l s else []) = ([] : List UInt8)) := rfl
        clear hW hxb hsW f0 hlt2 hlt hx
        refine (event_Put 9 o m A n c l s _ hsX hs HX HXL).mono ?_
        rintro e w4 ⟨A4, n4, c4, rfl, hb4, hx4⟩
        replace ec0 := hx4.cell ec0
        replace d0 := hx4.cell d0
        replace ec1 := hx4.cell ec1
        replace d1 := hx4.cell d1
        replace ec2 := hx4.cell ec2
        replace d2 := hx4.cell d2
        replace ec3 := hx4.cell ec3
        replace d3 := hx4.cell d3
        replace ec4 := hx4.cell ec4
        replace d4 := hx4.cell d4
        go_wp2_with fail
        refine (event_Right 7 o m A n c l s _ (hsE.ext hx4) hs).mono ?_
        rintro e w5 ⟨rfl, hx5⟩
        rw [HR.out]
        replace d0 := hx5.cell d0
        replace d1 := hx5.cell d1
        replace d2 := hx5.cell d2
        replace d3 := hx5.cell d3
        replace d4 := hx5.cell d4
        go_wp2_with fail
        refine (event_Right 9 o m A n c l s _ ((hsX.ext hx4).ext hx5) hs).mono ?_
        rintro e w6 ⟨rfl, hx6⟩
        rw [HX.out]
        replace d0 := hx6.cell d0
        replace d1 := hx6.cell d1
        replace d2 := hx6.cell d2
        replace d3 := hx6.cell d3
        replace d4 := hx6.cell d4
        go_wp2_with fail
        refine (event_Plain 9 o m A n c l s _ (((hsX.ext hx4).ext hx5).ext hx6) hs).mono ?_
        rintro e w7 ⟨rfl, hx7⟩
        rw [plain_no HX.out]
        go_wp2_with fail
        refine (law5_known _).mono ?_
        rintro e w8 ⟨rfl, hx8⟩
        go_wp2_with fail
        go_ret
        exact ⟨rfl, ((((hxW.trans hx4).trans hx5).trans hx6).trans hx7).trans hx8⟩
      by_cases q1 : (bits BinOp.and IntKind.i64 x 255).tmod 5 = 1
      · skip
        have g0 : ((bits BinOp.and IntKind.i64 x 255).tmod 5 == 0) = false := by simpa using q0
        have g1 : ((bits BinOp.and IntKind.i64 x 255).tmod 5 == 1) = true := by simpa using q1
        clear q0 q1
        go_enter Try.func10, Try.ntmps10
        go_wp2_with fail
        refine (ref_RightEvent 7 o m A n c s _ h63.1 hs).mono ?_
        rintro e w1 ⟨rfl, hx1⟩
        rw [HR.out]
        have ec0 : w1.cell? ⟨w.heap.size, 0, none⟩ = some (.int .i64 7) := hx1.cell (cell_new w _ _ 0)
        have ec1 : w1.cell? ⟨w.heap.size, 1, none⟩ = some (.int .i64 o) := hx1.cell (cell_new w _ _ 1)
        have ec2 : w1.cell? ⟨w.heap.size, 2, none⟩ = some (.int .i64 m) := hx1.cell (cell_new w _ _ 2)
        have ec3 : w1.cell? ⟨w.heap.size, 3, none⟩ = some (.slice A n c) := hx1.cell (cell_new w _ _ 3)
        have ec4 : w1.cell? ⟨w.heap.size, 4, none⟩ = some (.string s) := hx1.cell (cell_new w _ _ 4)
        have hx := (Ext.alloc w (.cells #[.int .i64 7, .int .i64 o, .int .i64 m, .slice A n c, .string s] 28)).trans hx1
        have hlt := World.block_lt_of_cell? _ _ ec0
        clear hx1
        go_wp2_with fail
        refine (ref_Plain 7 o m A n c s _ h63.1 hs).mono ?_
        rintro e w2 ⟨rfl, hx2⟩
        rw [HPL.out]
        replace ec0 := hx2.cell ((Ext.alloc _ _).cell ec0)
        have d0 : w2.cell? ⟨w1.heap.size, 0, none⟩ = some (.int .i64 7) := hx2.cell (cell_new w1 _ _ 0)
        replace ec1 := hx2.cell ((Ext.alloc _ _).cell ec1)
        have d1 : w2.cell? ⟨w1.heap.size, 1, none⟩ = some (.int .i64 o) := hx2.cell (cell_new w1 _ _ 1)
        replace ec2 := hx2.cell ((Ext.alloc _ _).cell ec2)
        have d2 : w2.cell? ⟨w1.heap.size, 2, none⟩ = some (.int .i64 m) := hx2.cell (cell_new w1 _ _ 2)
        replace ec3 := hx2.cell ((Ext.alloc _ _).cell ec3)
        have d3 : w2.cell? ⟨w1.heap.size, 3, none⟩ = some (.slice A n c) := hx2.cell (cell_new w1 _ _ 3)
        replace ec4 := hx2.cell ((Ext.alloc _ _).cell ec4)
        have d4 : w2.cell? ⟨w1.heap.size, 4, none⟩ = some (.string s) := hx2.cell (cell_new w1 _ _ 4)
        have hlt2 := World.block_lt_of_cell? _ _ d0
        replace hx := (hx.trans (Ext.alloc w1 _)).trans hx2
        clear hx2
        go_wp2_with fail
        refine (law5_known _).mono ?_
        rintro e w4 ⟨rfl, hx4⟩
        go_wp2_with fail
        go_ret
        exact ⟨rfl, hx.trans hx4⟩
      by_cases q2 : (bits BinOp.and IntKind.i64 x 255).tmod 5 = 2
      · skip
        have g0 : ((bits BinOp.and IntKind.i64 x 255).tmod 5 == 0) = false := by simpa using q0
        have g1 : ((bits BinOp.and IntKind.i64 x 255).tmod 5 == 1) = false := by simpa using q1
        have g2 : ((bits BinOp.and IntKind.i64 x 255).tmod 5 == 2) = true := by simpa using q2
        clear q0 q1 q2
        -- 1: the field, .int .i64 1: its value, w2: the world ahead of the store; then the event: k o m slice bytes text, the law
        go_enter Try.func10, Try.ntmps10
        go_wp2_with fail
        refine (ref_RightEvent 7 o m A n c s _ h63.1 hs).mono ?_
        rintro e w1 ⟨rfl, hx1⟩
        rw [HR.out]
        have ec0 : w1.cell? ⟨w.heap.size, 0, none⟩ = some (.int .i64 7) := hx1.cell (cell_new w _ _ 0)
        have ec1 : w1.cell? ⟨w.heap.size, 1, none⟩ = some (.int .i64 o) := hx1.cell (cell_new w _ _ 1)
        have ec2 : w1.cell? ⟨w.heap.size, 2, none⟩ = some (.int .i64 m) := hx1.cell (cell_new w _ _ 2)
        have ec3 : w1.cell? ⟨w.heap.size, 3, none⟩ = some (.slice A n c) := hx1.cell (cell_new w _ _ 3)
        have ec4 : w1.cell? ⟨w.heap.size, 4, none⟩ = some (.string s) := hx1.cell (cell_new w _ _ 4)
        have hx := (Ext.alloc w (.cells #[.int .i64 7, .int .i64 o, .int .i64 m, .slice A n c, .string s] 28)).trans hx1
        have hlt := World.block_lt_of_cell? _ _ ec0
        clear hx1
        go_wp2_with fail
        refine (ref_Plain 7 o m A n c s _ h63.1 hs).mono ?_
        rintro e w2 ⟨rfl, hx2⟩
        rw [HPL.out]
        replace ec0 := hx2.cell ((Ext.alloc _ _).cell ec0)
        have d0 : w2.cell? ⟨w1.heap.size, 0, none⟩ = some (.int .i64 7) := hx2.cell (cell_new w1 _ _ 0)
        replace ec1 := hx2.cell ((Ext.alloc _ _).cell ec1)
        have d1 : w2.cell? ⟨w1.heap.size, 1, none⟩ = some (.int .i64 o) := hx2.cell (cell_new w1 _ _ 1)
        replace ec2 := hx2.cell ((Ext.alloc _ _).cell ec2)
        have d2 : w2.cell? ⟨w1.heap.size, 2, none⟩ = some (.int .i64 m) := hx2.cell (cell_new w1 _ _ 2)
        replace ec3 := hx2.cell ((Ext.alloc _ _).cell ec3)
        have d3 : w2.cell? ⟨w1.heap.size, 3, none⟩ = some (.slice A n c) := hx2.cell (cell_new w1 _ _ 3)
        replace ec4 := hx2.cell ((Ext.alloc _ _).cell ec4)
        have d4 : w2.cell? ⟨w1.heap.size, 4, none⟩ = some (.string s) := hx2.cell (cell_new w1 _ _ 4)
        have hlt2 := World.block_lt_of_cell? _ _ d0
        replace hx := (hx.trans (Ext.alloc w1 _)).trans hx2
        have f1 : w2.frozen? ⟨w1.heap.size, 1, none⟩ = false := hx2.frozenF (cell_new w1 _ _ 1) (fr_new w1 _ _ 1)
        clear hx2
        go_wp2_with fail
        obtain ⟨W, hW⟩ : ∃ W, W = ((w2).setCell ⟨w1.heap.size, 1, none⟩ (.int .i64 1)) := ⟨_, rfl⟩
        have hxb : Ext w2 (w2) := by (repeat (first | (with_reducible exact Ext.refl _) | (with_reducible assumption) | (with_reducible refine Ext.draws ?_) | (with_reducible refine Ext.allocs ?_ _) | (with_reducible refine Ext.sets ?_ ?_ _) | (with_reducible exact Nat.le_refl _) | (exact (by simp)) | (exact (by simp; omega))))
        have hsW := hsl.ext (hx.trans hxb)
        have hxW : Ext w W := by rw [hW]; first | exact (hx.trans hxb).sets (by simp; omega) _ | exact ((hx.trans hxb).sets (by simp; omega) _).allocs _
        replace ec0 : W.cell? ⟨w.heap.size, 0, none⟩ = some (.int .i64 7) := by rw [hW]; first | exact (cell_set_ne _ _ _ _ _ _ (by omega)).trans (hxb.cell ec0) | exact (Ext.alloc _ _).cell ((cell_set_ne _ _ _ _ _ _ (by omega)).trans (hxb.cell ec0))
        replace d0 : W.cell? ⟨w1.heap.size, 0, none⟩ = some (.int .i64 7) := by rw [hW]; first | exact (cell_set_ne _ _ _ _ _ _ (by omega)).trans (hxb.cell d0) | exact World.cell?_setCell_same _ _ _ (hxb.cell d0) | exact (Ext.alloc _ _).cell ((cell_set_ne _ _ _ _ _ _ (by omega)).trans (hxb.cell d0)) | exact (Ext.alloc _ _).cell (World.cell?_setCell_same _ _ _ (hxb.cell d0))
        replace ec1 : W.cell? ⟨w.heap.size, 1, none⟩ = some (.int .i64 o) := by rw [hW]; first | exact (cell_set_ne _ _ _ _ _ _ (by omega)).trans (hxb.cell ec1) | exact (Ext.alloc _ _).cell ((cell_set_ne _ _ _ _ _ _ (by omega)).trans (hxb.cell ec1))
        replace d1 : W.cell? ⟨w1.heap.size, 1, none⟩ = some (.int .i64 1) := by rw [hW]; first | exact (cell_set_ne _ _ _ _ _ _ (by omega)).trans (hxb.cell d1) | exact World.cell?_setCell_same _ _ _ (hxb.cell d1) | exact (Ext.alloc _ _).cell ((cell_set_ne _ _ _ _ _ _ (by omega)).trans (hxb.cell d1)) | exact (Ext.alloc _ _).cell (World.cell?_setCell_same _ _ _ (hxb.cell d1))
        replace ec2 : W.cell? ⟨w.heap.size, 2, none⟩ = some (.int .i64 m) := by rw [hW]; first | exact (cell_set_ne _ _ _ _ _ _ (by omega)).trans (hxb.cell ec2) | exact (Ext.alloc _ _).cell ((cell_set_ne _ _ _ _ _ _ (by omega)).trans (hxb.cell ec2))
        replace d2 : W.cell? ⟨w1.heap.size, 2, none⟩ = some (.int .i64 m) := by rw [hW]; first | exact (cell_set_ne _ _ _ _ _ _ (by omega)).trans (hxb.cell d2) | exact World.cell?_setCell_same _ _ _ (hxb.cell d2) | exact (Ext.alloc _ _).cell ((cell_set_ne _ _ _ _ _ _ (by omega)).trans (hxb.cell d2)) | exact (Ext.alloc _ _).cell (World.cell?_setCell_same _ _ _ (hxb.cell d2))
        replace ec3 : W.cell? ⟨w.heap.size, 3, none⟩ = some (.slice A n c) := by rw [hW]; first | exact (cell_set_ne _ _ _ _ _ _ (by omega)).trans (hxb.cell ec3) | exact (Ext.alloc _ _).cell ((cell_set_ne _ _ _ _ _ _ (by omega)).trans (hxb.cell ec3))
        replace d3 : W.cell? ⟨w1.heap.size, 3, none⟩ = some (.slice A n c) := by rw [hW]; first | exact (cell_set_ne _ _ _ _ _ _ (by omega)).trans (hxb.cell d3) | exact World.cell?_setCell_same _ _ _ (hxb.cell d3) | exact (Ext.alloc _ _).cell ((cell_set_ne _ _ _ _ _ _ (by omega)).trans (hxb.cell d3)) | exact (Ext.alloc _ _).cell (World.cell?_setCell_same _ _ _ (hxb.cell d3))
        replace ec4 : W.cell? ⟨w.heap.size, 4, none⟩ = some (.string s) := by rw [hW]; first | exact (cell_set_ne _ _ _ _ _ _ (by omega)).trans (hxb.cell ec4) | exact (Ext.alloc _ _).cell ((cell_set_ne _ _ _ _ _ _ (by omega)).trans (hxb.cell ec4))
        replace d4 : W.cell? ⟨w1.heap.size, 4, none⟩ = some (.string s) := by rw [hW]; first | exact (cell_set_ne _ _ _ _ _ _ (by omega)).trans (hxb.cell d4) | exact World.cell?_setCell_same _ _ _ (hxb.cell d4) | exact (Ext.alloc _ _).cell ((cell_set_ne _ _ _ _ _ _ (by omega)).trans (hxb.cell d4)) | exact (Ext.alloc _ _).cell (World.cell?_setCell_same _ _ _ (hxb.cell d4))
        rw [← hW]
        have hsX : Sl W A n c l := by rw [hW]; exact hsW.keepBlk (fun ad ea hn => Below.heap_setCell _ _ _ _ (by have := hsl.blk ad ea hn; show ad.block ≠ w1.heap.size; omega))
        have hsE := hsl.ext hxW
        have HX := Lib.hid (turn_2 (k := 7) (m := m) (n := n) (s := s) (by omega))
        have HXL : Hid ((if false then putE 7 1 m l s else []) = ([] : List UInt8)) := rfl
        clear hW hxb hsW f1 hlt2 hlt hx
        refine (event_Put 7 1 m A n c l s _ hsX hs HX HXL).mono ?_
        rintro e w4 ⟨A4, n4, c4, rfl, hb4, hx4⟩
        replace ec0 := hx4.cell ec0
        replace d0 := hx4.cell d0
        replace ec1 := hx4.cell ec1
        replace d1 := hx4.cell d1
        replace ec2 := hx4.cell ec2
        replace d2 := hx4.cell d2
        replace ec3 := hx4.cell ec3
        replace d3 := hx4.cell d3
        replace ec4 := hx4.cell ec4
        replace d4 := hx4.cell d4
        go_wp2_with fail
        refine (event_Right 7 o m A n c l s _ (hsE.ext hx4) hs).mono ?_
        rintro e w5 ⟨rfl, hx5⟩
        rw [HR.out]
        replace d0 := hx5.cell d0
        replace d1 := hx5.cell d1
        replace d2 := hx5.cell d2
        replace d3 := hx5.cell d3
        replace d4 := hx5.cell d4
        go_wp2_with fail
        refine (event_Right 7 1 m A n c l s _ ((hsX.ext hx4).ext hx5) hs).mono ?_
        rintro e w6 ⟨rfl, hx6⟩
        rw [HX.out]
        replace d0 := hx6.cell d0
        replace d1 := hx6.cell d1
        replace d2 := hx6.cell d2
        replace d3 := hx6.cell d3
        replace d4 := hx6.cell d4
        go_wp2_with fail
        refine (event_Plain 7 1 m A n c l s _ (((hsX.ext hx4).ext hx5).ext hx6) hs).mono ?_
        rintro e w7 ⟨rfl, hx7⟩
        rw [plain_no HX.out]
        go_wp2_with fail
        refine (law5_known _).mono ?_
        rintro e w8 ⟨rfl, hx8⟩
        go_wp2_with fail
        go_ret
        exact ⟨rfl, ((((hxW.trans hx4).trans hx5).trans hx6).trans hx7).trans hx8⟩
      by_cases q3 : (bits BinOp.and IntKind.i64 x 255).tmod 5 = 3
      · skip
        have g0 : ((bits BinOp.and IntKind.i64 x 255).tmod 5 == 0) = false := by simpa using q0
        have g1 : ((bits BinOp.and IntKind.i64 x 255).tmod 5 == 1) = false := by simpa using q1
        have g2 : ((bits BinOp.and IntKind.i64 x 255).tmod 5 == 2) = false := by simpa using q2
        have g3 : ((bits BinOp.and IntKind.i64 x 255).tmod 5 == 3) = true := by simpa using q3
        clear q0 q1 q2 q3
        -- 3: the field, .slice (some ⟨w2.heap.size, 0, none⟩) 1 1: its value, w2: the world ahead of the store; then the event: k o m slice bytes text, the law
        go_enter Try.func10, Try.ntmps10
        go_wp2_with fail
        refine (ref_RightEvent 7 o m A n c s _ h63.1 hs).mono ?_
        rintro e w1 ⟨rfl, hx1⟩
        rw [HR.out]
        have ec0 : w1.cell? ⟨w.heap.size, 0, none⟩ = some (.int .i64 7) := hx1.cell (cell_new w _ _ 0)
        have ec1 : w1.cell? ⟨w.heap.size, 1, none⟩ = some (.int .i64 o) := hx1.cell (cell_new w _ _ 1)
        have ec2 : w1.cell? ⟨w.heap.size, 2, none⟩ = some (.int .i64 m) := hx1.cell (cell_new w _ _ 2)
        have ec3 : w1.cell? ⟨w.heap.size, 3, none⟩ = some (.slice A n c) := hx1.cell (cell_new w _ _ 3)
        have ec4 : w1.cell? ⟨w.heap.size, 4, none⟩ = some (.string s) := hx1.cell (cell_new w _ _ 4)
        have hx := (Ext.alloc w (.cells #[.int .i64 7, .int .i64 o, .int .i64 m, .slice A n c, .string s] 28)).trans hx1
        have hlt := World.block_lt_of_cell? _ _ ec0
        clear hx1
        go_wp2_with fail
        refine (ref_Plain 7 o m A n c s _ h63.1 hs).mono ?_
        rintro e w2 ⟨rfl, hx2⟩
        rw [HPL.out]
        replace ec0 := hx2.cell ((Ext.alloc _ _).cell ec0)
        have d0 : w2.cell? ⟨w1.heap.size, 0, none⟩ = some (.int .i64 7) := hx2.cell (cell_new w1 _ _ 0)
        replace ec1 := hx2.cell ((Ext.alloc _ _).cell ec1)
        have d1 : w2.cell? ⟨w1.heap.size, 1, none⟩ = some (.int .i64 o) := hx2.cell (cell_new w1 _ _ 1)
        replace ec2 := hx2.cell ((Ext.alloc _ _).cell ec2)
        have d2 : w2.cell? ⟨w1.heap.size, 2, none⟩ = some (.int .i64 m) := hx2.cell (cell_new w1 _ _ 2)
        replace ec3 := hx2.cell ((Ext.alloc _ _).cell ec3)
        have d3 : w2.cell? ⟨w1.heap.size, 3, none⟩ = some (.slice A n c) := hx2.cell (cell_new w1 _ _ 3)
        replace ec4 := hx2.cell ((Ext.alloc _ _).cell ec4)
        have d4 : w2.cell? ⟨w1.heap.size, 4, none⟩ = some (.string s) := hx2.cell (cell_new w1 _ _ 4)
        have hlt2 := World.block_lt_of_cell? _ _ d0
        replace hx := (hx.trans (Ext.alloc w1 _)).trans hx2
        have f3 : w2.frozen? ⟨w1.heap.size, 3, none⟩ = false := hx2.frozenF (cell_new w1 _ _ 3) (fr_new w1 _ _ 3)
        clear hx2
        go_wp2_with fail
        obtain ⟨W, hW⟩ : ∃ W, W = ((w2).setCell ⟨w1.heap.size, 3, none⟩ (.slice (some ⟨w2.heap.size, 0, none⟩) 1 1)).alloc (.cells #[.int .u8 0] U8) := ⟨_, rfl⟩
        have hxb : Ext w2 (w2) := by (repeat (first | (with_reducible exact Ext.refl _) | (with_reducible assumption) | (with_reducible refine Ext.draws ?_) | (with_reducible refine Ext.allocs ?_ _) | (with_reducible refine Ext.sets ?_ ?_ _) | (with_reducible exact Nat.le_refl _) | (exact (by simp)) | (exact (by simp; omega))))
        have hsW := hsl.ext (hx.trans hxb)
        have hxW : Ext w W := by rw [hW]; first | exact (hx.trans hxb).sets (by simp; omega) _ | exact ((hx.trans hxb).sets (by simp; omega) _).allocs _
        replace ec0 : W.cell? ⟨w.heap.size, 0, none⟩ = some (.int .i64 7) := by rw [hW]; first | exact (cell_set_ne _ _ _ _ _ _ (by omega)).trans (hxb.cell ec0) | exact (Ext.alloc _ _).cell ((cell_set_ne _ _ _ _ _ _ (by omega)).trans (hxb.cell ec0))
        replace d0 : W.cell? ⟨w1.heap.size, 0, none⟩ = some (.int .i64 7) := by rw [hW]; first | exact (cell_set_ne _ _ _ _ _ _ (by omega)).trans (hxb.cell d0) | exact World.cell?_setCell_same _ _ _ (hxb.cell d0) | exact (Ext.alloc _ _).cell ((cell_set_ne _ _ _ _ _ _ (by omega)).trans (hxb.cell d0)) | exact (Ext.alloc _ _).cell (World.cell?_setCell_same _ _ _ (hxb.cell d0))
        replace ec1 : W.cell? ⟨w.heap.size, 1, none⟩ = some (.int .i64 o) := by rw [hW]; first | exact (cell_set_ne _ _ _ _ _ _ (by omega)).trans (hxb.cell ec1) | exact (Ext.alloc _ _).cell ((cell_set_ne _ _ _ _ _ _ (by omega)).trans (hxb.cell ec1))
        replace d1 : W.cell? ⟨w1.heap.size, 1, none⟩ = some (.int .i64 o) := by rw [hW]; first | exact (cell_set_ne _ _ _ _ _ _ (by omega)).trans (hxb.cell d1) | exact World.cell?_setCell_same _ _ _ (hxb.cell d1) | exact (Ext.alloc _ _).cell ((cell_set_ne _ _ _ _ _ _ (by omega)).trans (hxb.cell d1)) | exact (Ext.alloc _ _).cell (World.cell?_setCell_same _ _ _ (hxb.cell d1))
        replace ec2 : W.cell? ⟨w.heap.size, 2, none⟩ = some (.int .i64 m) := by rw [hW]; first | exact (cell_set_ne _ _ _ _ _ _ (by omega)).trans (hxb.cell ec2) | exact (Ext.alloc _ _).cell ((cell_set_ne _ _ _ _ _ _ (by omega)).trans (hxb.cell ec2))
        replace d2 : W.cell? ⟨w1.heap.size, 2, none⟩ = some (.int .i64 m) := by rw [hW]; first | exact (cell_set_ne _ _ _ _ _ _ (by omega)).trans (hxb.cell d2) | exact World.cell?_setCell_same _ _ _ (hxb.cell d2) | exact (Ext.alloc _ _).cell ((cell_set_ne _ _ _ _ _ _ (by omega)).trans (hxb.cell d2)) | exact (Ext.alloc _ _).cell (World.cell?_setCell_same _ _ _ (hxb.cell d2))
        replace ec3 : W.cell? ⟨w.heap.size, 3, none⟩ = some (.slice A n c) := by rw [hW]; first | exact (cell_set_ne _ _ _ _ _ _ (by omega)).trans (hxb.cell ec3) | exact (Ext.alloc _ _).cell ((cell_set_ne _ _ _ _ _ _ (by omega)).trans (hxb.cell ec3))
        replace d3 : W.cell? ⟨w1.heap.size, 3, none⟩ = some (.slice (some ⟨w2.heap.size, 0, none⟩) 1 1) := by rw [hW]; first | exact (cell_set_ne _ _ _ _ _ _ (by omega)).trans (hxb.cell d3) | exact World.cell?_setCell_same _ _ _ (hxb.cell d3) | exact (Ext.alloc _ _).cell ((cell_set_ne _ _ _ _ _ _ (by omega)).trans (hxb.cell d3)) | exact (Ext.alloc _ _).cell (World.cell?_setCell_same _ _ _ (hxb.cell d3))
        replace ec4 : W.cell? ⟨w.heap.size, 4, none⟩ = some (.string s) := by rw [hW]; first | exact (cell_set_ne _ _ _ _ _ _ (by omega)).trans (hxb.cell ec4) | exact (Ext.alloc _ _).cell ((cell_set_ne _ _ _ _ _ _ (by omega)).trans (hxb.cell ec4))
        replace d4 : W.cell? ⟨w1.heap.size, 4, none⟩ = some (.string s) := by rw [hW]; first | exact (cell_set_ne _ _ _ _ _ _ (by omega)).trans (hxb.cell d4) | exact World.cell?_setCell_same _ _ _ (hxb.cell d4) | exact (Ext.alloc _ _).cell ((cell_set_ne _ _ _ _ _ _ (by omega)).trans (hxb.cell d4)) | exact (Ext.alloc _ _).cell (World.cell?_setCell_same _ _ _ (hxb.cell d4))
        rw [← hW]
        have hsX : Sl W (some ⟨w2.heap.size, 0, none⟩) 1 1 [0] := by rw [hW]; exact byt_set w2 _ _
        have hsE := hsl.ext hxW
        have HX := Lib.hid (turn_3 (k := 7) (o := o) (m := m) (s := s) (by omega))
        have HXL : Hid ((if false then putE 7 o m [0] s else []) = ([] : List UInt8)) := rfl
        clear hW hxb hsW f3 hlt2 hlt hx
        refine (event_Put 7 o m (some ⟨w2.heap.size, 0, none⟩) 1 1 [0] s _ hsX hs HX HXL).mono ?_
        rintro e w4 ⟨A4, n4, c4, rfl, hb4, hx4⟩
        replace ec0 := hx4.cell ec0
        replace d0 := hx4.cell d0
        replace ec1 := hx4.cell ec1
        replace d1 := hx4.cell d1
        replace ec2 := hx4.cell ec2
        replace d2 := hx4.cell d2
        replace ec3 := hx4.cell ec3
        replace d3 := hx4.cell d3
        replace ec4 := hx4.cell ec4
        replace d4 := hx4.cell d4
        go_wp2_with fail
        refine (event_Right 7 o m A n c l s _ (hsE.ext hx4) hs).mono ?_
        rintro e w5 ⟨rfl, hx5⟩
        rw [HR.out]
        replace d0 := hx5.cell d0
        replace d1 := hx5.cell d1
        replace d2 := hx5.cell d2
        replace d3 := hx5.cell d3
        replace d4 := hx5.cell d4
        go_wp2_with fail
        refine (event_Right 7 o m (some ⟨w2.heap.size, 0, none⟩) 1 1 [0] s _ ((hsX.ext hx4).ext hx5) hs).mono ?_
        rintro e w6 ⟨rfl, hx6⟩
        rw [HX.out]
        replace d0 := hx6.cell d0
        replace d1 := hx6.cell d1
        replace d2 := hx6.cell d2
        replace d3 := hx6.cell d3
        replace d4 := hx6.cell d4
        go_wp2_with fail
        refine (event_Plain 7 o m (some ⟨w2.heap.size, 0, none⟩) 1 1 [0] s _ (((hsX.ext hx4).ext hx5).ext hx6) hs).mono ?_
        rintro e w7 ⟨rfl, hx7⟩
        rw [plain_no HX.out]
        go_wp2_with fail
        refine (law5_known _).mono ?_
        rintro e w8 ⟨rfl, hx8⟩
        go_wp2_with fail
        go_ret
        exact ⟨rfl, ((((hxW.trans hx4).trans hx5).trans hx6).trans hx7).trans hx8⟩
      have g0 : ((bits BinOp.and IntKind.i64 x 255).tmod 5 == 0) = false := by simpa using q0
      have g1 : ((bits BinOp.and IntKind.i64 x 255).tmod 5 == 1) = false := by simpa using q1
      have g2 : ((bits BinOp.and IntKind.i64 x 255).tmod 5 == 2) = false := by simpa using q2
      have g3 : ((bits BinOp.and IntKind.i64 x 255).tmod 5 == 3) = false := by simpa using q3
      clear q0 q1 q2 q3
      -- 2: the field, .int .i64 1: its value, w2: the world ahead of the store; then the event: k o m slice bytes text, the law
      go_enter Try.func10, Try.ntmps10
      go_wp2_with fail
      refine (ref_RightEvent 7 o m A n c s _ h63.1 hs).mono ?_
      rintro e w1 ⟨rfl, hx1⟩
      rw [HR.out]
      have ec0 : w1.cell? ⟨w.heap.size, 0, none⟩ = some (.int .i64 7) := hx1.cell (cell_new w _ _ 0)
      have ec1 : w1.cell? ⟨w.heap.size, 1, none⟩ = some (.int .i64 o) := hx1.cell (cell_new w _ _ 1)
      have ec2 : w1.cell? ⟨w.heap.size, 2, none⟩ = some (.int .i64 m) := hx1.cell (cell_new w _ _ 2)
      have ec3 : w1.cell? ⟨w.heap.size, 3, none⟩ = some (.slice A n c) := hx1.cell (cell_new w _ _ 3)
      have ec4 : w1.cell? ⟨w.heap.size, 4, none⟩ = some (.string s) := hx1.cell (cell_new w _ _ 4)
      have hx := (Ext.alloc w (.cells #[.int .i64 7, .int .i64 o, .int .i64 m, .slice A n c, .string s] 28)).trans hx1
      have hlt := World.block_lt_of_cell? _ _ ec0
      clear hx1
      go_wp2_with fail
      refine (ref_Plain 7 o m A n c s _ h63.1 hs).mono ?_
      rintro e w2 ⟨rfl, hx2⟩
      rw [HPL.out]
      replace ec0 := hx2.cell ((Ext.alloc _ _).cell ec0)
      have d0 : w2.cell? ⟨w1.heap.size, 0, none⟩ = some (.int .i64 7) := hx2.cell (cell_new w1 _ _ 0)
      replace ec1 := hx2.cell ((Ext.alloc _ _).cell ec1)
      have d1 : w2.cell? ⟨w1.heap.size, 1, none⟩ = some (.int .i64 o) := hx2.cell (cell_new w1 _ _ 1)
      replace ec2 := hx2.cell ((Ext.alloc _ _).cell ec2)
      have d2 : w2.cell? ⟨w1.heap.size, 2, none⟩ = some (.int .i64 m) := hx2.cell (cell_new w1 _ _ 2)
      replace ec3 := hx2.cell ((Ext.alloc _ _).cell ec3)
      have d3 : w2.cell? ⟨w1.heap.size, 3, none⟩ = some (.slice A n c) := hx2.cell (cell_new w1 _ _ 3)
      replace ec4 := hx2.cell ((Ext.alloc _ _).cell ec4)
      have d4 : w2.cell? ⟨w1.heap.size, 4, none⟩ = some (.string s) := hx2.cell (cell_new w1 _ _ 4)
      have hlt2 := World.block_lt_of_cell? _ _ d0
      replace hx := (hx.trans (Ext.alloc w1 _)).trans hx2
      have f2 : w2.frozen? ⟨w1.heap.size, 2, none⟩ = false := hx2.frozenF (cell_new w1 _ _ 2) (fr_new w1 _ _ 2)
      clear hx2
      go_wp2_with fail
      obtain ⟨W, hW⟩ : ∃ W, W = ((w2).setCell ⟨w1.heap.size, 2, none⟩ (.int .i64 1)) := ⟨_, rfl⟩
      have hxb : Ext w2 (w2) := by (repeat (first | (with_reducible exact Ext.refl _) | (with_reducible assumption) | (with_reducible refine Ext.draws ?_) | (with_reducible refine Ext.allocs ?_ _) | (with_reducible refine Ext.sets ?_ ?_ _) | (with_reducible exact Nat.le_refl _) | (exact (by simp)) | (exact (by simp; omega))))
      have hsW := hsl.ext (hx.trans hxb)
      have hxW : Ext w W := by rw [hW]; first | exact (hx.trans hxb).sets (by simp; omega) _ | exact ((hx.trans hxb).sets (by simp; omega) _).allocs _
      replace ec0 : W.cell? ⟨w.heap.size, 0, none⟩ = some (.int .i64 7) := by rw [hW]; first | exact (cell_set_ne _ _ _ _ _ _ (by omega)).trans (hxb.cell ec0) | exact (Ext.alloc _ _).cell ((cell_set_ne _ _ _ _ _ _ (by omega)).trans (hxb.cell ec0))
      replace d0 : W.cell? ⟨w1.heap.size, 0, none⟩ = some (.int .i64 7) := by rw [hW]; first | exact (cell_set_ne _ _ _ _ _ _ (by omega)).trans (hxb.cell d0) | exact World.cell?_setCell_same _ _ _ (hxb.cell d0) | exact (Ext.alloc _ _).cell ((cell_set_ne _ _ _ _ _ _ (by omega)).trans (hxb.cell d0)) | exact (Ext.alloc _ _).cell (World.cell?_setCell_same _ _ _ (hxb.cell d0))
      replace ec1 : W.cell? ⟨w.heap.size, 1, none⟩ = some (.int .i64 o) := by rw [hW]; first | exact (cell_set_ne _ _ _ _ _ _ (by omega)).trans (hxb.cell ec1) | exact (Ext.alloc _ _).cell ((cell_set_ne _ _ _ _ _ _ (by omega)).trans (hxb.cell ec1))
      replace d1 : W.cell? ⟨w1.heap.size, 1, none⟩ = some (.int .i64 o) := by rw [hW]; first | exact (cell_set_ne _ _ _ _ _ _ (by omega)).trans (hxb.cell d1) | exact World.cell?_setCell_same _ _ _ (hxb.cell d1) | exact (Ext.alloc _ _).cell ((cell_set_ne _ _ _ _ _ _ (by omega)).trans (hxb.cell d1)) | exact (Ext.alloc _ _).cell (World.cell?_setCell_same _ _ _ (hxb.cell d1))
      replace ec2 : W.cell? ⟨w.heap.size, 2, none⟩ = some (.int .i64 m) := by rw [hW]; first | exact (cell_set_ne _ _ _ _ _ _ (by omega)).trans (hxb.cell ec2) | exact (Ext.alloc _ _).cell ((cell_set_ne _ _ _ _ _ _ (by omega)).trans (hxb.cell ec2))
      replace d2 : W.cell? ⟨w1.heap.size, 2, none⟩ = some (.int .i64 1) := by rw [hW]; first | exact (cell_set_ne _ _ _ _ _ _ (by omega)).trans (hxb.cell d2) | exact World.cell?_setCell_same _ _ _ (hxb.cell d2) | exact (Ext.alloc _ _).cell ((cell_set_ne _ _ _ _ _ _ (by omega)).trans (hxb.cell d2)) | exact (Ext.alloc _ _).cell (World.cell?_setCell_same _ _ _ (hxb.cell d2))
      replace ec3 : W.cell? ⟨w.heap.size, 3, none⟩ = some (.slice A n c) := by rw [hW]; first | exact (cell_set_ne _ _ _ _ _ _ (by omega)).trans (hxb.cell ec3) | exact (Ext.alloc _ _).cell ((cell_set_ne _ _ _ _ _ _ (by omega)).trans (hxb.cell ec3))
      replace d3 : W.cell? ⟨w1.heap.size, 3, none⟩ = some (.slice A n c) := by rw [hW]; first | exact (cell_set_ne _ _ _ _ _ _ (by omega)).trans (hxb.cell d3) | exact World.cell?_setCell_same _ _ _ (hxb.cell d3) | exact (Ext.alloc _ _).cell ((cell_set_ne _ _ _ _ _ _ (by omega)).trans (hxb.cell d3)) | exact (Ext.alloc _ _).cell (World.cell?_setCell_same _ _ _ (hxb.cell d3))
      replace ec4 : W.cell? ⟨w.heap.size, 4, none⟩ = some (.string s) := by rw [hW]; first | exact (cell_set_ne _ _ _ _ _ _ (by omega)).trans (hxb.cell ec4) | exact (Ext.alloc _ _).cell ((cell_set_ne _ _ _ _ _ _ (by omega)).trans (hxb.cell ec4))
      replace d4 : W.cell? ⟨w1.heap.size, 4, none⟩ = some (.string s) := by rw [hW]; first | exact (cell_set_ne _ _ _ _ _ _ (by omega)).trans (hxb.cell d4) | exact World.cell?_setCell_same _ _ _ (hxb.cell d4) | exact (Ext.alloc _ _).cell ((cell_set_ne _ _ _ _ _ _ (by omega)).trans (hxb.cell d4)) | exact (Ext.alloc _ _).cell (World.cell?_setCell_same _ _ _ (hxb.cell d4))
      rw [← hW]
      have hsX : Sl W A n c l := by rw [hW]; exact hsW.keepBlk (fun ad ea hn => Below.heap_setCell _ _ _ _ (by have := hsl.blk ad ea hn; show ad.block ≠ w1.heap.size; omega))
      have hsE := hsl.ext hxW
      have HX := Lib.hid (turn_4 (k := 7) (o := o) (n := n) (s := s) (by omega))
      have HXL : Hid ((if false then putE 7 o 1 l s else []) = ([] : List UInt8)) := rfl
      clear hW hxb hsW f2 hlt2 hlt hx
      refine (event_Put 7 o 1 A n c l s _ hsX hs HX HXL).mono ?_
      rintro e w4 ⟨A4, n4, c4, rfl, hb4, hx4⟩
      replace ec0 := hx4.cell ec0
      replace d0 := hx4.cell d0
      replace ec1 := hx4.cell ec1
      replace d1 := hx4.cell d1
      replace ec2 := hx4.cell ec2
      replace d2 := hx4.cell d2
      replace ec3 := hx4.cell ec3
      replace d3 := hx4.cell d3
      replace ec4 := hx4.cell ec4
      replace d4 := hx4.cell d4
      go_wp2_with fail
      refine (event_Right 7 o m A n c l s _ (hsE.ext hx4) hs).mono ?_
      rintro e w5 ⟨rfl, hx5⟩
      rw [HR.out]
      replace d0 := hx5.cell d0
      replace d1 := hx5.cell d1
      replace d2 := hx5.cell d2
      replace d3 := hx5.cell d3
      replace d4 := hx5.cell d4
      go_wp2_with fail
      refine (event_Right 7 o 1 A n c l s _ ((hsX.ext hx4).ext hx5) hs).mono ?_
      rintro e w6 ⟨rfl, hx6⟩
      rw [HX.out]
      replace d0 := hx6.cell d0
      replace d1 := hx6.cell d1
      replace d2 := hx6.cell d2
      replace d3 := hx6.cell d3
      replace d4 := hx6.cell d4
      go_wp2_with fail
      refine (event_Plain 7 o 1 A n c l s _ (((hsX.ext hx4).ext hx5).ext hx6) hs).mono ?_
      rintro e w7 ⟨rfl, hx7⟩
      rw [plain_no HX.out]
      go_wp2_with fail
      refine (law5_known _).mono ?_
      rintro e w8 ⟨rfl, hx8⟩
      go_wp2_with fail
      go_ret
      exact ⟨rfl, ((((hxW.trans hx4).trans hx5).trans hx6).trans hx7).trans hx8⟩
    · obtain rfl : pl = false := by rw [hplk]; rfl
      clear hplk
      by_cases q0 : (bits BinOp.and IntKind.i64 x 255).tmod 5 = 0
      · skip
        have g0 : ((bits BinOp.and IntKind.i64 x 255).tmod 5 == 0) = true := by simpa using q0
        clear q0
        -- 0: the field, .int .i64 9: its value, w2: the world ahead of the store; then the event: k o m slice bytes text, the law
        go_enter Try.func10, Try.ntmps10
        go_wp2_with fail
        refine (ref_RightEvent 8 o m A n c s _ h63.1 hs).mono ?_
        rintro e w1 ⟨rfl, hx1⟩
        rw [HR.out]
        have ec0 : w1.cell? ⟨w.heap.size, 0, none⟩ = some (.int .i64 8) := hx1.cell (cell_new w _ _ 0)
        have ec1 : w1.cell? ⟨w.heap.size, 1, none⟩ = some (.int .i64 o) := hx1.cell (cell_new w _ _ 1)
        have ec2 : w1.cell? ⟨w.heap.size, 2, none⟩ = some (.int .i64 m) := hx1.cell (cell_new w _ _ 2)
        have ec3 : w1.cell? ⟨w.heap.size, 3, none⟩ = some (.slice A n c) := hx1.cell (cell_new w _ _ 3)
        have ec4 : w1.cell? ⟨w.heap.size, 4, none⟩ = some (.string s) := hx1.cell (cell_new w _ _ 4)
        have hx := (Ext.alloc w (.cells #[.int .i64 8, .int .i64 o, .int .i64 m, .slice A n c, .string s] 28)).trans hx1
        have hlt := World.block_lt_of_cell? _ _ ec0
        clear hx1
        go_wp2_with fail
        refine (ref_Plain 8 o m A n c s _ h63.1 hs).mono ?_
        rintro e w2 ⟨rfl, hx2⟩
        rw [HPL.out]
        replace ec0 := hx2.cell ((Ext.alloc _ _).cell ec0)
        have d0 : w2.cell? ⟨w1.heap.size, 0, none⟩ = some (.int .i64 8) := hx2.cell (cell_new w1 _ _ 0)
        replace ec1 := hx2.cell ((Ext.alloc _ _).cell ec1)
        have d1 : w2.cell? ⟨w1.heap.size, 1, none⟩ = some (.int .i64 o) := hx2.cell (cell_new w1 _ _ 1)
        replace ec2 := hx2.cell ((Ext.alloc _ _).cell ec2)
        have d2 : w2.cell? ⟨w1.heap.size, 2, none⟩ = some (.int .i64 m) := hx2.cell (cell_new w1 _ _ 2)
        replace ec3 := hx2.cell ((Ext.alloc _ _).cell ec3)
        have d3 : w2.cell? ⟨w1.heap.size, 3, none⟩ = some (.slice A n c) := hx2.cell (cell_new w1 _ _ 3)
        replace ec4 := hx2.cell ((Ext.alloc _ _).cell ec4)
        have d4 : w2.cell? ⟨w1.heap.size, 4, none⟩ = some (.string s) := hx2.cell (cell_new w1 _ _ 4)
        have hlt2 := World.block_lt_of_cell? _ _ d0
        replace hx := (hx.trans (Ext.alloc w1 _)).trans hx2
        have f0 : w2.frozen? ⟨w1.heap.size, 0, none⟩ = false := hx2.frozenF (cell_new w1 _ _ 0) (fr_new w1 _ _ 0)
        clear hx2
        go_wp2_with fail
        obtain ⟨W, hW⟩ : ∃ W, W = ((w2).setCell ⟨w1.heap.size, 0, none⟩ (.int .i64 9)) := ⟨_, rfl⟩
        have hxb : Ext w2 (w2) := by (repeat (first | (with_reducible exact Ext.refl _) | (with_reducible assumption) | (with_reducible refine Ext.draws ?_) | (with_reducible refine Ext.allocs ?_ _) | (with_reducible refine Ext.sets ?_ ?_ _) | (with_reducible exact Nat.le_refl _) | (exact (by simp)) | (exact (by simp; omega))))
        have hsW := hsl.ext (hx.trans hxb)
        have hxW : Ext w W := by rw [hW]; first | exact (hx.trans hxb).sets (by simp; omega) _ | exact ((hx.trans hxb).sets (by simp; omega) _).allocs _
        replace ec0 : W.cell? ⟨w.heap.size, 0, none⟩ = some (.int .i64 8) := by rw [hW]; first | exact (cell_set_ne _ _ _ _ _ _ (by omega)).trans (hxb.cell ec0) | exact (Ext.alloc _ _).cell ((cell_set_ne _ _ _ _ _ _ (by omega)).trans (hxb.cell ec0))
        replace d0 : W.cell? ⟨w1.heap.size, 0, none⟩ = some (.int .i64 9) := by rw [hW]; first | exact (cell_set_ne _ _ _ _ _ _ (by omega)).trans (hxb.cell d0) | exact World.cell?_setCell_same _ _ _ (hxb.cell d0) | exact (Ext.alloc _ _).cell ((cell_set_ne _ _ _ _ _ _ (by omega)).trans (hxb.cell d0)) | exact (Ext.alloc _ _).cell (World.cell?_setCell_same _ _ _ (hxb.cell d0))
        replace ec1 : W.cell? ⟨w.heap.size, 1, none⟩ = some (.int .i64 o) := by rw [hW]; first | exact (cell_set_ne _ _ _ _ _ _ (by omega)).trans (hxb.cell ec1) | exact (Ext.alloc _ _).cell ((cell_set_ne _ _ _ _ _ _ (by omega)).trans (hxb.cell ec1))
        replace d1 : W.cell? ⟨w1.heap.size, 1, none⟩ = some (.int .i64 o) := by rw [hW]; first | exact (cell_set_ne _ _ _ _ _ _ (by omega)).trans (hxb.cell d1) | exact World.cell?_setCell_same _ _ _ (hxb.cell d1) | exact (Ext.alloc _ _).cell ((cell_set_ne _ _ _ _ _ _ (by omega)).trans (hxb.cell d1)) | exact (Ext.alloc _ _).cell (World.cell?_setCell_same _ _ _ (hxb.cell d1))
        replace ec2 : W.cell? ⟨w.heap.size, 2, none⟩ = some (.int .i64 m) := by rw [hW]; first | exact (cell_set_ne _ _ _ _ _ _ (by omega)).trans (hxb.cell ec2) | exact (Ext.alloc _ _).cell ((cell_set_ne _ _ _ _ _ _ (by omega)).trans (hxb.cell ec2))
        replace d2 : W.cell? ⟨w1.heap.size, 2, none⟩ = some (.int .i64 m) := by rw [hW]; first | exact (cell_set_ne _ _ _ _ _ _ (by omega)).trans (hxb.cell d2) | exact World.cell?_setCell_same _ _ _ (hxb.cell d2) | exact (Ext.alloc _ _).cell ((cell_set_ne _ _ _ _ _ _ (by omega)).trans (hxb.cell d2)) | exact (Ext.alloc _ _).cell (World.cell?_setCell_same _ _ _ (hxb.cell d2))
        replace ec3 : W.cell? ⟨w.heap.size, 3, none⟩ = some (.slice A n c) := by rw [hW]; first | exact (cell_set_ne _ _ _ _ _ _ (by omega)).trans (hxb.cell ec3) | exact (Ext.alloc _ _).cell ((cell_set_ne _ _ _ _ _ _ (by omega)).trans (hxb.cell ec3))
        replace d3 : W.cell? ⟨w1.heap.size, 3, none⟩ = some (.slice A n c) := by rw [hW]; first | exact (cell_set_ne _ _ _ _ _ _ (by omega)).trans (hxb.cell d3) | exact World.cell?_setCell_same _ _ _ (hxb.cell d3) | exact (Ext.alloc _ _).cell ((cell_set_ne _ _ _ _ _ _ (by omega)).trans (hxb.cell d3)) | exact (Ext.alloc _ _).cell (World.cell?_setCell_same _ _ _ (hxb.cell d3))
        replace ec4 : W.cell? ⟨w.heap.size, 4, none⟩ = some (.string s) := by rw [hW]; first | exact (cell_set_ne _ _ _ _ _ _ (by omega)).trans (hxb.cell ec4) | exact (Ext.alloc _ _).cell ((cell_set_ne _ _ _ _ _ _ (by omega)).trans (hxb.cell ec4))
        replace d4 : W.cell? ⟨w1.heap.size, 4, none⟩ = some (.string s) := by rw [hW]; first | exact (cell_set_ne _ _ _ _ _ _ (by omega)).trans (hxb.cell d4) | exact World.cell?_setCell_same _ _ _ (hxb.cell d4) | exact (Ext.alloc _ _).cell ((cell_set_ne _ _ _ _ _ _ (by omega)).trans (hxb.cell d4)) | exact (Ext.alloc _ _).cell (World.cell?_setCell_same _ _ _ (hxb.cell d4))
        rw [← hW]
        have hsX : Sl W A n c l := by rw [hW]; exact hsW.keepBlk (fun ad ea hn => Below.heap_setCell _ _ _ _ (by have := hsl.blk ad ea hn; show ad.block ≠ w1.heap.size; omega))
        have hsE := hsl.ext hxW
        have HX := Lib.hid (turn_0 o m n s)
        have HXL : Hid ((if false then putE 9 o m l s else []) = ([] : List UInt8)) := rfl
        clear hW hxb hsW f0 hlt2 hlt hx
        refine (event_Put 9 o m A n c l s _ hsX hs HX HXL).mono ?_
        rintro e w4 ⟨A4, n4, c4, rfl, hb4, hx4⟩
        replace ec0 := hx4.cell ec0
        replace d0 := hx4.cell d0
        replace ec1 := hx4.cell ec1
        replace d1 := hx4.cell d1
        replace ec2 := hx4.cell ec2
        replace d2 := hx4.cell d2
        replace ec3 := hx4.cell ec3
        replace d3 := hx4.cell d3
        replace ec4 := hx4.cell ec4
        replace d4 := hx4.cell d4
        go_wp2_with fail
        refine (event_Right 8 o m A n c l s _ (hsE.ext hx4) hs).mono ?_
        rintro e w5 ⟨rfl, hx5⟩
        rw [HR.out]
        replace d0 := hx5.cell d0
        replace d1 := hx5.cell d1
        replace d2 := hx5.cell d2
        replace d3 := hx5.cell d3
        replace d4 := hx5.cell d4
        go_wp2_with fail
        refine (event_Right 9 o m A n c l s _ ((hsX.ext hx4).ext hx5) hs).mono ?_
        rintro e w6 ⟨rfl, hx6⟩
        rw [HX.out]
        replace d0 := hx6.cell d0
        replace d1 := hx6.cell d1
        replace d2 := hx6.cell d2
        replace d3 := hx6.cell d3
        replace d4 := hx6.cell d4
        go_wp2_with fail
        refine (event_Plain 9 o m A n c l s _ (((hsX.ext hx4).ext hx5).ext hx6) hs).mono ?_
        rintro e w7 ⟨rfl, hx7⟩
        rw [plain_no HX.out]
        go_wp2_with fail
        refine (law5_known _).mono ?_
        rintro e w8 ⟨rfl, hx8⟩
        go_wp2_with fail
        go_ret
        exact ⟨rfl, ((((hxW.trans hx4).trans hx5).trans hx6).trans hx7).trans hx8⟩
      by_cases q1 : (bits BinOp.and IntKind.i64 x 255).tmod 5 = 1
      · skip
        have g0 : ((bits BinOp.and IntKind.i64 x 255).tmod 5 == 0) = false := by simpa using q0
        have g1 : ((bits BinOp.and IntKind.i64 x 255).tmod 5 == 1) = true := by simpa using q1
        clear q0 q1
        -- 4: the field, .string ⟨#[97]⟩: its value, w2: the world ahead of the store; then the event: k o m slice bytes text, the law
        go_enter Try.func10, Try.ntmps10
        go_wp2_with fail
        refine (ref_RightEvent 8 o m A n c s _ h63.1 hs).mono ?_
        rintro e w1 ⟨rfl, hx1⟩
        rw [HR.out]
        have ec0 : w1.cell? ⟨w.heap.size, 0, none⟩ = some (.int .i64 8) := hx1.cell (cell_new w _ _ 0)
        have ec1 : w1.cell? ⟨w.heap.size, 1, none⟩ = some (.int .i64 o) := hx1.cell (cell_new w _ _ 1)
        have ec2 : w1.cell? ⟨w.heap.size, 2, none⟩ = some (.int .i64 m) := hx1.cell (cell_new w _ _ 2)
        have ec3 : w1.cell? ⟨w.heap.size, 3, none⟩ = some (.slice A n c) := hx1.cell (cell_new w _ _ 3)
        have ec4 : w1.cell? ⟨w.heap.size, 4, none⟩ = some (.string s) := hx1.cell (cell_new w _ _ 4)
        have hx := (Ext.alloc w (.cells #[.int .i64 8, .int .i64 o, .int .i64 m, .slice A n c, .string s] 28)).trans hx1
        have hlt := World.block_lt_of_cell? _ _ ec0
        clear hx1
        go_wp2_with fail
        refine (ref_Plain 8 o m A n c s _ h63.1 hs).mono ?_
        rintro e w2 ⟨rfl, hx2⟩
        rw [HPL.out]
        replace ec0 := hx2.cell ((Ext.alloc _ _).cell ec0)
        have d0 : w2.cell? ⟨w1.heap.size, 0, none⟩ = some (.int .i64 8) := hx2.cell (cell_new w1 _ _ 0)
        replace ec1 := hx2.cell ((Ext.alloc _ _).cell ec1)
        have d1 : w2.cell? ⟨w1.heap.size, 1, none⟩ = some (.int .i64 o) := hx2.cell (cell_new w1 _ _ 1)
        replace ec2 := hx2.cell ((Ext.alloc _ _).cell ec2)
        have d2 : w2.cell? ⟨w1.heap.size, 2, none⟩ = some (.int .i64 m) := hx2.cell (cell_new w1 _ _ 2)
        replace ec3 := hx2.cell ((Ext.alloc _ _).cell ec3)
        have d3 : w2.cell? ⟨w1.heap.size, 3, none⟩ = some (.slice A n c) := hx2.cell (cell_new w1 _ _ 3)
        replace ec4 := hx2.cell ((Ext.alloc _ _).cell ec4)
        have d4 : w2.cell? ⟨w1.heap.size, 4, none⟩ = some (.string s) := hx2.cell (cell_new w1 _ _ 4)
        have hlt2 := World.block_lt_of_cell? _ _ d0
        replace hx := (hx.trans (Ext.alloc w1 _)).trans hx2
        have f4 : w2.frozen? ⟨w1.heap.size, 4, none⟩ = false := hx2.frozenF (cell_new w1 _ _ 4) (fr_new w1 _ _ 4)
        clear hx2
        go_wp2_with fail
        obtain ⟨W, hW⟩ : ∃ W, W = ((w2).setCell ⟨w1.heap.size, 4, none⟩ (.string ⟨#[97]⟩)) := ⟨_, rfl⟩
        have hxb : Ext w2 (w2) := by (repeat (first | (with_reducible exact Ext.refl _) | (with_reducible assumption) | (with_reducible refine Ext.draws ?_) | (with_reducible refine Ext.allocs ?_ _) | (with_reducible refine Ext.sets ?_ ?_ _) | (with_reducible exact Nat.le_refl _) | (exact (by simp)) | (exact (by simp; omega))))
        have hsW := hsl.ext (hx.trans hxb)
        have hxW : Ext w W := by rw [hW]; first | exact (hx.trans hxb).sets (by simp; omega) _ | exact ((hx.trans hxb).sets (by simp; omega) _).allocs _
        replace ec0 : W.cell? ⟨w.heap.size, 0, none⟩ = some (.int .i64 8) := by rw [hW]; first | exact (cell_set_ne _ _ _ _ _ _ (by omega)).trans (hxb.cell ec0) | exact (Ext.alloc _ _).cell ((cell_set_ne _ _ _ _ _ _ (by omega)).trans (hxb.cell ec0))
        replace d0 : W.cell? ⟨w1.heap.size, 0, none⟩ = some (.int .i64 8) := by rw [hW]; first | exact (cell_set_ne _ _ _ _ _ _ (by omega)).trans (hxb.cell d0) | exact World.cell?_setCell_same _ _ _ (hxb.cell d0) | exact (Ext.alloc _ _).cell ((cell_set_ne _ _ _ _ _ _ (by omega)).trans (hxb.cell d0)) | exact (Ext.alloc _ _).cell (World.cell?_setCell_same _ _ _ (hxb.cell d0))
        replace ec1 : W.cell? ⟨w.heap.size, 1, none⟩ = some (.int .i64 o) := by rw [hW]; first | exact (cell_set_ne _ _ _ _ _ _ (by omega)).trans (hxb.cell ec1) | exact (Ext.alloc _ _).cell ((cell_set_ne _ _ _ _ _ _ (by omega)).trans (hxb.cell ec1))
        replace d1 : W.cell? ⟨w1.heap.size, 1, none⟩ = some (.int .i64 o) := by rw [hW]; first | exact (cell_set_ne _ _ _ _ _ _ (by omega)).trans (hxb.cell d1) | exact World.cell?_setCell_same _ _ _ (hxb.cell d1) | exact (Ext.alloc _ _).cell ((cell_set_ne _ _ _ _ _ _ (by omega)).trans (hxb.cell d1)) | exact (Ext.alloc _ _).cell (World.cell?_setCell_same _ _ _ (hxb.cell d1))
        replace ec2 : W.cell? ⟨w.heap.size, 2, none⟩ = some (.int .i64 m) := by rw [hW]; first | exact (cell_set_ne _ _ _ _ _ _ (by omega)).trans (hxb.cell ec2) | exact (Ext.alloc _ _).cell ((cell_set_ne _ _ _ _ _ _ (by omega)).trans (hxb.cell ec2))
        replace d2 : W.cell? ⟨w1.heap.size, 2, none⟩ = some (.int .i64 m) := by rw [hW]; first | exact (cell_set_ne _ _ _ _ _ _ (by omega)).trans (hxb.cell d2) | exact World.cell?_setCell_same _ _ _ (hxb.cell d2) | exact (Ext.alloc _ _).cell ((cell_set_ne _ _ _ _ _ _ (by omega)).trans (hxb.cell d2)) | exact (Ext.alloc _ _).cell (World.cell?_setCell_same _ _ _ (hxb.cell d2))
        replace ec3 : W.cell? ⟨w.heap.size, 3, none⟩ = some (.slice A n c) := by rw [hW]; first | exact (cell_set_ne _ _ _ _ _ _ (by omega)).trans (hxb.cell ec3) | exact (Ext.alloc _ _).cell ((cell_set_ne _ _ _ _ _ _ (by omega)).trans (hxb.cell ec3))
        replace d3 : W.cell? ⟨w1.heap.size, 3, none⟩ = some (.slice A n c) := by rw [hW]; first | exact (cell_set_ne _ _ _ _ _ _ (by omega)).trans (hxb.cell d3) | exact World.cell?_setCell_same _ _ _ (hxb.cell d3) | exact (Ext.alloc _ _).cell ((cell_set_ne _ _ _ _ _ _ (by omega)).trans (hxb.cell d3)) | exact (Ext.alloc _ _).cell (World.cell?_setCell_same _ _ _ (hxb.cell d3))
        replace ec4 : W.cell? ⟨w.heap.size, 4, none⟩ = some (.string s) := by rw [hW]; first | exact (cell_set_ne _ _ _ _ _ _ (by omega)).trans (hxb.cell ec4) | exact (Ext.alloc _ _).cell ((cell_set_ne _ _ _ _ _ _ (by omega)).trans (hxb.cell ec4))
        replace d4 : W.cell? ⟨w1.heap.size, 4, none⟩ = some (.string ⟨#[97]⟩) := by rw [hW]; first | exact (cell_set_ne _ _ _ _ _ _ (by omega)).trans (hxb.cell d4) | exact World.cell?_setCell_same _ _ _ (hxb.cell d4) | exact (Ext.alloc _ _).cell ((cell_set_ne _ _ _ _ _ _ (by omega)).trans (hxb.cell d4)) | exact (Ext.alloc _ _).cell (World.cell?_setCell_same _ _ _ (hxb.cell d4))
        rw [← hW]
        have hsX : Sl W A n c l := by rw [hW]; exact hsW.keepBlk (fun ad ea hn => Below.heap_setCell _ _ _ _ (by have := hsl.blk ad ea hn; show ad.block ≠ w1.heap.size; omega))
        have hsE := hsl.ext hxW
        have HX := Lib.hid (turn_1 (k := 8) (o := o) (m := m) (n := n) (by omega))
        have HXL : Hid ((if false then putE 8 o m l ⟨#[97]⟩ else []) = ([] : List UInt8)) := rfl
        clear hW hxb hsW f4 hlt2 hlt hx
        refine (event_Put 8 o m A n c l ⟨#[97]⟩ _ hsX (by simp [maxLen, ByteArray.size]) HX HXL).mono ?_
        rintro e w4 ⟨A4, n4, c4, rfl, hb4, hx4⟩
        replace ec0 := hx4.cell ec0
        replace d0 := hx4.cell d0
        replace ec1 := hx4.cell ec1
        replace d1 := hx4.cell d1
        replace ec2 := hx4.cell ec2
        replace d2 := hx4.cell d2
        replace ec3 := hx4.cell ec3
        replace d3 := hx4.cell d3
        replace ec4 := hx4.cell ec4
        replace d4 := hx4.cell d4
        go_wp2_with fail
        refine (event_Right 8 o m A n c l s _ (hsE.ext hx4) hs).mono ?_
        rintro e w5 ⟨rfl, hx5⟩
        rw [HR.out]
        replace d0 := hx5.cell d0
        replace d1 := hx5.cell d1
        replace d2 := hx5.cell d2
        replace d3 := hx5.cell d3
        replace d4 := hx5.cell d4
        go_wp2_with fail
        refine (event_Right 8 o m A n c l ⟨#[97]⟩ _ ((hsX.ext hx4).ext hx5) (by simp [maxLen, ByteArray.size])).mono ?_
        rintro e w6 ⟨rfl, hx6⟩
        rw [HX.out]
        replace d0 := hx6.cell d0
        replace d1 := hx6.cell d1
        replace d2 := hx6.cell d2
        replace d3 := hx6.cell d3
        replace d4 := hx6.cell d4
        go_wp2_with fail
        refine (event_Plain 8 o m A n c l ⟨#[97]⟩ _ (((hsX.ext hx4).ext hx5).ext hx6) (by simp [maxLen, ByteArray.size])).mono ?_
        rintro e w7 ⟨rfl, hx7⟩
        rw [plain_no HX.out]
        go_wp2_with fail
        refine (law5_known _).mono ?_
        rintro e w8 ⟨rfl, hx8⟩
        go_wp2_with fail
        go_ret
        exact ⟨rfl, ((((hxW.trans hx4).trans hx5).trans hx6).trans hx7).trans hx8⟩
      by_cases q2 : (bits BinOp.and IntKind.i64 x 255).tmod 5 = 2
      · skip
        have g0 : ((bits BinOp.and IntKind.i64 x 255).tmod 5 == 0) = false := by simpa using q0
        have g1 : ((bits BinOp.and IntKind.i64 x 255).tmod 5 == 1) = false := by simpa using q1
        have g2 : ((bits BinOp.and IntKind.i64 x 255).tmod 5 == 2) = true := by simpa using q2
        clear q0 q1 q2
        -- 1: the field, .int .i64 1: its value, w2: the world ahead of the store; then the event: k o m slice bytes text, the law
        go_enter Try.func10, Try.ntmps10
        go_wp2_with fail
        refine (ref_RightEvent 8 o m A n c s _ h63.1 hs).mono ?_
        rintro e w1 ⟨rfl, hx1⟩
        rw [HR.out]
        have ec0 : w1.cell? ⟨w.heap.size, 0, none⟩ = some (.int .i64 8) := hx1.cell (cell_new w _ _ 0)
        have ec1 : w1.cell? ⟨w.heap.size, 1, none⟩ = some (.int .i64 o) := hx1.cell (cell_new w _ _ 1)
        have ec2 : w1.cell? ⟨w.heap.size, 2, none⟩ = some (.int .i64 m) := hx1.cell (cell_new w _ _ 2)
        have ec3 : w1.cell? ⟨w.heap.size, 3, none⟩ = some (.slice A n c) := hx1.cell (cell_new w _ _ 3)
        have ec4 : w1.cell? ⟨w.heap.size, 4, none⟩ = some (.string s) := hx1.cell (cell_new w _ _ 4)
        have hx := (Ext.alloc w (.cells #[.int .i64 8, .int .i64 o, .int .i64 m, .slice A n c, .string s] 28)).trans hx1
        have hlt := World.block_lt_of_cell? _ _ ec0
        clear hx1
        go_wp2_with fail
        refine (ref_Plain 8 o m A n c s _ h63.1 hs).mono ?_
        rintro e w2 ⟨rfl, hx2⟩
        rw [HPL.out]
        replace ec0 := hx2.cell ((Ext.alloc _ _).cell ec0)
        have d0 : w2.cell? ⟨w1.heap.size, 0, none⟩ = some (.int .i64 8) := hx2.cell (cell_new w1 _ _ 0)
        replace ec1 := hx2.cell ((Ext.alloc _ _).cell ec1)
        have d1 : w2.cell? ⟨w1.heap.size, 1, none⟩ = some (.int .i64 o) := hx2.cell (cell_new w1 _ _ 1)
        replace ec2 := hx2.cell ((Ext.alloc _ _).cell ec2)
        have d2 : w2.cell? ⟨w1.heap.size, 2, none⟩ = some (.int .i64 m) := hx2.cell (cell_new w1 _ _ 2)
        replace ec3 := hx2.cell ((Ext.alloc _ _).cell ec3)
        have d3 : w2.cell? ⟨w1.heap.size, 3, none⟩ = some (.slice A n c) := hx2.cell (cell_new w1 _ _ 3)
        replace ec4 := hx2.cell ((Ext.alloc _ _).cell ec4)
        have d4 : w2.cell? ⟨w1.heap.size, 4, none⟩ = some (.string s) := hx2.cell (cell_new w1 _ _ 4)
        have hlt2 := World.block_lt_of_cell? _ _ d0
        replace hx := (hx.trans (Ext.alloc w1 _)).trans hx2
        have f1 : w2.frozen? ⟨w1.heap.size, 1, none⟩ = false := hx2.frozenF (cell_new w1 _ _ 1) (fr_new w1 _ _ 1)
        clear hx2
        go_wp2_with fail
        obtain ⟨W, hW⟩ : ∃ W, W = ((w2).setCell ⟨w1.heap.size, 1, none⟩ (.int .i64 1)) := ⟨_, rfl⟩
        have hxb : Ext w2 (w2) := by (repeat (first | (with_reducible exact Ext.refl _) | (with_reducible assumption) | (with_reducible refine Ext.draws ?_) | (with_reducible refine Ext.allocs ?_ _) | (with_reducible refine Ext.sets ?_ ?_ _) | (with_reducible exact Nat.le_refl _) | (exact (by simp)) | (exact (by simp; omega))))
        have hsW := hsl.ext (hx.trans hxb)
        have hxW : Ext w W := by rw [hW]; first | exact (hx.trans hxb).sets (by simp; omega) _ | exact ((hx.trans hxb).sets (by simp; omega) _).allocs _
        replace ec0 : W.cell? ⟨w.heap.size, 0, none⟩ = some (.int .i64 8) := by rw [hW]; first | exact (cell_set_ne _ _ _ _ _ _ (by omega)).trans (hxb.cell ec0) | exact (Ext.alloc _ _).cell ((cell_set_ne _ _ _ _ _ _ (by omega)).trans (hxb.cell ec0))
        replace d0 : W.cell? ⟨w1.heap.size, 0, none⟩ = some (.int .i64 8) := by rw [hW]; first | exact (cell_set_ne _ _ _ _ _ _ (by omega)).trans (hxb.cell d0) | exact World.cell?_setCell_same _ _ _ (hxb.cell d0) | exact (Ext.alloc _ _).cell ((cell_set_ne _ _ _ _ _ _ (by omega)).trans (hxb.cell d0)) | exact (Ext.alloc _ _).cell (World.cell?_setCell_same _ _ _ (hxb.cell d0))
        replace ec1 : W.cell? ⟨w.heap.size, 1, none⟩ = some (.int .i64 o) := by rw [hW]; first | exact (cell_set_ne _ _ _ _ _ _ (by omega)).trans (hxb.cell ec1) | exact (Ext.alloc _ _).cell ((cell_set_ne _ _ _ _ _ _ (by omega)).trans (hxb.cell ec1))
        replace d1 : W.cell? ⟨w1.heap.size, 1, none⟩ = some (.int .i64 1) := by rw [hW]; first | exact (cell_set_ne _ _ _ _ _ _ (by omega)).trans (hxb.cell d1) | exact World.cell?_setCell_same _ _ _ (hxb.cell d1) | exact (Ext.alloc _ _).cell ((cell_set_ne _ _ _ _ _ _ (by omega)).trans (hxb.cell d1)) | exact (Ext.alloc _ _).cell (World.cell?_setCell_same _ _ _ (hxb.cell d1))
        replace ec2 : W.cell? ⟨w.heap.size, 2, none⟩ = some (.int .i64 m) := by rw [hW]; first | exact (cell_set_ne _ _ _ _ _ _ (by omega)).trans (hxb.cell ec2) | exact (Ext.alloc _ _).cell ((cell_set_ne _ _ _ _ _ _ (by omega)).trans (hxb.cell ec2))
        replace d2 : W.cell? ⟨w1.heap.size, 2, none⟩ = some (.int .i64 m) := by rw [hW]; first | exact (cell_set_ne _ _ _ _ _ _ (by omega)).trans (hxb.cell d2) | exact World.cell?_setCell_same _ _ _ (hxb.cell d2) | exact (Ext.alloc _ _).cell ((cell_set_ne _ _ _ _ _ _ (by omega)).trans (hxb.cell d2)) | exact (Ext.alloc _ _).cell (World.cell?_setCell_same _ _ _ (hxb.cell d2))
        replace ec3 : W.cell? ⟨w.heap.size, 3, none⟩ = some (.slice A n c) := by rw [hW]; first | exact (cell_set_ne _ _ _ _ _ _ (by omega)).trans (hxb.cell ec3) | exact (Ext.alloc _ _).cell ((cell_set_ne _ _ _ _ _ _ (by omega)).trans (hxb.cell ec3))
        replace d3 : W.cell? ⟨w1.heap.size, 3, none⟩ = some (.slice A n c) := by rw [hW]; first | exact (cell_set_ne _ _ _ _ _ _ (by omega)).trans (hxb.cell d3) | exact World.cell?_setCell_same _ _ _ (hxb.cell d3) | exact (Ext.alloc _ _).cell ((cell_set_ne _ _ _ _ _ _ (by omega)).trans (hxb.cell d3)) | exact (Ext.alloc _ _).cell (World.cell?_setCell_same _ _ _ (hxb.cell d3))
        replace ec4 : W.cell? ⟨w.heap.size, 4, none⟩ = some (.string s) := by rw [hW]; first | exact (cell_set_ne _ _ _ _ _ _ (by omega)).trans (hxb.cell ec4) | exact (Ext.alloc _ _).cell ((cell_set_ne _ _ _ _ _ _ (by omega)).trans (hxb.cell ec4))
        replace d4 : W.cell? ⟨w1.heap.size, 4, none⟩ = some (.string s) := by rw [hW]; first | exact (cell_set_ne _ _ _ _ _ _ (by omega)).trans (hxb.cell d4) | exact World.cell?_setCell_same _ _ _ (hxb.cell d4) | exact (Ext.alloc _ _).cell ((cell_set_ne _ _ _ _ _ _ (by omega)).trans (hxb.cell d4)) | exact (Ext.alloc _ _).cell (World.cell?_setCell_same _ _ _ (hxb.cell d4))
        rw [← hW]
        have hsX : Sl W A n c l := by rw [hW]; exact hsW.keepBlk (fun ad ea hn => Below.heap_setCell _ _ _ _ (by have := hsl.blk ad ea hn; show ad.block ≠ w1.heap.size; omega))
        have hsE := hsl.ext hxW
        have HX := Lib.hid (turn_2 (k := 8) (m := m) (n := n) (s := s) (by omega))
        have HXL : Hid ((if false then putE 8 1 m l s else []) = ([] : List UInt8)) := rfl
        clear hW hxb hsW f1 hlt2 hlt hx
        refine (event_Put 8 1 m A n c l s _ hsX hs HX HXL).mono ?_
        rintro e w4 ⟨A4, n4, c4, rfl, hb4, hx4⟩
        replace ec0 := hx4.cell ec0
        replace d0 := hx4.cell d0
        replace ec1 := hx4.cell ec1
        replace d1 := hx4.cell d1
        replace ec2 := hx4.cell ec2
        replace d2 := hx4.cell d2
        replace ec3 := hx4.cell ec3
        replace d3 := hx4.cell d3
        replace ec4 := hx4.cell ec4
        replace d4 := hx4.cell d4
        go_wp2_with fail
        refine (event_Right 8 o m A n c l s _ (hsE.ext hx4) hs).mono ?_
        rintro e w5 ⟨rfl, hx5⟩
        rw [HR.out]
        replace d0 := hx5.cell d0
        replace d1 := hx5.cell d1
        replace d2 := hx5.cell d2
        replace d3 := hx5.cell d3
        replace d4 := hx5.cell d4
        go_wp2_with fail
        refine (event_Right 8 1 m A n c l s _ ((hsX.ext hx4).ext hx5) hs).mono ?_
        rintro e w6 ⟨rfl, hx6⟩
        rw [HX.out]
        replace d0 := hx6.cell d0
        replace d1 := hx6.cell d1
        replace d2 := hx6.cell d2
        replace d3 := hx6.cell d3
        replace d4 := hx6.cell d4
        go_wp2_with fail
        refine (event_Plain 8 1 m A n c l s _ (((hsX.ext hx4).ext hx5).ext hx6) hs).mono ?_
        rintro e w7 ⟨rfl, hx7⟩
        rw [plain_no HX.out]
        go_wp2_with fail
        refine (law5_known _).mono ?_
        rintro e w8 ⟨rfl, hx8⟩
        go_wp2_with fail
        go_ret
        exact ⟨rfl, ((((hxW.trans hx4).trans hx5).trans hx6).trans hx7).trans hx8⟩
      by_cases q3 : (bits BinOp.and IntKind.i64 x 255).tmod 5 = 3
      · skip
        have g0 : ((bits BinOp.and IntKind.i64 x 255).tmod 5 == 0) = false := by simpa using q0
        have g1 : ((bits BinOp.and IntKind.i64 x 255).tmod 5 == 1) = false := by simpa using q1
        have g2 : ((bits BinOp.and IntKind.i64 x 255).tmod 5 == 2) = false := by simpa using q2
        have g3 : ((bits BinOp.and IntKind.i64 x 255).tmod 5 == 3) = true := by simpa using q3
        clear q0 q1 q2 q3
        -- 3: the field, .slice (some ⟨w2.heap.size, 0, none⟩) 1 1: its value, w2: the world ahead of the store; then the event: k o m slice bytes text, the law
        go_enter Try.func10, Try.ntmps10
        go_wp2_with fail
        refine (ref_RightEvent 8 o m A n c s _ h63.1 hs).mono ?_
        rintro e w1 ⟨rfl, hx1⟩
        rw [HR.out]
        have ec0 : w1.cell? ⟨w.heap.size, 0, none⟩ = some (.int .i64 8) := hx1.cell (cell_new w _ _ 0)
        have ec1 : w1.cell? ⟨w.heap.size, 1, none⟩ = some (.int .i64 o) := hx1.cell (cell_new w _ _ 1)
        have ec2 : w1.cell? ⟨w.heap.size, 2, none⟩ = some (.int .i64 m) := hx1.cell (cell_new w _ _ 2)
        have ec3 : w1.cell? ⟨w.heap.size, 3, none⟩ = some (.slice A n c) := hx1.cell (cell_new w _ _ 3)
        have ec4 : w1.cell? ⟨w.heap.size, 4, none⟩ = some (.string s) := hx1.cell (cell_new w _ _ 4)
        have hx := (Ext.alloc w (.cells #[.int .i64 8, .int .i64 o, .int .i64 m, .slice A n c, .string s] 28)).trans hx1
        have hlt := World.block_lt_of_cell? _ _ ec0
        clear hx1
        go_wp2_with fail
        refine (ref_Plain 8 o m A n c s _ h63.1 hs).mono ?_
        rintro e w2 ⟨rfl, hx2⟩
        rw [HPL.out]
        replace ec0 := hx2.cell ((Ext.alloc _ _).cell ec0)
        have d0 : w2.cell? ⟨w1.heap.size, 0, none⟩ = some (.int .i64 8) := hx2.cell (cell_new w1 _ _ 0)
        replace ec1 := hx2.cell ((Ext.alloc _ _).cell ec1)
        have d1 : w2.cell? ⟨w1.heap.size, 1, none⟩ = some (.int .i64 o) := hx2.cell (cell_new w1 _ _ 1)
        replace ec2 := hx2.cell ((Ext.alloc _ _).cell ec2)
        have d2 : w2.cell? ⟨w1.heap.size, 2, none⟩ = some (.int .i64 m) := hx2.cell (cell_new w1 _ _ 2)
        replace ec3 := hx2.cell ((Ext.alloc _ _).cell ec3)
        have d3 : w2.cell? ⟨w1.heap.size, 3, none⟩ = some (.slice A n c) := hx2.cell (cell_new w1 _ _ 3)
        replace ec4 := hx2.cell ((Ext.alloc _ _).cell ec4)
        have d4 : w2.cell? ⟨w1.heap.size, 4, none⟩ = some (.string s) := hx2.cell (cell_new w1 _ _ 4)
        have hlt2 := World.block_lt_of_cell? _ _ d0
        replace hx := (hx.trans (Ext.alloc w1 _)).trans hx2
        have f3 : w2.frozen? ⟨w1.heap.size, 3, none⟩ = false := hx2.frozenF (cell_new w1 _ _ 3) (fr_new w1 _ _ 3)
        clear hx2
        go_wp2_with fail
        obtain ⟨W, hW⟩ : ∃ W, W = ((w2).setCell ⟨w1.heap.size, 3, none⟩ (.slice (some ⟨w2.heap.size, 0, none⟩) 1 1)).alloc (.cells #[.int .u8 0] U8) := ⟨_, rfl⟩
        have hxb : Ext w2 (w2) := by (repeat (first | (with_reducible exact Ext.refl _) | (with_reducible assumption) | (with_reducible refine Ext.draws ?_) | (with_reducible refine Ext.allocs ?_ _) | (with_reducible refine Ext.sets ?_ ?_ _) | (with_reducible exact Nat.le_refl _) | (exact (by simp)) | (exact (by simp; omega))))
        have hsW := hsl.ext (hx.trans hxb)
        have hxW : Ext w W := by rw [hW]; first | exact (hx.trans hxb).sets (by simp; omega) _ | exact ((hx.trans hxb).sets (by simp; omega) _).allocs _
        replace ec0 : W.cell? ⟨w.heap.size, 0, none⟩ = some (.int .i64 8) := by rw [hW]; first | exact (cell_set_ne _ _ _ _ _ _ (by omega)).trans (hxb.cell ec0) | exact (Ext.alloc _ _).cell ((cell_set_ne _ _ _ _ _ _ (by omega)).trans (hxb.cell ec0))
        replace d0 : W.cell? ⟨w1.heap.size, 0, none⟩ = some (.int .i64 8) := by rw [hW]; first | exact (cell_set_ne _ _ _ _ _ _ (by omega)).trans (hxb.cell d0) | exact World.cell?_setCell_same _ _ _ (hxb.cell d0) | exact (Ext.alloc _ _).cell ((cell_set_ne _ _ _ _ _ _ (by omega)).trans (hxb.cell d0)) | exact (Ext.alloc _ _).cell (World.cell?_setCell_same _ _ _ (hxb.cell d0))
        replace ec1 : W.cell? ⟨w.heap.size, 1, none⟩ = some (.int .i64 o) := by rw [hW]; first | exact (cell_set_ne _ _ _ _ _ _ (by omega)).trans (hxb.cell ec1) | exact (Ext.alloc _ _).cell ((cell_set_ne _ _ _ _ _ _ (by omega)).trans (hxb.cell ec1))
        replace d1 : W.cell? ⟨w1.heap.size, 1, none⟩ = some (.int .i64 o) := by rw [hW]; first | exact (cell_set_ne _ _ _ _ _ _ (by omega)).trans (hxb.cell d1) | exact World.cell?_setCell_same _ _ _ (hxb.cell d1) | exact (Ext.alloc _ _).cell ((cell_set_ne _ _ _ _ _ _ (by omega)).trans (hxb.cell d1)) | exact (Ext.alloc _ _).cell (World.cell?_setCell_same _ _ _ (hxb.cell d1))
        replace ec2 : W.cell? ⟨w.heap.size, 2, none⟩ = some (.int .i64 m) := by rw [hW]; first | exact (cell_set_ne _ _ _ _ _ _ (by omega)).trans (hxb.cell ec2) | exact (Ext.alloc _ _).cell ((cell_set_ne _ _ _ _ _ _ (by omega)).trans (hxb.cell ec2))
        replace d2 : W.cell? ⟨w1.heap.size, 2, none⟩ = some (.int .i64 m) := by rw [hW]; first | exact (cell_set_ne _ _ _ _ _ _ (by omega)).trans (hxb.cell d2) | exact World.cell?_setCell_same _ _ _ (hxb.cell d2) | exact (Ext.alloc _ _).cell ((cell_set_ne _ _ _ _ _ _ (by omega)).trans (hxb.cell d2)) | exact (Ext.alloc _ _).cell (World.cell?_setCell_same _ _ _ (hxb.cell d2))
        replace ec3 : W.cell? ⟨w.heap.size, 3, none⟩ = some (.slice A n c) := by rw [hW]; first | exact (cell_set_ne _ _ _ _ _ _ (by omega)).trans (hxb.cell ec3) | exact (Ext.alloc _ _).cell ((cell_set_ne _ _ _ _ _ _ (by omega)).trans (hxb.cell ec3))
        replace d3 : W.cell? ⟨w1.heap.size, 3, none⟩ = some (.slice (some ⟨w2.heap.size, 0, none⟩) 1 1) := by rw [hW]; first | exact (cell_set_ne _ _ _ _ _ _ (by omega)).trans (hxb.cell d3) | exact World.cell?_setCell_same _ _ _ (hxb.cell d3) | exact (Ext.alloc _ _).cell ((cell_set_ne _ _ _ _ _ _ (by omega)).trans (hxb.cell d3)) | exact (Ext.alloc _ _).cell (World.cell?_setCell_same _ _ _ (hxb.cell d3))
        replace ec4 : W.cell? ⟨w.heap.size, 4, none⟩ = some (.string s) := by rw [hW]; first | exact (cell_set_ne _ _ _ _ _ _ (by omega)).trans (hxb.cell ec4) | exact (Ext.alloc _ _).cell ((cell_set_ne _ _ _ _ _ _ (by omega)).trans (hxb.cell ec4))
        replace d4 : W.cell? ⟨w1.heap.size, 4, none⟩ = some (.string s) := by rw [hW]; first | exact (cell_set_ne _ _ _ _ _ _ (by omega)).trans (hxb.cell d4) | exact World.cell?_setCell_same _ _ _ (hxb.cell d4) | exact (Ext.alloc _ _).cell ((cell_set_ne _ _ _ _ _ _ (by omega)).trans (hxb.cell d4)) | exact (Ext.alloc _ _).cell (World.cell?_setCell_same _ _ _ (hxb.cell d4))
        rw [← hW]
        have hsX : Sl W (some ⟨w2.heap.size, 0, none⟩) 1 1 [0] := by rw [hW]; exact byt_set w2 _ _
        have hsE := hsl.ext hxW
        have HX := Lib.hid (turn_3 (k := 8) (o := o) (m := m) (s := s) (by omega))
        have HXL : Hid ((if false then putE 8 o m [0] s else []) = ([] : List UInt8)) := rfl
        clear hW hxb hsW f3 hlt2 hlt hx
        refine (event_Put 8 o m (some ⟨w2.heap.size, 0, none⟩) 1 1 [0] s _ hsX hs HX HXL).mono ?_
        rintro e w4 ⟨A4, n4, c4, rfl, hb4, hx4⟩
        replace ec0 := hx4.cell ec0
        replace d0 := hx4.cell d0
        replace ec1 := hx4.cell ec1
        replace d1 := hx4.cell d1
        replace ec2 := hx4.cell ec2
        replace d2 := hx4.cell d2
        replace ec3 := hx4.cell ec3
        replace d3 := hx4.cell d3
        replace ec4 := hx4.cell ec4
        replace d4 := hx4.cell d4
        go_wp2_with fail
        refine (event_Right 8 o m A n c l s _ (hsE.ext hx4) hs).mono ?_
        rintro e w5 ⟨rfl, hx5⟩
        rw [HR.out]
        replace d0 := hx5.cell d0
        replace d1 := hx5.cell d1
        replace d2 := hx5.cell d2
        replace d3 := hx5.cell d3
        replace d4 := hx5.cell d4
        go_wp2_with fail
        refine (event_Right 8 o m (some ⟨w2.heap.size, 0, none⟩) 1 1 [0] s _ ((hsX.ext hx4).ext hx5) hs).mono ?_
        rintro e w6 ⟨rfl, hx6⟩
        rw [HX.out]
        replace d0 := hx6.cell d0
        replace d1 := hx6.cell d1
        replace d2 := hx6.cell d2
        replace d3 := hx6.cell d3
        replace d4 := hx6.cell d4
        go_wp2_with fail
        refine (event_Plain 8 o m (some ⟨w2.heap.size, 0, none⟩) 1 1 [0] s _ (((hsX.ext hx4).ext hx5).ext hx6) hs).mono ?_
        rintro e w7 ⟨rfl, hx7⟩
        rw [plain_no HX.out]
        go_wp2_with fail
        refine (law5_known _).mono ?_
        rintro e w8 ⟨rfl, hx8⟩
        go_wp2_with fail
        go_ret
        exact ⟨rfl, ((((hxW.trans hx4).trans hx5).trans hx6).trans hx7).trans hx8⟩
      have g0 : ((bits BinOp.and IntKind.i64 x 255).tmod 5 == 0) = false := by simpa using q0
      have g1 : ((bits BinOp.and IntKind.i64 x 255).tmod 5 == 1) = false := by simpa using q1
      have g2 : ((bits BinOp.and IntKind.i64 x 255).tmod 5 == 2) = false := by simpa using q2
      have g3 : ((bits BinOp.and IntKind.i64 x 255).tmod 5 == 3) = false := by simpa using q3
      clear q0 q1 q2 q3
      -- 2: the field, .int .i64 1: its value, w2: the world ahead of the store; then the event: k o m slice bytes text, the law
      go_enter Try.func10, Try.ntmps10
      go_wp2_with fail
      refine (ref_RightEvent 8 o m A n c s _ h63.1 hs).mono ?_
      rintro e w1 ⟨rfl, hx1⟩
      rw [HR.out]
      have ec0 : w1.cell? ⟨w.heap.size, 0, none⟩ = some (.int .i64 8) := hx1.cell (cell_new w _ _ 0)
      have ec1 : w1.cell? ⟨w.heap.size, 1, none⟩ = some (.int .i64 o) := hx1.cell (cell_new w _ _ 1)
      have ec2 : w1.cell? ⟨w.heap.size, 2, none⟩ = some (.int .i64 m) := hx1.cell (cell_new w _ _ 2)
      have ec3 : w1.cell? ⟨w.heap.size, 3, none⟩ = some (.slice A n c) := hx1.cell (cell_new w _ _ 3)
      have ec4 : w1.cell? ⟨w.heap.size, 4, none⟩ = some (.string s) := hx1.cell (cell_new w _ _ 4)
      have hx := (Ext.alloc w (.cells #[.int .i64 8, .int .i64 o, .int .i64 m, .slice A n c, .string s] 28)).trans hx1
      have hlt := World.block_lt_of_cell? _ _ ec0
      clear hx1
      go_wp2_with fail
      refine (ref_Plain 8 o m A n c s _ h63.1 hs).mono ?_
      rintro e w2 ⟨rfl, hx2⟩
      rw [HPL.out]
      replace ec0 := hx2.cell ((Ext.alloc _ _).cell ec0)
      have d0 : w2.cell? ⟨w1.heap.size, 0, none⟩ = some (.int .i64 8) := hx2.cell (cell_new w1 _ _ 0)
      replace ec1 := hx2.cell ((Ext.alloc _ _).cell ec1)
      have d1 : w2.cell? ⟨w1.heap.size, 1, none⟩ = some (.int .i64 o) := hx2.cell (cell_new w1 _ _ 1)
      replace ec2 := hx2.cell ((Ext.alloc _ _).cell ec2)
      have d2 : w2.cell? ⟨w1.heap.size, 2, none⟩ = some (.int .i64 m) := hx2.cell (cell_new w1 _ _ 2)
      replace ec3 := hx2.cell ((Ext.alloc _ _).cell ec3)
      have d3 : w2.cell? ⟨w1.heap.size, 3, none⟩ = some (.slice A n c) := hx2.cell (cell_new w1 _ _ 3)
      replace ec4 := hx2.cell ((Ext.alloc _ _).cell ec4)
      have d4 : w2.cell? ⟨w1.heap.size, 4, none⟩ = some (.string s) := hx2.cell (cell_new w1 _ _ 4)
      have hlt2 := World.block_lt_of_cell? _ _ d0
      replace hx := (hx.trans (Ext.alloc w1 _)).trans hx2
      have f2 : w2.frozen? ⟨w1.heap.size, 2, none⟩ = false := hx2.frozenF (cell_new w1 _ _ 2) (fr_new w1 _ _ 2)
      clear hx2
      go_wp2_with fail
      obtain ⟨W, hW⟩ : ∃ W, W = ((w2).setCell ⟨w1.heap.size, 2, none⟩ (.int .i64 1)) := ⟨_, rfl⟩
      have hxb : Ext w2 (w2) := by (repeat (first | (with_reducible exact Ext.refl _) | (with_reducible assumption) | (with_reducible refine Ext.draws ?_) | (with_reducible refine Ext.allocs ?_ _) | (with_reducible refine Ext.sets ?_ ?_ _) | (with_reducible exact Nat.le_refl _) | (exact (by simp)) | (exact (by simp; omega))))
      have hsW := hsl.ext (hx.trans hxb)
      have hxW : Ext w W := by rw [hW]; first | exact (hx.trans hxb).sets (by simp; omega) _ | exact ((hx.trans hxb).sets (by simp; omega) _).allocs _
      replace ec0 : W.cell? ⟨w.heap.size, 0, none⟩ = some (.int .i64 8) := by rw [hW]; first | exact (cell_set_ne _ _ _ _ _ _ (by omega)).trans (hxb.cell ec0) | exact (Ext.alloc _ _).cell ((cell_set_ne _ _ _ _ _ _ (by omega)).trans (hxb.cell ec0))
      replace d0 : W.cell? ⟨w1.heap.size, 0, none⟩ = some (.int .i64 8) := by rw [hW]; first | exact (cell_set_ne _ _ _ _ _ _ (by omega)).trans (hxb.cell d0) | exact World.cell?_setCell_same _ _ _ (hxb.cell d0) | exact (Ext.alloc _ _).cell ((cell_set_ne _ _ _ _ _ _ (by omega)).trans (hxb.cell d0)) | exact (Ext.alloc _ _).cell (World.cell?_setCell_same _ _ _ (hxb.cell d0))
      replace ec1 : W.cell? ⟨w.heap.size, 1, none⟩ = some (.int .i64 o) := by rw [hW]; first | exact (cell_set_ne _ _ _ _ _ _ (by omega)).trans (hxb.cell ec1) | exact (Ext.alloc _ _).cell ((cell_set_ne _ _ _ _ _ _ (by omega)).trans (hxb.cell ec1))
      replace d1 : W.cell? ⟨w1.heap.size, 1, none⟩ = some (.int .i64 o) := by rw [hW]; first | exact (cell_set_ne _ _ _ _ _ _ (by omega)).trans (hxb.cell d1) | exact World.cell?_setCell_same _ _ _ (hxb.cell d1) | exact (Ext.alloc _ _).cell ((cell_set_ne _ _ _ _ _ _ (by omega)).trans (hxb.cell d1)) | exact (Ext.alloc _ _).cell (World.cell?_setCell_same _ _ _ (hxb.cell d1))
      replace ec2 : W.cell? ⟨w.heap.size, 2, none⟩ = some (.int .i64 m) := by rw [hW]; first | exact (cell_set_ne _ _ _ _ _ _ (by omega)).trans (hxb.cell ec2) | exact (Ext.alloc _ _).cell ((cell_set_ne _ _ _ _ _ _ (by omega)).trans (hxb.cell ec2))
      replace d2 : W.cell? ⟨w1.heap.size, 2, none⟩ = some (.int .i64 1) := by rw [hW]; first | exact (cell_set_ne _ _ _ _ _ _ (by omega)).trans (hxb.cell d2) | exact World.cell?_setCell_same _ _ _ (hxb.cell d2) | exact (Ext.alloc _ _).cell ((cell_set_ne _ _ _ _ _ _ (by omega)).trans (hxb.cell d2)) | exact (Ext.alloc _ _).cell (World.cell?_setCell_same _ _ _ (hxb.cell d2))
      replace ec3 : W.cell? ⟨w.heap.size, 3, none⟩ = some (.slice A n c) := by rw [hW]; first | exact (cell_set_ne _ _ _ _ _ _ (by omega)).trans (hxb.cell ec3) | exact (Ext.alloc _ _).cell ((cell_set_ne _ _ _ _ _ _ (by omega)).trans (hxb.cell ec3))
      replace d3 : W.cell? ⟨w1.heap.size, 3, none⟩ = some (.slice A n c) := by rw [hW]; first | exact (cell_set_ne _ _ _ _ _ _ (by omega)).trans (hxb.cell d3) | exact World.cell?_setCell_same _ _ _ (hxb.cell d3) | exact (Ext.alloc _ _).cell ((cell_set_ne _ _ _ _ _ _ (by omega)).trans (hxb.cell d3)) | exact (Ext.alloc _ _).cell (World.cell?_setCell_same _ _ _ (hxb.cell d3))
      replace ec4 : W.cell? ⟨w.heap.size, 4, none⟩ = some (.string s) := by rw [hW]; first | exact (cell_set_ne _ _ _ _ _ _ (by omega)).trans (hxb.cell ec4) | exact (Ext.alloc _ _).cell ((cell_set_ne _ _ _ _ _ _ (by omega)).trans (hxb.cell ec4))
      replace d4 : W.cell? ⟨w1.heap.size, 4, none⟩ = some (.string s) := by rw [hW]; first | exact (cell_set_ne _ _ _ _ _ _ (by omega)).trans (hxb.cell d4) | exact World.cell?_setCell_same _ _ _ (hxb.cell d4) | exact (Ext.alloc _ _).cell ((cell_set_ne _ _ _ _ _ _ (by omega)).trans (hxb.cell d4)) | exact (Ext.alloc _ _).cell (World.cell?_setCell_same _ _ _ (hxb.cell d4))
      rw [← hW]
      have hsX : Sl W A n c l := by rw [hW]; exact hsW.keepBlk (fun ad ea hn => Below.heap_setCell _ _ _ _ (by have := hsl.blk ad ea hn; show ad.block ≠ w1.heap.size; omega))
      have hsE := hsl.ext hxW
      have HX := Lib.hid (turn_4 (k := 8) (o := o) (n := n) (s := s) (by omega))
      have HXL : Hid ((if false then putE 8 o 1 l s else []) = ([] : List UInt8)) := rfl
      clear hW hxb hsW f2 hlt2 hlt hx
      refine (event_Put 8 o 1 A n c l s _ hsX hs HX HXL).mono ?_
      rintro e w4 ⟨A4, n4, c4, rfl, hb4, hx4⟩
      replace ec0 := hx4.cell ec0
      replace d0 := hx4.cell d0
      replace ec1 := hx4.cell ec1
      replace d1 := hx4.cell d1
      replace ec2 := hx4.cell ec2
      replace d2 := hx4.cell d2
      replace ec3 := hx4.cell ec3
      replace d3 := hx4.cell d3
      replace ec4 := hx4.cell ec4
      replace d4 := hx4.cell d4
      go_wp2_with fail
      refine (event_Right 8 o m A n c l s _ (hsE.ext hx4) hs).mono ?_
      rintro e w5 ⟨rfl, hx5⟩
      rw [HR.out]
      replace d0 := hx5.cell d0
      replace d1 := hx5.cell d1
      replace d2 := hx5.cell d2
      replace d3 := hx5.cell d3
      replace d4 := hx5.cell d4
      go_wp2_with fail
      refine (event_Right 8 o 1 A n c l s _ ((hsX.ext hx4).ext hx5) hs).mono ?_
      rintro e w6 ⟨rfl, hx6⟩
      rw [HX.out]
      replace d0 := hx6.cell d0
      replace d1 := hx6.cell d1
      replace d2 := hx6.cell d2
      replace d3 := hx6.cell d3
      replace d4 := hx6.cell d4
      go_wp2_with fail
      refine (event_Plain 8 o 1 A n c l s _ (((hsX.ext hx4).ext hx5).ext hx6) hs).mono ?_
      rintro e w7 ⟨rfl, hx7⟩
      rw [plain_no HX.out]
      go_wp2_with fail
      refine (law5_known _).mono ?_
      rintro e w8 ⟨rfl, hx8⟩
      go_wp2_with fail
      go_ret
      exact ⟨rfl, ((((hxW.trans hx4).trans hx5).trans hx6).trans hx7).trans hx8⟩
end Go.Proofs.Ytcklkjklepmabaa
