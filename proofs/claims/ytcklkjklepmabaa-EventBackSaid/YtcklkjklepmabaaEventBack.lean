/-
  The walk of one statement of chapter 5.
-/
import Derived.Test.YtcklkjklepmabaaEvLaws
namespace Go.Proofs.Ytcklkjklepmabaa
open Go.RowKit
set_option linter.unusedVariables false
set_option maxRecDepth 100000

set_option maxHeartbeats 800000 in
theorem law_EventBack (k o m : Int) (A : Option Addr) (n c : Nat) (l : List UInt8) (s : ByteArray) (w : World) (hsl : Sl w A n c l) (hs : s.size ≤ maxLen) :
    Calls Try.prog 7 #[evV k o m A n c s] w fun e w' => e = .returned (.bool true) ∧ Ext w w' := by
  have h63 := hsl.n63
  have hs63 := hs
  unfold maxLen at hs63
  by_cases h200 : 200 < n
  · go_enter Try.func7, Try.ntmps7
    go_wp2_with fail
    refine (law5_known _).mono ?_
    rintro e w1 ⟨rfl, hx1⟩
    go_wp2_with fail
    go_ret
    exact ⟨rfl, (Ext.alloc w _).trans hx1⟩
  by_cases h100 : 100 < s.size
  · go_enter Try.func7, Try.ntmps7
    go_wp2_with fail
    refine (law5_known _).mono ?_
    rintro e w1 ⟨rfl, hx1⟩
    go_wp2_with fail
    go_ret
    exact ⟨rfl, (Ext.alloc w _).trans hx1⟩
  obtain ⟨r, hr⟩ : ∃ r, rightE k o m n s = r := ⟨_, rfl⟩
  obtain ⟨L, hL⟩ : ∃ L, (if r then putE k o m l s else []) = L := ⟨_, rfl⟩
  have HR := Lib.hid hr
  have HL := Lib.hid hL
  have hln := hsl.len
  have hr2 : r = true → rightE k o m l.length s = true := fun h => by rw [hln, hr, h]
  have hput : r = true → evOk L = true ∧ gotE L = (k, o, m, l, s) ∧ 1 ≤ L.length ∧ L.length ≤ 90 := by
    intro h
    subst h
    have hb : putE k o m l s = L := hL
    have h0 := evOk_put (hr2 rfl) hb
    obtain ⟨h1, h2, h3, h4, h5, _⟩ := par_put (hr2 rfl) hb
    have h6 := put_len (hr2 rfl)
    rw [hb] at h6
    exact ⟨h0, by rw [gotE_yes h0, h1, h2, h3, h4, h5], h6⟩
  have HP := Lib.hid hput
  clear hr hL hr2 hput
  go_enter Try.func7, Try.ntmps7
  go_wp2_with fail
  refine (event_Put k o m A n c l s _ (hsl.ext (Ext.alloc _ _)) hs HR HL).mono ?_
  rintro e w1 ⟨A1, n1, c1, rfl, hb1, hx1⟩
  have hln1 := hb1.len
  have hc0 : w1.cell? ⟨w.heap.size, 0, none⟩ = some (.int .i64 k) := hx1.cell (cell_new _ _ _ _)
  have hc1 : w1.cell? ⟨w.heap.size, 1, none⟩ = some (.int .i64 o) := hx1.cell (cell_new _ _ _ _)
  have hc2 : w1.cell? ⟨w.heap.size, 2, none⟩ = some (.int .i64 m) := hx1.cell (cell_new _ _ _ _)
  have hc3 : w1.cell? ⟨w.heap.size, 3, none⟩ = some (.slice A n c) := hx1.cell (cell_new _ _ _ _)
  have hc4 : w1.cell? ⟨w.heap.size, 4, none⟩ = some (.string s) := hx1.cell (cell_new _ _ _ _)
  have hx2 : Ext w w1 := (Ext.alloc w _).trans hx1
  clear hx1
  cases r with
  | false =>
    obtain rfl : L = [] := by rw [← HL.out]; rfl
    obtain rfl : n1 = 0 := by rw [← hln1]; rfl
    go_wp2_with fail
    refine (event_Right k o m A n c l s _ (hsl.ext hx2) hs).mono ?_
    rintro e w2 ⟨rfl, hx3⟩
    rw [HR.out]
    go_wp2_with fail
    refine (law5_known _).mono ?_
    rintro e w1 ⟨rfl, hx4⟩
    go_wp2_with fail
    go_ret
    exact ⟨rfl, (hx2.trans hx3).trans hx4⟩
  | true =>
    obtain ⟨g1, g2, g3, g4⟩ := HP.out rfl
    rw [hln1] at g3 g4
    have G1 := Lib.hid g1
    have G2 := Lib.hid g2
    clear g1 g2
    go_wp2_with fail
    refine (event_Get hb1.sl (by omega) G1 G2).mono ?_
    rintro e w2 ⟨A2, n2, c2, rfl, hb2, hx3⟩
    have hx4 := hx2.trans hx3
    replace hc0 := hx3.cell hc0
    replace hc1 := hx3.cell hc1
    replace hc2 := hx3.cell hc2
    replace hc3 := hx3.cell hc3
    replace hc4 := hx3.cell hc4
    have hlt := World.block_lt_of_cell? _ _ hc0
    clear hx3 hx2
    go_wp2_with fail
    refine (event_Right k o m A n c l s _ ((hsl.ext hx4).ext (Ext.alloc _ _)) hs).mono ?_
    rintro e w3 ⟨rfl, hx3⟩
    rw [HR.out]
    have hx5 : Ext w w3 := (hx4.trans (Ext.alloc _ _)).trans hx3
    replace hc0 := hx3.cell ((Ext.alloc _ _).cell hc0)
    replace hc1 := hx3.cell ((Ext.alloc _ _).cell hc1)
    replace hc2 := hx3.cell ((Ext.alloc _ _).cell hc2)
    replace hc3 := hx3.cell ((Ext.alloc _ _).cell hc3)
    replace hc4 := hx3.cell ((Ext.alloc _ _).cell hc4)
    have d0 : w3.cell? ⟨w2.heap.size, 0, none⟩ = some (.int .i64 k) := hx3.cell (cell_new w2 _ _ 0)
    have d1 : w3.cell? ⟨w2.heap.size, 1, none⟩ = some (.int .i64 o) := hx3.cell (cell_new w2 _ _ 1)
    have d2 : w3.cell? ⟨w2.heap.size, 2, none⟩ = some (.int .i64 m) := hx3.cell (cell_new w2 _ _ 2)
    have d3 : w3.cell? ⟨w2.heap.size, 3, none⟩ = some (.slice A2 n2 c2) := hx3.cell (cell_new w2 _ _ 3)
    have d4 : w3.cell? ⟨w2.heap.size, 4, none⟩ = some (.string s) := hx3.cell (cell_new w2 _ _ 4)
    have hbW := hb2.ext ((Ext.alloc _ _).trans hx3)
    clear hx3
    have hself : Hid (sameE k o m l s k o m l s = true) := by unfold Hid sameE; simp
    go_wp2_with fail
    refine (ref_SameEvent k o m A2 n2 c2 l s k o m A n c l s _ hbW.sl (hsl.ext hx5)).mono ?_
    rintro e w4 ⟨rfl, hx6⟩
    rw [hself.out]
    go_wp2_with fail
    refine (law5_known _).mono ?_
    rintro e w5 ⟨rfl, hx7⟩
    go_wp2_with fail
    go_ret
    exact ⟨rfl, (hx5.trans hx6).trans hx7⟩
end Go.Proofs.Ytcklkjklepmabaa
