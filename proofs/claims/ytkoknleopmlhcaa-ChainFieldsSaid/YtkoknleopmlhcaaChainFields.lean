/-
  The walk of one statement of chapter 6.
-/
import Derived.Test.YtkoknleopmlhcaaTagKnown
import Derived.Test.YtkoknleopmlhcaaTagFlat
import Derived.Test.YtkoknleopmlhcaaMask
namespace Go.Proofs.Ytkoknleopmlhcaa
open Go.RowKit
set_option linter.unusedVariables false
set_option linter.unusedSimpArgs false
set_option linter.unnecessarySimpa false
set_option maxRecDepth 100000

/-- a row's cells, one of them set -/
theorem cells_set {w : World} {B : Nat} {cs : List Value} (h : ∀ (j : Nat) (u : Value), cs[j]? = some u → w.cell? ⟨B, j, none⟩ = some u) {o : Nat} (ho : o < cs.length) (v : Value) :
    ∀ (j : Nat) (u : Value), (cs.set o v)[j]? = some u → (w.setCell ⟨B, o, none⟩ v).cell? ⟨B, j, none⟩ = some u := by
  intro j u hu
  rw [List.getElem?_set] at hu
  split at hu
  · rename_i e
    subst e
    injection hu with hu
    subst hu
    exact World.cell?_setCell_same _ _ _ (h o _ (List.getElem?_eq_getElem ho))
  · rename_i e
    rw [World.cell?_setCell_other _ _ _ _ (fun e2 => e (by injection e2))]
    exact h j u hu
theorem lst_of_cells {w : World} {B : Nat} {xs : List Tg} {cs : List Value} (h : ∀ (j : Nat) (u : Value), cs[j]? = some u → w.cell? ⟨B, j, none⟩ = some u) (css : List (List Value)) (hc : All2 tgR w xs css) (he : css.flatten = cs) (n : Nat) (hn : xs.length = n) (hm : n ≤ maxLen) :
    Lst 4 tgR w (some ⟨B, 0, none⟩) n n xs := by
  subst he
  refine ⟨hn, Nat.le_refl _, hm, css, hc, by rw [hc.flat tg_rep, hn], fun _ => ⟨_, rfl, fun j u hu => ?_⟩⟩
  have := h j u hu
  unfold Addr.add
  split
  · rename_i e
    rw [e] at this
    exact this
  · rw [show (⟨B, 0, none⟩ : Addr).off + j = j by simp]
    exact this
theorem fr_newF (w : World) (cs : Array Value) (e : TypeId) (j : Nat) : (w.alloc (.cells cs e)).frozen? ⟨w.heap.size, j, none⟩ = false := by
  unfold World.frozen?
  simp only [heap_alloc_new]
  simp
set_option maxHeartbeats 4000000 in
theorem law_ChainFields (wh : Int) (w : World) :
    Calls Try.prog 8 #[.int .i64 wh] w fun e w' => e = .returned (.bool true) ∧ Ext w w' := by
  obtain ⟨v, hv, hv2⟩ : ∃ p : Nat, bits BinOp.and IntKind.i64 wh 255 = (p : Int) ∧ p ≤ 255 := ⟨(wh % 256).toNat, by rw [and255]; omega, by omega⟩
  have hkm : (v : Int) % 9 = ((v % 9 : Nat) : Int) := by simp
  have hkl : v % 9 < 9 := Nat.mod_lt _ (by omega)
  obtain ⟨k, hk⟩ : ∃ k, v % 9 = k := ⟨_, rfl⟩
  rw [hk] at hkm hkl
  clear hk
  obtain ⟨w0, hw0⟩ : ∃ q, q = w.alloc (.cells #[.int .i64 1, .int .i64 1, .int .i64 0, .int .i64 0, .int .i64 2, .int .i64 0, .int .i64 2, .int .i64 4, .int .i64 4, .int .i64 2, .int .i64 0, .int .i64 4] 35) := ⟨_, rfl⟩
  have g0 : Ext w w0 := by rw [hw0]; exact Ext.alloc _ _
  have c0 : ∀ (j : Nat) (u : Value), ([.int .i64 1, .int .i64 1, .int .i64 0, .int .i64 0, .int .i64 2, .int .i64 0, .int .i64 2, .int .i64 4, .int .i64 4, .int .i64 2, .int .i64 0, .int .i64 4] : List Value)[j]? = some u → w0.cell? ⟨w.heap.size, j, none⟩ = some u := fun j u hu => by rw [hw0]; exact cell_new _ _ _ j (by simpa using hu)
  have f0 : ∀ j, w0.frozen? ⟨w.heap.size, j, none⟩ = false := fun j => by rw [hw0]; exact fr_newF _ _ _ _
  have hlt : w.heap.size < w0.heap.size := by rw [hw0]; simp
  have l0 : Lst 4 tgR w0 (some ⟨w.heap.size, 0, none⟩) 3 3 [⟨1, 1, 0, 0⟩, ⟨2, 0, 2, 4⟩, ⟨4, 2, 0, 4⟩] := lst_of_cells c0 (([⟨1, 1, 0, 0⟩, ⟨2, 0, 2, 4⟩, ⟨4, 2, 0, 4⟩] : List Tg).map fun (x : Tg) => [.int .i64 x.id, .int .i64 x.ow, .int .i64 x.he, .int .i64 x.pt]) (.cons rfl (.cons rfl (.cons rfl .nil))) rfl 3 rfl (by simp [maxLen])
  have H0 : Hid (rightL [⟨1, 1, 0, 0⟩, ⟨2, 0, 2, 4⟩, ⟨4, 2, 0, 4⟩] = true) := by unfold Hid; decide
  go_enter Try.func8, Try.ntmps8
  go_wp2_with fail
  rw [← hw0]
  clear hw0
  refine (chain_Right l0 H0).mono ?_
  rintro e w1 ⟨rfl, g1⟩
  have c1 : ∀ (j : Nat) (u : Value), ([.int .i64 1, .int .i64 1, .int .i64 0, .int .i64 0, .int .i64 2, .int .i64 0, .int .i64 2, .int .i64 4, .int .i64 4, .int .i64 2, .int .i64 0, .int .i64 4] : List Value)[j]? = some u → w1.cell? ⟨w.heap.size, j, none⟩ = some u := fun j u hu => g1.cell (c0 j u hu)
  have f1 : ∀ j, w1.frozen? ⟨w.heap.size, j, none⟩ = false := fun j => (Below.frozen g1 hlt).trans (f0 j)
  have g := g0.trans g1
  have hB : w.heap.size ≤ w.heap.size := Nat.le_refl _
  clear g0 g1 c0 f0 l0 H0
  have hk9 : k = 0 ∨ k = 1 ∨ k = 2 ∨ k = 3 ∨ k = 4 ∨ k = 5 ∨ k = 6 ∨ k = 7 ∨ k = 8 := by omega
  rcases hk9 with rfl | rfl | rfl | rfl | rfl | rfl | rfl | rfl | rfl
  · have HR : Hid (rightL [] = false) := by unfold Hid; decide
    have HL : Hid (putR [] false = []) := rfl
    have gn := g
    have ln : Lst 4 tgR w1 none 0 0 ([] : List Tg) := Lst.nil _
    clear c1 f1
    go_wp2_with fail
    refine (chain_Put ln HR HL).mono ?_
    rintro e w2 ⟨A2, n2, c2, rfl, h2, g2⟩
    rw [show (if false = true then (0 : Int) else 1) = 1 from rfl]
    go_wp2_with fail
    refine (chain_Right (ln.ext tg_rep g2) HR).mono ?_
    rintro e w3 ⟨rfl, g3⟩
    go_wp2_with fail
    refine (law6_known _).mono ?_
    rintro e w4 ⟨rfl, g4⟩
    go_wp2_with fail
    go_ret
    exact ⟨rfl, ((gn.trans g2).trans g3).trans g4⟩
  · have HR : Hid (rightL [⟨1, 1, 0, 1⟩, ⟨2, 0, 2, 4⟩, ⟨4, 2, 0, 4⟩] = false) := by unfold Hid; decide
    have HL : Hid (putR [⟨1, 1, 0, 1⟩, ⟨2, 0, 2, 4⟩, ⟨4, 2, 0, 4⟩] false = []) := rfl
    have gn : Ext w (w1.setCell ⟨w.heap.size, 3, none⟩ (.int .i64 1)) := Below.setCell g hB _
    have ln : Lst 4 tgR (w1.setCell ⟨w.heap.size, 3, none⟩ (.int .i64 1)) (some ⟨w.heap.size, 0, none⟩) 3 3 [⟨1, 1, 0, 1⟩, ⟨2, 0, 2, 4⟩, ⟨4, 2, 0, 4⟩] := lst_of_cells (cells_set c1 (o := 3) (by simp) (.int .i64 1)) (([⟨1, 1, 0, 1⟩, ⟨2, 0, 2, 4⟩, ⟨4, 2, 0, 4⟩] : List Tg).map fun (x : Tg) => [.int .i64 x.id, .int .i64 x.ow, .int .i64 x.he, .int .i64 x.pt]) (.cons rfl (.cons rfl (.cons rfl .nil))) rfl 3 rfl (by simp [maxLen])
    have fz := f1 3
    have cz : w1.cell? ⟨w.heap.size, 3, none⟩ = some _ := c1 3 _ rfl
    clear c1 f1
    go_wp2_with fail
    refine (chain_Put ln HR HL).mono ?_
    rintro e w2 ⟨A2, n2, c2, rfl, h2, g2⟩
    rw [show (if false = true then (0 : Int) else 1) = 1 from rfl]
    go_wp2_with fail
    refine (chain_Right (ln.ext tg_rep g2) HR).mono ?_
    rintro e w3 ⟨rfl, g3⟩
    go_wp2_with fail
    refine (law6_known _).mono ?_
    rintro e w4 ⟨rfl, g4⟩
    go_wp2_with fail
    go_ret
    exact ⟨rfl, ((gn.trans g2).trans g3).trans g4⟩
  · have HR : Hid (rightL [⟨1, 1, 0, 0⟩, ⟨1, 0, 2, 4⟩, ⟨4, 2, 0, 4⟩] = false) := by unfold Hid; decide
    have HL : Hid (putR [⟨1, 1, 0, 0⟩, ⟨1, 0, 2, 4⟩, ⟨4, 2, 0, 4⟩] false = []) := rfl
    have gn : Ext w (w1.setCell ⟨w.heap.size, 4, none⟩ (.int .i64 1)) := Below.setCell g hB _
    have ln : Lst 4 tgR (w1.setCell ⟨w.heap.size, 4, none⟩ (.int .i64 1)) (some ⟨w.heap.size, 0, none⟩) 3 3 [⟨1, 1, 0, 0⟩, ⟨1, 0, 2, 4⟩, ⟨4, 2, 0, 4⟩] := lst_of_cells (cells_set c1 (o := 4) (by simp) (.int .i64 1)) (([⟨1, 1, 0, 0⟩, ⟨1, 0, 2, 4⟩, ⟨4, 2, 0, 4⟩] : List Tg).map fun (x : Tg) => [.int .i64 x.id, .int .i64 x.ow, .int .i64 x.he, .int .i64 x.pt]) (.cons rfl (.cons rfl (.cons rfl .nil))) rfl 3 rfl (by simp [maxLen])
    have fz := f1 4
    have cz : w1.cell? ⟨w.heap.size, 4, none⟩ = some _ := c1 4 _ rfl
    clear c1 f1
    go_wp2_with fail
    refine (chain_Put ln HR HL).mono ?_
    rintro e w2 ⟨A2, n2, c2, rfl, h2, g2⟩
    rw [show (if false = true then (0 : Int) else 1) = 1 from rfl]
    go_wp2_with fail
    refine (chain_Right (ln.ext tg_rep g2) HR).mono ?_
    rintro e w3 ⟨rfl, g3⟩
    go_wp2_with fail
    refine (law6_known _).mono ?_
    rintro e w4 ⟨rfl, g4⟩
    go_wp2_with fail
    go_ret
    exact ⟨rfl, ((gn.trans g2).trans g3).trans g4⟩
  · have HR : Hid (rightL [⟨1, 1, 0, 0⟩, ⟨2, 0, 2, 4⟩, ⟨4, 2, 0, 3⟩] = false) := by unfold Hid; decide
    have HL : Hid (putR [⟨1, 1, 0, 0⟩, ⟨2, 0, 2, 4⟩, ⟨4, 2, 0, 3⟩] false = []) := rfl
    have gn : Ext w (w1.setCell ⟨w.heap.size, 11, none⟩ (.int .i64 3)) := Below.setCell g hB _
    have ln : Lst 4 tgR (w1.setCell ⟨w.heap.size, 11, none⟩ (.int .i64 3)) (some ⟨w.heap.size, 0, none⟩) 3 3 [⟨1, 1, 0, 0⟩, ⟨2, 0, 2, 4⟩, ⟨4, 2, 0, 3⟩] := lst_of_cells (cells_set c1 (o := 11) (by simp) (.int .i64 3)) (([⟨1, 1, 0, 0⟩, ⟨2, 0, 2, 4⟩, ⟨4, 2, 0, 3⟩] : List Tg).map fun (x : Tg) => [.int .i64 x.id, .int .i64 x.ow, .int .i64 x.he, .int .i64 x.pt]) (.cons rfl (.cons rfl (.cons rfl .nil))) rfl 3 rfl (by simp [maxLen])
    have fz := f1 11
    have cz : w1.cell? ⟨w.heap.size, 11, none⟩ = some _ := c1 11 _ rfl
    clear c1 f1
    go_wp2_with fail
    refine (chain_Put ln HR HL).mono ?_
    rintro e w2 ⟨A2, n2, c2, rfl, h2, g2⟩
    rw [show (if false = true then (0 : Int) else 1) = 1 from rfl]
    go_wp2_with fail
    refine (chain_Right (ln.ext tg_rep g2) HR).mono ?_
    rintro e w3 ⟨rfl, g3⟩
    go_wp2_with fail
    refine (law6_known _).mono ?_
    rintro e w4 ⟨rfl, g4⟩
    go_wp2_with fail
    go_ret
    exact ⟨rfl, ((gn.trans g2).trans g3).trans g4⟩
  · have HR : Hid (rightL [⟨1, 1, 0, 0⟩, ⟨2, 0, 0, 4⟩, ⟨4, 2, 0, 4⟩] = false) := by unfold Hid; decide
    have HL : Hid (putR [⟨1, 1, 0, 0⟩, ⟨2, 0, 0, 4⟩, ⟨4, 2, 0, 4⟩] false = []) := rfl
    have gn : Ext w (w1.setCell ⟨w.heap.size, 6, none⟩ (.int .i64 0)) := Below.setCell g hB _
    have ln : Lst 4 tgR (w1.setCell ⟨w.heap.size, 6, none⟩ (.int .i64 0)) (some ⟨w.heap.size, 0, none⟩) 3 3 [⟨1, 1, 0, 0⟩, ⟨2, 0, 0, 4⟩, ⟨4, 2, 0, 4⟩] := lst_of_cells (cells_set c1 (o := 6) (by simp) (.int .i64 0)) (([⟨1, 1, 0, 0⟩, ⟨2, 0, 0, 4⟩, ⟨4, 2, 0, 4⟩] : List Tg).map fun (x : Tg) => [.int .i64 x.id, .int .i64 x.ow, .int .i64 x.he, .int .i64 x.pt]) (.cons rfl (.cons rfl (.cons rfl .nil))) rfl 3 rfl (by simp [maxLen])
    have fz := f1 6
    have cz : w1.cell? ⟨w.heap.size, 6, none⟩ = some _ := c1 6 _ rfl
    clear c1 f1
    go_wp2_with fail
    refine (chain_Put ln HR HL).mono ?_
    rintro e w2 ⟨A2, n2, c2, rfl, h2, g2⟩
    rw [show (if false = true then (0 : Int) else 1) = 1 from rfl]
    go_wp2_with fail
    refine (chain_Right (ln.ext tg_rep g2) HR).mono ?_
    rintro e w3 ⟨rfl, g3⟩
    go_wp2_with fail
    refine (law6_known _).mono ?_
    rintro e w4 ⟨rfl, g4⟩
    go_wp2_with fail
    go_ret
    exact ⟨rfl, ((gn.trans g2).trans g3).trans g4⟩
  · have HR : Hid (rightL [⟨1, 1, 0, 0⟩, ⟨2, 0, 2, 4⟩, ⟨4, 2, 1, 4⟩] = false) := by unfold Hid; decide
    have HL : Hid (putR [⟨1, 1, 0, 0⟩, ⟨2, 0, 2, 4⟩, ⟨4, 2, 1, 4⟩] false = []) := rfl
    have gn : Ext w (w1.setCell ⟨w.heap.size, 10, none⟩ (.int .i64 1)) := Below.setCell g hB _
    have ln : Lst 4 tgR (w1.setCell ⟨w.heap.size, 10, none⟩ (.int .i64 1)) (some ⟨w.heap.size, 0, none⟩) 3 3 [⟨1, 1, 0, 0⟩, ⟨2, 0, 2, 4⟩, ⟨4, 2, 1, 4⟩] := lst_of_cells (cells_set c1 (o := 10) (by simp) (.int .i64 1)) (([⟨1, 1, 0, 0⟩, ⟨2, 0, 2, 4⟩, ⟨4, 2, 1, 4⟩] : List Tg).map fun (x : Tg) => [.int .i64 x.id, .int .i64 x.ow, .int .i64 x.he, .int .i64 x.pt]) (.cons rfl (.cons rfl (.cons rfl .nil))) rfl 3 rfl (by simp [maxLen])
    have fz := f1 10
    have cz : w1.cell? ⟨w.heap.size, 10, none⟩ = some _ := c1 10 _ rfl
    clear c1 f1
    go_wp2_with fail
    refine (chain_Put ln HR HL).mono ?_
    rintro e w2 ⟨A2, n2, c2, rfl, h2, g2⟩
    rw [show (if false = true then (0 : Int) else 1) = 1 from rfl]
    go_wp2_with fail
    refine (chain_Right (ln.ext tg_rep g2) HR).mono ?_
    rintro e w3 ⟨rfl, g3⟩
    go_wp2_with fail
    refine (law6_known _).mono ?_
    rintro e w4 ⟨rfl, g4⟩
    go_wp2_with fail
    go_ret
    exact ⟨rfl, ((gn.trans g2).trans g3).trans g4⟩
  · have HR : Hid (rightL [⟨1, 1, 0, 0⟩, ⟨2, 0, 2, 4⟩, ⟨4, 3, 0, 4⟩] = false) := by unfold Hid; decide
    have HL : Hid (putR [⟨1, 1, 0, 0⟩, ⟨2, 0, 2, 4⟩, ⟨4, 3, 0, 4⟩] false = []) := rfl
    have gn : Ext w (w1.setCell ⟨w.heap.size, 9, none⟩ (.int .i64 3)) := Below.setCell g hB _
    have ln : Lst 4 tgR (w1.setCell ⟨w.heap.size, 9, none⟩ (.int .i64 3)) (some ⟨w.heap.size, 0, none⟩) 3 3 [⟨1, 1, 0, 0⟩, ⟨2, 0, 2, 4⟩, ⟨4, 3, 0, 4⟩] := lst_of_cells (cells_set c1 (o := 9) (by simp) (.int .i64 3)) (([⟨1, 1, 0, 0⟩, ⟨2, 0, 2, 4⟩, ⟨4, 3, 0, 4⟩] : List Tg).map fun (x : Tg) => [.int .i64 x.id, .int .i64 x.ow, .int .i64 x.he, .int .i64 x.pt]) (.cons rfl (.cons rfl (.cons rfl .nil))) rfl 3 rfl (by simp [maxLen])
    have fz := f1 9
    have cz : w1.cell? ⟨w.heap.size, 9, none⟩ = some _ := c1 9 _ rfl
    clear c1 f1
    go_wp2_with fail
    refine (chain_Put ln HR HL).mono ?_
    rintro e w2 ⟨A2, n2, c2, rfl, h2, g2⟩
    rw [show (if false = true then (0 : Int) else 1) = 1 from rfl]
    go_wp2_with fail
    refine (chain_Right (ln.ext tg_rep g2) HR).mono ?_
    rintro e w3 ⟨rfl, g3⟩
    go_wp2_with fail
    refine (law6_known _).mono ?_
    rintro e w4 ⟨rfl, g4⟩
    go_wp2_with fail
    go_ret
    exact ⟨rfl, ((gn.trans g2).trans g3).trans g4⟩
  · have HR : Hid (rightL [⟨1, 1, 0, 0⟩, ⟨1073741825, 0, 2, 4⟩, ⟨4, 2, 0, 4⟩] = false) := by unfold Hid; decide
    have HL : Hid (putR [⟨1, 1, 0, 0⟩, ⟨1073741825, 0, 2, 4⟩, ⟨4, 2, 0, 4⟩] false = []) := rfl
    have gn : Ext w (w1.setCell ⟨w.heap.size, 4, none⟩ (.int .i64 1073741825)) := Below.setCell g hB _
    have ln : Lst 4 tgR (w1.setCell ⟨w.heap.size, 4, none⟩ (.int .i64 1073741825)) (some ⟨w.heap.size, 0, none⟩) 3 3 [⟨1, 1, 0, 0⟩, ⟨1073741825, 0, 2, 4⟩, ⟨4, 2, 0, 4⟩] := lst_of_cells (cells_set c1 (o := 4) (by simp) (.int .i64 1073741825)) (([⟨1, 1, 0, 0⟩, ⟨1073741825, 0, 2, 4⟩, ⟨4, 2, 0, 4⟩] : List Tg).map fun (x : Tg) => [.int .i64 x.id, .int .i64 x.ow, .int .i64 x.he, .int .i64 x.pt]) (.cons rfl (.cons rfl (.cons rfl .nil))) rfl 3 rfl (by simp [maxLen])
    have fz := f1 4
    have cz : w1.cell? ⟨w.heap.size, 4, none⟩ = some _ := c1 4 _ rfl
    clear c1 f1
    go_wp2_with fail
    refine (chain_Put ln HR HL).mono ?_
    rintro e w2 ⟨A2, n2, c2, rfl, h2, g2⟩
    rw [show (if false = true then (0 : Int) else 1) = 1 from rfl]
    go_wp2_with fail
    refine (chain_Right (ln.ext tg_rep g2) HR).mono ?_
    rintro e w3 ⟨rfl, g3⟩
    go_wp2_with fail
    refine (law6_known _).mono ?_
    rintro e w4 ⟨rfl, g4⟩
    go_wp2_with fail
    go_ret
    exact ⟨rfl, ((gn.trans g2).trans g3).trans g4⟩
  · have HR : Hid (rightL [⟨1, 1, 0, 0⟩, ⟨2, 0, 2, 4⟩, ⟨4, 2, 0, 1099511627777⟩] = false) := by unfold Hid; decide
    have HL : Hid (putR [⟨1, 1, 0, 0⟩, ⟨2, 0, 2, 4⟩, ⟨4, 2, 0, 1099511627777⟩] false = []) := rfl
    have gn : Ext w (w1.setCell ⟨w.heap.size, 11, none⟩ (.int .i64 1099511627777)) := Below.setCell g hB _
    have ln : Lst 4 tgR (w1.setCell ⟨w.heap.size, 11, none⟩ (.int .i64 1099511627777)) (some ⟨w.heap.size, 0, none⟩) 3 3 [⟨1, 1, 0, 0⟩, ⟨2, 0, 2, 4⟩, ⟨4, 2, 0, 1099511627777⟩] := lst_of_cells (cells_set c1 (o := 11) (by simp) (.int .i64 1099511627777)) (([⟨1, 1, 0, 0⟩, ⟨2, 0, 2, 4⟩, ⟨4, 2, 0, 1099511627777⟩] : List Tg).map fun (x : Tg) => [.int .i64 x.id, .int .i64 x.ow, .int .i64 x.he, .int .i64 x.pt]) (.cons rfl (.cons rfl (.cons rfl .nil))) rfl 3 rfl (by simp [maxLen])
    have fz := f1 11
    have cz : w1.cell? ⟨w.heap.size, 11, none⟩ = some _ := c1 11 _ rfl
    clear c1 f1
    go_wp2_with fail
    refine (chain_Put ln HR HL).mono ?_
    rintro e w2 ⟨A2, n2, c2, rfl, h2, g2⟩
    rw [show (if false = true then (0 : Int) else 1) = 1 from rfl]
    go_wp2_with fail
    refine (chain_Right (ln.ext tg_rep g2) HR).mono ?_
    rintro e w3 ⟨rfl, g3⟩
    go_wp2_with fail
    refine (law6_known _).mono ?_
    rintro e w4 ⟨rfl, g4⟩
    go_wp2_with fail
    go_ret
    exact ⟨rfl, ((gn.trans g2).trans g3).trans g4⟩
end Go.Proofs.Ytkoknleopmlhcaa
