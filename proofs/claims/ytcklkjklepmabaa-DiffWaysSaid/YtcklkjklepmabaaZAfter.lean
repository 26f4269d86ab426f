/-
  What events make of an image of noughts: contract of hectographkeep's After.
-/
import Derived.Test.YtcklkjklepmabaaZRefFold
import Derived.Test.YtcklkjklepmabaaZFoldLaws
namespace Go.Proofs.Ytcklkjklepmabaa
open Go.RowKit
set_option linter.unusedVariables false
set_option linter.unusedSimpArgs false
set_option linter.unnecessarySimpa false
set_option maxRecDepth 100000

set_option maxHeartbeats 2000000 in
theorem keep_After {Ae : Option Addr} {ne ce : Nat} {xs : List Ev} {z : Int} {w : World} (l1 : Lst 5 evR w Ae ne ce xs) :
    Calls Try.prog 25 #[.int .i64 z, .slice Ae ne ce] w fun e w' => ∃ A' n' c' A3 n3 c3, e = .returned (stV A' n' c' A3 n3 c3) ∧ StR w' A' n' c' A3 n3 c3 (foldS (newS z) xs) ∧ Ext w w' := by
  have h63 := l1.n63
  have ok0 := okS_right (right_new z)
  obtain ⟨W, hW⟩ : ∃ W, w.alloc (.cells #[.slice none 0 0, .slice none 0 0] TSt) = W := ⟨_, rfl⟩
  have g0 : Ext w W := by rw [← hW]; exact Ext.alloc _ _
  have z0 : W.cell? ⟨w.heap.size, 0, none⟩ = some (.slice none 0 0) := by rw [← hW]; exact cell_new w _ _ 0
  have z1 : W.cell? ⟨w.heap.size, 1, none⟩ = some (.slice none 0 0) := by rw [← hW]; exact cell_new w _ _ 1
  have zf : ∀ q, W.frozen? ⟨w.heap.size, q, none⟩ = false := fun q => by
    rw [← hW]
    unfold World.frozen?
    rw [heap_alloc_new]
    simp
  have hlt : w.heap.size < W.heap.size := by rw [← hW]; simp
  go_enter Try.func25, Try.ntmps25
  go_wp2_with fail
  clear hW
  refine (ref14_New z _).mono ?_
  rintro e w1 ⟨A1, n1, c1, rfl, h1, g1⟩
  have b1 := h1.1.n63
  go_wp2_with fail
  refine (ref14_Fold h1 ok0 (l1.ext ev_rep (g0.trans g1))).mono ?_
  rintro e w2 ⟨A2, n2, c2, B2, m2, d2, rfl, h2, g2⟩
  have b2 := h2.1.n63
  have bb2 := h2.2.n63
  have g12 := g1.trans g2
  replace z0 := g12.cell z0
  replace z1 := g12.cell z1
  have yf : ∀ q, w2.frozen? ⟨w.heap.size, q, none⟩ = false := fun q => frozen_ext g12 (show w.heap.size < W.heap.size from hlt) (zf q)
  have f0 := yf 0
  have f1 := yf 1
  clear zf
  go_wp2_with fail
  refine bodyPost_ret (v := stV A2 n2 c2 B2 m2 d2) ?hres rfl ⟨_, _, _, _, _, _, rfl, ?hst, ?hxx⟩
  case hres => simp [results, Try.results25, go_sem, z0, z1]
  case hst => exact ((StR.f0 h2).box (g := w.heap.size) ⟨World.block_lt_of_cell? _ _ z0, ⟨_, _, _, _, _, _, z0, z1⟩, yf⟩ _ _).st
  case hxx => exact ((g0.trans g12).sets (by simp) _).sets (by simp) _
end Go.Proofs.Ytcklkjklepmabaa
