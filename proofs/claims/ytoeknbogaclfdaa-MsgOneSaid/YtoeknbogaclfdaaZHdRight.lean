/-
  Records: contract of the program's Right.
-/
import Derived.Test.YtoeknbogaclfdaaZFromMsTagsToHdMarks
namespace Go.Proofs.Ytoeknbogaclfdaa
open Go.RowKit
set_option linter.unusedVariables false
set_option linter.unusedSimpArgs false
set_option linter.unnecessarySimpa false
set_option maxRecDepth 100000

theorem rightH_no {h : Hd} {t : Bool} (ht : rightH h = t) (hn : numsB h = false) : t = false := by
  rw [← ht]
  unfold rightH
  rw [hn]
  rfl
theorem numsB_no {h : Hd} (hn : ¬ ((0 ≤ h.size ∧ h.size ≤ 512) ∧ (3 ≤ h.order ∧ h.order ≤ 6 ∧ 2 ≤ h.unit ∧ h.unit ≤ h.order ∧ 1 ≤ h.count ∧ h.count ≤ 4) ∧ (1 ≤ h.next ∧ h.next ≤ 1073741824 ∧ 0 ≤ h.seq ∧ h.seq ≤ 1099511627776))) : numsB h = false := by
  rw [Bool.eq_false_iff]
  intro e
  exact hn (numsB_iff.1 e)
theorem shape_no {o u c : Int} (h : shapeB o u c = false) : ¬ (3 ≤ o ∧ o ≤ 6 ∧ 2 ≤ u ∧ u ≤ o ∧ 1 ≤ c ∧ c ≤ 4) := by
  unfold shapeB at h
  simpa using h
theorem shape_yes {o u c : Int} (h : shapeB o u c = true) : 3 ≤ o ∧ o ≤ 6 ∧ 2 ≤ u ∧ u ≤ o ∧ 1 ≤ c ∧ c ≤ 4 := by
  unfold shapeB at h
  simpa using h
set_option maxHeartbeats 2000000 in
theorem header_Right (h : Hd) {A : Option Addr} {n c : Nat} {w : World} (hl : Lst 4 mkR w A n c h.marks) (hs : Hid (Shorts h.marks)) (hn1 : n ≤ 1000) {t : Bool} (ht : Hid (rightH h = t)) :
    Calls Try.prog 21 #[hdV h A n c] w fun e w' => e = .returned (.bool t) ∧ Ext w w' := by
  have h63 := hl.n63
  obtain ⟨h1, h2, h3, h4, nx, h6, xs⟩ := h
  simp only at hl hs
  obtain ⟨q, hq⟩ : ∃ q, shapeB h2 h3 h4 = q := ⟨_, rfl⟩
  have HQ := Lib.hid hq
  by_cases c1 : 0 ≤ h1
  case neg =>
    have d1 : decide (0 ≤ h1) = false := decide_eq_false c1
    obtain rfl := rightH_no ht.out (numsB_no (by simp only; omega))
    clear ht
    go_enter Try.func21, Try.ntmps21
    go_wp2_with fail
    go_ret
    exact ⟨rfl, Ext.alloc _ _⟩
  have d1 : decide (0 ≤ h1) = true := decide_eq_true c1
  by_cases c2 : h1 ≤ 512
  case neg =>
    have d2 : decide (h1 ≤ 512) = false := decide_eq_false c2
    obtain rfl := rightH_no ht.out (numsB_no (by simp only; omega))
    clear ht
    go_enter Try.func21, Try.ntmps21
    go_wp2_with fail
    go_ret
    exact ⟨rfl, Ext.alloc _ _⟩
  have d2 : decide (h1 ≤ 512) = true := decide_eq_true c2
  cases q with
  | false =>
    have hsh := shape_no hq
    clear hq
    obtain rfl := rightH_no ht.out (numsB_no (by simp only; intro hh; exact hsh hh.2.1))
    clear ht hsh
    go_enter Try.func21, Try.ntmps21
    go_wp2_with fail
    refine (header_Shape h2 h3 h4 _ HQ).mono ?_
    rintro e w2 ⟨rfl, hx2⟩
    have b0 : w2.cell? ⟨w.heap.size, 0, none⟩ = some (.int .i64 h1) := hx2.cell (cell_new w #[.int .i64 h1, .int .i64 h2, .int .i64 h3, .int .i64 h4, .int .i64 nx, .int .i64 h6, .slice A n c] THd 0)
    have b1 : w2.cell? ⟨w.heap.size, 1, none⟩ = some (.int .i64 h2) := hx2.cell (cell_new w #[.int .i64 h1, .int .i64 h2, .int .i64 h3, .int .i64 h4, .int .i64 nx, .int .i64 h6, .slice A n c] THd 1)
    have b2 : w2.cell? ⟨w.heap.size, 2, none⟩ = some (.int .i64 h3) := hx2.cell (cell_new w #[.int .i64 h1, .int .i64 h2, .int .i64 h3, .int .i64 h4, .int .i64 nx, .int .i64 h6, .slice A n c] THd 2)
    have b3 : w2.cell? ⟨w.heap.size, 3, none⟩ = some (.int .i64 h4) := hx2.cell (cell_new w #[.int .i64 h1, .int .i64 h2, .int .i64 h3, .int .i64 h4, .int .i64 nx, .int .i64 h6, .slice A n c] THd 3)
    have b4 : w2.cell? ⟨w.heap.size, 4, none⟩ = some (.int .i64 nx) := hx2.cell (cell_new w #[.int .i64 h1, .int .i64 h2, .int .i64 h3, .int .i64 h4, .int .i64 nx, .int .i64 h6, .slice A n c] THd 4)
    have b5 : w2.cell? ⟨w.heap.size, 5, none⟩ = some (.int .i64 h6) := hx2.cell (cell_new w #[.int .i64 h1, .int .i64 h2, .int .i64 h3, .int .i64 h4, .int .i64 nx, .int .i64 h6, .slice A n c] THd 5)
    have b6 : w2.cell? ⟨w.heap.size, 6, none⟩ = some (.slice A n c) := hx2.cell (cell_new w #[.int .i64 h1, .int .i64 h2, .int .i64 h3, .int .i64 h4, .int .i64 nx, .int .i64 h6, .slice A n c] THd 6)
    have gx2 : Ext w w2 := (Ext.alloc _ _).trans hx2
    clear hx2
    go_wp2_with fail
    go_ret
    exact ⟨rfl, gx2⟩
  | true =>
    have hsh := Lib.hid (shape_yes hq)
    clear hq
    by_cases c3 : 1 ≤ nx
    case neg =>
      have d3 : decide (1 ≤ nx) = false := decide_eq_false c3
      obtain rfl := rightH_no ht.out (numsB_no (by simp only; omega))
      clear ht
      go_enter Try.func21, Try.ntmps21
      go_wp2_with fail
      refine (header_Shape h2 h3 h4 _ HQ).mono ?_
      rintro e w2 ⟨rfl, hx2⟩
      have b0 : w2.cell? ⟨w.heap.size, 0, none⟩ = some (.int .i64 h1) := hx2.cell (cell_new w #[.int .i64 h1, .int .i64 h2, .int .i64 h3, .int .i64 h4, .int .i64 nx, .int .i64 h6, .slice A n c] THd 0)
      have b1 : w2.cell? ⟨w.heap.size, 1, none⟩ = some (.int .i64 h2) := hx2.cell (cell_new w #[.int .i64 h1, .int .i64 h2, .int .i64 h3, .int .i64 h4, .int .i64 nx, .int .i64 h6, .slice A n c] THd 1)
      have b2 : w2.cell? ⟨w.heap.size, 2, none⟩ = some (.int .i64 h3) := hx2.cell (cell_new w #[.int .i64 h1, .int .i64 h2, .int .i64 h3, .int .i64 h4, .int .i64 nx, .int .i64 h6, .slice A n c] THd 2)
      have b3 : w2.cell? ⟨w.heap.size, 3, none⟩ = some (.int .i64 h4) := hx2.cell (cell_new w #[.int .i64 h1, .int .i64 h2, .int .i64 h3, .int .i64 h4, .int .i64 nx, .int .i64 h6, .slice A n c] THd 3)
      have b4 : w2.cell? ⟨w.heap.size, 4, none⟩ = some (.int .i64 nx) := hx2.cell (cell_new w #[.int .i64 h1, .int .i64 h2, .int .i64 h3, .int .i64 h4, .int .i64 nx, .int .i64 h6, .slice A n c] THd 4)
      have b5 : w2.cell? ⟨w.heap.size, 5, none⟩ = some (.int .i64 h6) := hx2.cell (cell_new w #[.int .i64 h1, .int .i64 h2, .int .i64 h3, .int .i64 h4, .int .i64 nx, .int .i64 h6, .slice A n c] THd 5)
      have b6 : w2.cell? ⟨w.heap.size, 6, none⟩ = some (.slice A n c) := hx2.cell (cell_new w #[.int .i64 h1, .int .i64 h2, .int .i64 h3, .int .i64 h4, .int .i64 nx, .int .i64 h6, .slice A n c] THd 6)
      have gx2 : Ext w w2 := (Ext.alloc _ _).trans hx2
      clear hx2
      go_wp2_with fail
      go_ret
      exact ⟨rfl, gx2⟩
    have d3 : decide (1 ≤ nx) = true := decide_eq_true c3
    by_cases c4 : nx ≤ 1073741824
    case neg =>
      have d4 : decide (nx ≤ 1073741824) = false := decide_eq_false c4
      obtain rfl := rightH_no ht.out (numsB_no (by simp only; omega))
      clear ht
      go_enter Try.func21, Try.ntmps21
      go_wp2_with fail
      refine (header_Shape h2 h3 h4 _ HQ).mono ?_
      rintro e w2 ⟨rfl, hx2⟩
      have b0 : w2.cell? ⟨w.heap.size, 0, none⟩ = some (.int .i64 h1) := hx2.cell (cell_new w #[.int .i64 h1, .int .i64 h2, .int .i64 h3, .int .i64 h4, .int .i64 nx, .int .i64 h6, .slice A n c] THd 0)
      have b1 : w2.cell? ⟨w.heap.size, 1, none⟩ = some (.int .i64 h2) := hx2.cell (cell_new w #[.int .i64 h1, .int .i64 h2, .int .i64 h3, .int .i64 h4, .int .i64 nx, .int .i64 h6, .slice A n c] THd 1)
      have b2 : w2.cell? ⟨w.heap.size, 2, none⟩ = some (.int .i64 h3) := hx2.cell (cell_new w #[.int .i64 h1, .int .i64 h2, .int .i64 h3, .int .i64 h4, .int .i64 nx, .int .i64 h6, .slice A n c] THd 2)
      have b3 : w2.cell? ⟨w.heap.size, 3, none⟩ = some (.int .i64 h4) := hx2.cell (cell_new w #[.int .i64 h1, .int .i64 h2, .int .i64 h3, .int .i64 h4, .int .i64 nx, .int .i64 h6, .slice A n c] THd 3)
      have b4 : w2.cell? ⟨w.heap.size, 4, none⟩ = some (.int .i64 nx) := hx2.cell (cell_new w #[.int .i64 h1, .int .i64 h2, .int .i64 h3, .int .i64 h4, .int .i64 nx, .int .i64 h6, .slice A n c] THd 4)
      have b5 : w2.cell? ⟨w.heap.size, 5, none⟩ = some (.int .i64 h6) := hx2.cell (cell_new w #[.int .i64 h1, .int .i64 h2, .int .i64 h3, .int .i64 h4, .int .i64 nx, .int .i64 h6, .slice A n c] THd 5)
      have b6 : w2.cell? ⟨w.heap.size, 6, none⟩ = some (.slice A n c) := hx2.cell (cell_new w #[.int .i64 h1, .int .i64 h2, .int .i64 h3, .int .i64 h4, .int .i64 nx, .int .i64 h6, .slice A n c] THd 6)
      have gx2 : Ext w w2 := (Ext.alloc _ _).trans hx2
      clear hx2
      go_wp2_with fail
      go_ret
      exact ⟨rfl, gx2⟩
    have d4 : decide (nx ≤ 1073741824) = true := decide_eq_true c4
    by_cases c5 : 0 ≤ h6
    case neg =>
      have d5 : decide (0 ≤ h6) = false := decide_eq_false c5
      obtain rfl := rightH_no ht.out (numsB_no (by simp only; omega))
      clear ht
      go_enter Try.func21, Try.ntmps21
      go_wp2_with fail
      refine (header_Shape h2 h3 h4 _ HQ).mono ?_
      rintro e w2 ⟨rfl, hx2⟩
      have b0 : w2.cell? ⟨w.heap.size, 0, none⟩ = some (.int .i64 h1) := hx2.cell (cell_new w #[.int .i64 h1, .int .i64 h2, .int .i64 h3, .int .i64 h4, .int .i64 nx, .int .i64 h6, .slice A n c] THd 0)
      have b1 : w2.cell? ⟨w.heap.size, 1, none⟩ = some (.int .i64 h2) := hx2.cell (cell_new w #[.int .i64 h1, .int .i64 h2, .int .i64 h3, .int .i64 h4, .int .i64 nx, .int .i64 h6, .slice A n c] THd 1)
      have b2 : w2.cell? ⟨w.heap.size, 2, none⟩ = some (.int .i64 h3) := hx2.cell (cell_new w #[.int .i64 h1, .int .i64 h2, .int .i64 h3, .int .i64 h4, .int .i64 nx, .int .i64 h6, .slice A n c] THd 2)
      have b3 : w2.cell? ⟨w.heap.size, 3, none⟩ = some (.int .i64 h4) := hx2.cell (cell_new w #[.int .i64 h1, .int .i64 h2, .int .i64 h3, .int .i64 h4, .int .i64 nx, .int .i64 h6, .slice A n c] THd 3)
      have b4 : w2.cell? ⟨w.heap.size, 4, none⟩ = some (.int .i64 nx) := hx2.cell (cell_new w #[.int .i64 h1, .int .i64 h2, .int .i64 h3, .int .i64 h4, .int .i64 nx, .int .i64 h6, .slice A n c] THd 4)
      have b5 : w2.cell? ⟨w.heap.size, 5, none⟩ = some (.int .i64 h6) := hx2.cell (cell_new w #[.int .i64 h1, .int .i64 h2, .int .i64 h3, .int .i64 h4, .int .i64 nx, .int .i64 h6, .slice A n c] THd 5)
      have b6 : w2.cell? ⟨w.heap.size, 6, none⟩ = some (.slice A n c) := hx2.cell (cell_new w #[.int .i64 h1, .int .i64 h2, .int .i64 h3, .int .i64 h4, .int .i64 nx, .int .i64 h6, .slice A n c] THd 6)
      have gx2 : Ext w w2 := (Ext.alloc _ _).trans hx2
      clear hx2
      go_wp2_with fail
      go_ret
      exact ⟨rfl, gx2⟩
    have d5 : decide (0 ≤ h6) = true := decide_eq_true c5
    by_cases c6 : h6 ≤ 1099511627776
    case neg =>
      have d6 : decide (h6 ≤ 1099511627776) = false := decide_eq_false c6
      obtain rfl := rightH_no ht.out (numsB_no (by simp only; omega))
      clear ht
      go_enter Try.func21, Try.ntmps21
      go_wp2_with fail
      refine (header_Shape h2 h3 h4 _ HQ).mono ?_
      rintro e w2 ⟨rfl, hx2⟩
      have b0 : w2.cell? ⟨w.heap.size, 0, none⟩ = some (.int .i64 h1) := hx2.cell (cell_new w #[.int .i64 h1, .int .i64 h2, .int .i64 h3, .int .i64 h4, .int .i64 nx, .int .i64 h6, .slice A n c] THd 0)
      have b1 : w2.cell? ⟨w.heap.size, 1, none⟩ = some (.int .i64 h2) := hx2.cell (cell_new w #[.int .i64 h1, .int .i64 h2, .int .i64 h3, .int .i64 h4, .int .i64 nx, .int .i64 h6, .slice A n c] THd 1)
      have b2 : w2.cell? ⟨w.heap.size, 2, none⟩ = some (.int .i64 h3) := hx2.cell (cell_new w #[.int .i64 h1, .int .i64 h2, .int .i64 h3, .int .i64 h4, .int .i64 nx, .int .i64 h6, .slice A n c] THd 2)
      have b3 : w2.cell? ⟨w.heap.size, 3, none⟩ = some (.int .i64 h4) := hx2.cell (cell_new w #[.int .i64 h1, .int .i64 h2, .int .i64 h3, .int .i64 h4, .int .i64 nx, .int .i64 h6, .slice A n c] THd 3)
      have b4 : w2.cell? ⟨w.heap.size, 4, none⟩ = some (.int .i64 nx) := hx2.cell (cell_new w #[.int .i64 h1, .int .i64 h2, .int .i64 h3, .int .i64 h4, .int .i64 nx, .int .i64 h6, .slice A n c] THd 4)
      have b5 : w2.cell? ⟨w.heap.size, 5, none⟩ = some (.int .i64 h6) := hx2.cell (cell_new w #[.int .i64 h1, .int .i64 h2, .int .i64 h3, .int .i64 h4, .int .i64 nx, .int .i64 h6, .slice A n c] THd 5)
      have b6 : w2.cell? ⟨w.heap.size, 6, none⟩ = some (.slice A n c) := hx2.cell (cell_new w #[.int .i64 h1, .int .i64 h2, .int .i64 h3, .int .i64 h4, .int .i64 nx, .int .i64 h6, .slice A n c] THd 6)
      have gx2 : Ext w w2 := (Ext.alloc _ _).trans hx2
      clear hx2
      go_wp2_with fail
      go_ret
      exact ⟨rfl, gx2⟩
    have d6 : decide (h6 ≤ 1099511627776) = true := decide_eq_true c6
    have hm : Hid (marksB nx xs = t) := by
      unfold Hid
      rw [← ht.out]
      unfold rightH
      have hnb : numsB ⟨h1, h2, h3, h4, nx, h6, xs⟩ = true := numsB_iff.2 ⟨⟨c1, c2⟩, hsh.out, c3, c4, c5, c6⟩
      rw [hnb, Bool.true_and]
    clear ht hsh c4 c6
    go_enter Try.func21, Try.ntmps21
    go_wp2_with fail
    refine (header_Shape h2 h3 h4 _ HQ).mono ?_
    rintro e w2 ⟨rfl, hx2⟩
    have b0 : w2.cell? ⟨w.heap.size, 0, none⟩ = some (.int .i64 h1) := hx2.cell (cell_new w #[.int .i64 h1, .int .i64 h2, .int .i64 h3, .int .i64 h4, .int .i64 nx, .int .i64 h6, .slice A n c] THd 0)
    have b1 : w2.cell? ⟨w.heap.size, 1, none⟩ = some (.int .i64 h2) := hx2.cell (cell_new w #[.int .i64 h1, .int .i64 h2, .int .i64 h3, .int .i64 h4, .int .i64 nx, .int .i64 h6, .slice A n c] THd 1)
    have b2 : w2.cell? ⟨w.heap.size, 2, none⟩ = some (.int .i64 h3) := hx2.cell (cell_new w #[.int .i64 h1, .int .i64 h2, .int .i64 h3, .int .i64 h4, .int .i64 nx, .int .i64 h6, .slice A n c] THd 2)
    have b3 : w2.cell? ⟨w.heap.size, 3, none⟩ = some (.int .i64 h4) := hx2.cell (cell_new w #[.int .i64 h1, .int .i64 h2, .int .i64 h3, .int .i64 h4, .int .i64 nx, .int .i64 h6, .slice A n c] THd 3)
    have b4 : w2.cell? ⟨w.heap.size, 4, none⟩ = some (.int .i64 nx) := hx2.cell (cell_new w #[.int .i64 h1, .int .i64 h2, .int .i64 h3, .int .i64 h4, .int .i64 nx, .int .i64 h6, .slice A n c] THd 4)
    have b5 : w2.cell? ⟨w.heap.size, 5, none⟩ = some (.int .i64 h6) := hx2.cell (cell_new w #[.int .i64 h1, .int .i64 h2, .int .i64 h3, .int .i64 h4, .int .i64 nx, .int .i64 h6, .slice A n c] THd 5)
    have b6 : w2.cell? ⟨w.heap.size, 6, none⟩ = some (.slice A n c) := hx2.cell (cell_new w #[.int .i64 h1, .int .i64 h2, .int .i64 h3, .int .i64 h4, .int .i64 nx, .int .i64 h6, .slice A n c] THd 6)
    have gx2 : Ext w w2 := (Ext.alloc _ _).trans hx2
    clear hx2
    go_wp2_with fail
    refine (header_marks ⟨h1, h2, h3, h4, nx, h6, xs⟩ (hl.ext mk_rep gx2) hs hn1 hm).mono ?_
    rintro e w3 ⟨rfl, hx3⟩
    go_wp2_with fail
    go_ret
    exact ⟨rfl, gx2.trans hx3⟩
end Go.Proofs.Ytoeknbogaclfdaa
