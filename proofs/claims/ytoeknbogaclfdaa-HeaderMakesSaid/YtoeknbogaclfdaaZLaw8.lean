/-
  Chapter 8: the statements' own 'few' and 'known'.
-/
import Derived.Test.YtoeknbogaclfdaaZHdGet
import Derived.Test.YtoeknbogaclfdaaZHdSame
namespace Go.Proofs.Ytoeknbogaclfdaa
open Go.RowKit
set_option linter.unusedVariables false
set_option linter.unusedSimpArgs false
set_option linter.unnecessarySimpa false
set_option maxRecDepth 100000

def fewH (l : List Mk) : Bool := l.all (fun x => decide (x.nm.size ≤ 60)) && decide (l.length ≤ 40)
theorem fewH_iff {l : List Mk} : fewH l = true ↔ (∀ x ∈ l, x.nm.size ≤ 60) ∧ l.length ≤ 40 := by
  unfold fewH
  simp
set_option maxHeartbeats 1000000 in
theorem law8_few (h : Hd) {A : Option Addr} {n c : Nat} {w : World} (hl : Lst 4 mkR w A n c h.marks) (hs : Hid (∀ x ∈ h.marks, x.nm.size ≤ maxLen)) {res : Bool} (HR : Hid (fewH h.marks = res)) :
    Calls Try.prog 28 #[hdV h A n c] w fun e w' => e = .returned (.bool res) ∧ Ext w w' := by
  have h63 := hl.n63
  obtain ⟨h1, h2, h3, h4, nx, sq, xs⟩ := h
  simp only at hl HR hs
  go_enter Try.func28, Try.ntmps28
  go_wp2_with fail
  obtain ⟨w1, hw1⟩ : ∃ q, q = w.alloc (.cells #[.int .i64 h1, .int .i64 h2, .int .i64 h3, .int .i64 h4, .int .i64 nx, .int .i64 sq, .slice A n c] THd) := ⟨_, rfl⟩
  have hx1 : Ext w w1 := by rw [hw1]; exact Ext.alloc _ _
  have b6 : w1.cell? ⟨w.heap.size, 6, none⟩ = some (.slice A n c) := by rw [hw1]; exact cell_new _ _ _ 6
  rw [← hw1]
  clear hw1
  go_loopw [3] (fun i wr => ∃ (k : Nat), k ≤ n ∧ i = .int .i64 k ∧ Hid (∀ x ∈ xs.take k, x.nm.size ≤ 60) ∧ Ext w1 wr) (fun i _ => n - (intOf i).toNat)
  case atStart => exact ⟨0, by omega, rfl, by intro x hx; simp at hx, Ext.refl _⟩
  case round =>
    obtain ⟨k, hk, rfl, hall, hxr⟩ := hrel
    have gxr := hx1.trans hxr
    replace b6 := hxr.cell b6
    by_cases hlt : k < n
    · obtain ⟨ga, oa, x, cs, rfl, hx, rfl, ha⟩ := hl.at2 mk_rep (by omega) hlt
      have a1 := gxr.cell (ha 1 _ rfl)
      have hsz := hs.out x (List.mem_of_getElem? hx)
      unfold maxLen at hsz
      obtain ⟨x1, x2, x3, x4⟩ := x
      simp only at a1 hsz
      by_cases hb : 60 < x2.size
      · obtain rfl : false = res := by
          rw [← HR.out]
          symm
          rw [Bool.eq_false_iff]
          intro e
          have := (fewH_iff.1 e).1 _ (List.mem_of_getElem? hx)
          simp only at this
          omega
        clear hall hx HR ha
        go_wp2_with fail
        go_ret
        exact ⟨rfl, gxr⟩
      · have HA : Hid (∀ x ∈ xs.take (k + 1), x.nm.size ≤ 60) := by
          intro y hy
          rw [List.take_add_one, hx] at hy
          rcases List.mem_append.1 hy with hy | hy
          · exact hall.out y hy
          · simp at hy; subst hy; simp only; omega
        clear hall hx ha
        go_wp2_with fail
        go_roundw
        case rel => exact ⟨k + 1, by omega, by go_num, HA, hxr⟩
        case measure => simp [intOf]; omega
    · obtain rfl : k = n := by omega
      have e2 := hall.out
      rw [List.take_of_length_le (by rw [hl.len]; exact Nat.le_refl _)] at e2
      have hrr : res = decide ((k : Int) ≤ 40) := by
        rw [← HR.out]
        unfold fewH
        have : xs.all (fun x => decide (x.nm.size ≤ 60)) = true := by simpa using e2
        rw [this, hl.len, Bool.true_and, decide_eq_decide]
        omega
      subst hrr
      clear hall e2 HR
      go_wp2_with fail
      go_ret
      exact ⟨rfl, gxr⟩

abbrev kM : Mk := ⟨1, ⟨#[97]⟩, 4, false⟩
abbrev kH : Hd := ⟨8, 3, 2, 1, 2, 0, [kM]⟩
theorem known8_r : rightH kH = true := by decide +kernel
theorem known8_len : (putH kH).length ≤ 100 := by decide +kernel
theorem known8_open : crcOpen [] = none := by decide +kernel
theorem known8_none : getH false [] = none := getH_open known8_open
theorem known8_get : getH false (putH kH) = some kH := getH_iff.2 ⟨known8_r, rfl⟩
theorem known8_find : findM [kM] ⟨#[97]⟩ = some kM := by decide +kernel
theorem known8_new : newestI [kM] = 1 := by decide +kernel
theorem known8_shape : shapeB 3 4 1 = false := by decide +kernel
theorem getH_why {rf : Bool} {b : List UInt8} {h : Hd} (hg : getH rf b = some h) : whyO (crcOpen b) true = 0 := by
  unfold getH at hg
  obtain ⟨c, hc, _⟩ := Option.bind_eq_some_iff.1 hg
  rw [hc]
  rfl
set_option maxHeartbeats 2000000 in
theorem law8_known (w : World) : Calls Try.prog 17 #[] w fun e w' => e = .returned (.bool true) ∧ Ext w w' := by
  have R1 := Lib.hid known8_r
  obtain ⟨F, hF⟩ : ∃ F, putH kH = F := ⟨_, rfl⟩
  have HL : Hid (putHr kH true = F) := hF
  have hg := known8_get
  have hl := known8_len
  rw [hF] at hg hl
  have HG := Lib.hid hg
  have HW : Hid (whyO (crcOpen F) (some kH).isSome = 0) := getH_why hg
  have HG0 := Lib.hid known8_none
  have HW0 : Hid (whyO (crcOpen []) (none : Option Hd).isSome = 13) := by unfold Hid; rw [known8_open]; rfl
  have HFI := Lib.hid known8_find
  have HNE := Lib.hid known8_new
  have HSH := Lib.hid known8_shape
  have HLN := Lib.hid hl
  have HS : Hid (Shorts [kM]) := by intro x hx; simp at hx; subst hx; decide
  have HSA : Hid (sameHd kH kH = true) := by unfold Hid sameHd; simp
  clear hF hg hl
  go_enter Try.func17, Try.ntmps17
  go_wp2_with fail
  have lit := (mk_lit w kM).lst
  obtain ⟨wa, hwa⟩ : ∃ q, q = w.alloc (.cells #[.int .i64 1, .string ⟨#[97]⟩, .int .i64 4, .bool false] TMk) := ⟨_, rfl⟩
  obtain ⟨w1, hw1⟩ : ∃ q, q = wa.alloc (.cells #[.int .i64 8, .int .i64 3, .int .i64 2, .int .i64 1, .int .i64 2, .int .i64 0, .slice (some ⟨w.heap.size, 0, none⟩) 1 1] THd) := ⟨_, rfl⟩
  have hxa : Ext w wa := by rw [hwa]; exact Ext.alloc _ _
  have hxb : Ext wa w1 := by rw [hw1]; exact Ext.alloc _ _
  have gx1 := hxa.trans hxb
  have hsz : wa.heap.size = w.heap.size + 1 := by rw [hwa]; simp
  have l1 : Lst 4 mkR w1 (some ⟨w.heap.size, 0, none⟩) 1 1 [kM] := by
    rw [← hwa] at lit
    exact lit.ext mk_rep hxb
  have b0 : w1.cell? ⟨w.heap.size + 1, 0, none⟩ = some (.int .i64 8) := by rw [hw1, ← hsz]; exact cell_new _ _ _ 0
  have b1 : w1.cell? ⟨w.heap.size + 1, 1, none⟩ = some (.int .i64 3) := by rw [hw1, ← hsz]; exact cell_new _ _ _ 1
  have b2 : w1.cell? ⟨w.heap.size + 1, 2, none⟩ = some (.int .i64 2) := by rw [hw1, ← hsz]; exact cell_new _ _ _ 2
  have b3 : w1.cell? ⟨w.heap.size + 1, 3, none⟩ = some (.int .i64 1) := by rw [hw1, ← hsz]; exact cell_new _ _ _ 3
  have b4 : w1.cell? ⟨w.heap.size + 1, 4, none⟩ = some (.int .i64 2) := by rw [hw1, ← hsz]; exact cell_new _ _ _ 4
  have b5 : w1.cell? ⟨w.heap.size + 1, 5, none⟩ = some (.int .i64 0) := by rw [hw1, ← hsz]; exact cell_new _ _ _ 5
  have b6 : w1.cell? ⟨w.heap.size + 1, 6, none⟩ = some (.slice (some ⟨w.heap.size, 0, none⟩) 1 1) := by rw [hw1, ← hsz]; exact cell_new _ _ _ 6
  rw [← hwa, ← hw1]
  clear hwa hw1 hsz hxa hxb lit wa
  refine (header_Put kH l1 HS (by omega) R1 HL).mono ?_
  rintro e w2 ⟨A2, n2, c2, rfl, hb2, hx2⟩
  rw [show (if true = true then (0 : Int) else 1) = 0 from rfl]
  have hn2 : n2 ≤ 100 := by rw [← hb2.len]; exact HLN.out
  replace b0 := hx2.cell b0
  replace b1 := hx2.cell b1
  replace b2 := hx2.cell b2
  replace b3 := hx2.cell b3
  replace b4 := hx2.cell b4
  replace b5 := hx2.cell b5
  replace b6 := hx2.cell b6
  have gx2 := gx1.trans hx2
  replace l1 := l1.ext mk_rep hx2
  clear gx1 hx2
  go_wp2_with fail
  have hgc := header_Get hb2.sl (by omega) HG HW
  simp only [Option.getD_some] at hgc
  refine hgc.mono ?_
  rintro e w3 ⟨A3, n3, c3, rfl, h3, hx3⟩
  clear hgc
  obtain rfl : n3 = 1 := h3.len.symm
  obtain ⟨w4, hw4⟩ : ∃ q, q = w3.alloc (.cells #[.int .i64 8, .int .i64 3, .int .i64 2, .int .i64 1, .int .i64 2, .int .i64 0, .slice A3 1 c3] THd) := ⟨_, rfl⟩
  have hx4 : Ext w3 w4 := by rw [hw4]; exact Ext.alloc _ _
  have d0 : w4.cell? ⟨w3.heap.size, 0, none⟩ = some (.int .i64 8) := by rw [hw4]; exact cell_new _ _ _ 0
  replace b0 := (hx3.trans hx4).cell b0
  have d1 : w4.cell? ⟨w3.heap.size, 1, none⟩ = some (.int .i64 3) := by rw [hw4]; exact cell_new _ _ _ 1
  replace b1 := (hx3.trans hx4).cell b1
  have d2 : w4.cell? ⟨w3.heap.size, 2, none⟩ = some (.int .i64 2) := by rw [hw4]; exact cell_new _ _ _ 2
  replace b2 := (hx3.trans hx4).cell b2
  have d3 : w4.cell? ⟨w3.heap.size, 3, none⟩ = some (.int .i64 1) := by rw [hw4]; exact cell_new _ _ _ 3
  replace b3 := (hx3.trans hx4).cell b3
  have d4 : w4.cell? ⟨w3.heap.size, 4, none⟩ = some (.int .i64 2) := by rw [hw4]; exact cell_new _ _ _ 4
  replace b4 := (hx3.trans hx4).cell b4
  have d5 : w4.cell? ⟨w3.heap.size, 5, none⟩ = some (.int .i64 0) := by rw [hw4]; exact cell_new _ _ _ 5
  replace b5 := (hx3.trans hx4).cell b5
  have d6 : w4.cell? ⟨w3.heap.size, 6, none⟩ = some (.slice A3 1 c3) := by rw [hw4]; exact cell_new _ _ _ 6
  replace b6 := (hx3.trans hx4).cell b6
  have gx4 := (gx2.trans hx3).trans hx4
  replace l1 := l1.ext mk_rep (hx3.trans hx4)
  have l3 := h3.lst.ext mk_rep hx4
  clear gx2 hx3 hx4 h3 hb2
  go_wp2_with fail
  rw [← hw4]
  clear hw4
  have hgc := header_Get (Sl.nil w4) (by omega) HG0 HW0
  simp only [Option.getD_none, hd0] at hgc
  refine hgc.mono ?_
  rintro e w5 ⟨A5, n5, c5, rfl, h5, hx5⟩
  clear hgc
  obtain rfl : n5 = 0 := h5.len.symm
  have hx6 : Ext w4 (w5.alloc (.cells #[.int .i64 0, .int .i64 0, .int .i64 0, .int .i64 0, .int .i64 0, .int .i64 0, .slice A5 0 c5] THd)) := hx5.allocs _
  replace d0 := hx6.cell d0
  replace b0 := hx6.cell b0
  replace d1 := hx6.cell d1
  replace b1 := hx6.cell b1
  replace d2 := hx6.cell d2
  replace b2 := hx6.cell b2
  replace d3 := hx6.cell d3
  replace b3 := hx6.cell b3
  replace d4 := hx6.cell d4
  replace b4 := hx6.cell b4
  replace d5 := hx6.cell d5
  replace b5 := hx6.cell b5
  replace d6 := hx6.cell d6
  replace b6 := hx6.cell b6
  have gx6 := gx4.trans hx6
  replace l1 := l1.ext mk_rep hx6
  replace l3 := l3.ext mk_rep hx6
  clear gx4 hx5 hx6 h5
  go_wp2_with fail
  have hfc := header_Find kH ⟨#[97]⟩ l1 HS HFI
  simp only [Option.getD_some, Option.isSome_some] at hfc
  refine hfc.mono ?_
  rintro e w7 ⟨rfl, hx7⟩
  clear hfc
  have hx8 := hx7.allocs (.cells #[.int .i64 1, .string ⟨#[97]⟩, .int .i64 4, .bool false] TMk)
  replace d0 := hx8.cell d0
  replace b0 := hx8.cell b0
  replace d1 := hx8.cell d1
  replace b1 := hx8.cell b1
  replace d2 := hx8.cell d2
  replace b2 := hx8.cell b2
  replace d3 := hx8.cell d3
  replace b3 := hx8.cell b3
  replace d4 := hx8.cell d4
  replace b4 := hx8.cell b4
  replace d5 := hx8.cell d5
  replace b5 := hx8.cell b5
  replace d6 := hx8.cell d6
  replace b6 := hx8.cell b6
  have gx8 := gx6.trans hx8
  replace l1 := l1.ext mk_rep hx8
  replace l3 := l3.ext mk_rep hx8
  have hx78 := Ext.alloc w7 (.cells #[.int .i64 1, .string ⟨#[97]⟩, .int .i64 4, .bool false] TMk)
  clear gx6 hx7 hx8
  go_wp2_with fail
  refine (ref_SameHead kH kH l3 l1 HSA).mono ?_
  rintro e w9 ⟨rfl, hx9⟩
  have e0 := hx9.cell (cell_new w7 #[.int .i64 1, .string ⟨#[97]⟩, .int .i64 4, .bool false] TMk 0)
  replace b0 := hx9.cell b0
  replace b1 := hx9.cell b1
  replace b2 := hx9.cell b2
  replace b3 := hx9.cell b3
  replace b4 := hx9.cell b4
  replace b5 := hx9.cell b5
  replace b6 := hx9.cell b6
  have gx9 := gx8.trans hx9
  replace l1 := l1.ext mk_rep hx9
  clear gx8 hx9 hx78 d0 d1 d2 d3 d4 d5 d6
  go_wp2_with fail
  refine (header_Newest kH l1 HNE).mono ?_
  rintro e w10 ⟨rfl, hx10⟩
  have gx10 := gx9.trans hx10
  clear gx9 hx10
  go_wp2_with fail
  refine (header_Shape 3 4 1 _ HSH).mono ?_
  rintro e w11 ⟨rfl, hx11⟩
  go_wp2_with fail
  go_ret
  exact ⟨rfl, gx10.trans hx11⟩
end Go.Proofs.Ytoeknbogaclfdaa
