/-
  Chapter 9: the statements' own seven, and Make of the kinds without entries.
-/
import Derived.Test.YtoeknbogaclfdaaZFromFrameTakeToInts
import Derived.Test.YtoeknbogaclfdaaZMsParse2
import Derived.Test.YtoeknbogaclfdaaZFromTagNextToGrow
import Derived.Deep.DeepCutAuto
import Derived.RegionTactic
import Derived.BigRegion
namespace Go.Proofs.Ytoeknbogaclfdaa
open Go.RowKit
set_option linter.unusedVariables false
set_option linter.unusedSimpArgs false
set_option linter.unnecessarySimpa false
set_option maxRecDepth 100000
abbrev T7 : TypeId := 66
set_option maxHeartbeats 4000000 in
theorem law9_seven {A : Option Addr} {n c : Nat} {l : List Int} {w : World} (hl : Lst 1 intR w A n c l) :
    Calls Try.prog 41 #[.slice A n c] w fun e w' => e = .returned (.agg #[.int .i64 (svI l 0), .int .i64 (svI l 1), .int .i64 (svI l 2), .int .i64 (svI l 3), .int .i64 (svI l 4), .int .i64 (svI l 5), .int .i64 (svI l 6)]) ∧ Ext w w' := by
  have h63 := hl.n63
  have hlen := hl.len
  have hv : ∀ (i : Nat) (v : Int), l[i]? = some v → svI l i = v := by
    intro i v h
    unfold svI
    rw [List.getD_eq_getElem?_getD, h]
    rfl
  have h0 : ∀ i : Nat, n ≤ i → svI l i = 0 := by
    intro i h
    unfold svI
    rw [List.getD_eq_getElem?_getD, List.getElem?_eq_none (by omega)]
    rfl
  have HV := Lib.hid hv
  have H0 := Lib.hid h0
  obtain ⟨s0, hs0⟩ : ∃ z, svI l 0 = z := ⟨_, rfl⟩
  obtain ⟨s1, hs1⟩ : ∃ z, svI l 1 = z := ⟨_, rfl⟩
  obtain ⟨s2, hs2⟩ : ∃ z, svI l 2 = z := ⟨_, rfl⟩
  obtain ⟨s3, hs3⟩ : ∃ z, svI l 3 = z := ⟨_, rfl⟩
  obtain ⟨s4, hs4⟩ : ∃ z, svI l 4 = z := ⟨_, rfl⟩
  obtain ⟨s5, hs5⟩ : ∃ z, svI l 5 = z := ⟨_, rfl⟩
  obtain ⟨s6, hs6⟩ : ∃ z, svI l 6 = z := ⟨_, rfl⟩
  rw [hs0, hs1, hs2, hs3, hs4, hs5, hs6]
  have HS := Lib.hid (And.intro hs0 (And.intro hs1 (And.intro hs2 (And.intro hs3 (And.intro hs4 (And.intro hs5 hs6))))))
  clear hv h0 hs0 hs1 hs2 hs3 hs4 hs5 hs6 hlen
  go_enter Try.func41, Try.ntmps41
  go_wp2_with fail
  go_loopw [4] (fun i wr => ∃ (k : Nat) (y0 y1 y2 y3 y4 y5 y6 : Int), k ≤ 7 ∧ k ≤ n ∧ i = .int .i64 (k : Int) ∧ wr = (w.alloc (.cells #[.int .i64 0, .int .i64 0, .int .i64 0, .int .i64 0, .int .i64 0, .int .i64 0, .int .i64 0] T7)).alloc (.cells #[.int .i64 y0, .int .i64 y1, .int .i64 y2, .int .i64 y3, .int .i64 y4, .int .i64 y5, .int .i64 y6] T7) ∧ Hid (y0 = (if 0 < k then s0 else 0) ∧ y1 = (if 1 < k then s1 else 0) ∧ y2 = (if 2 < k then s2 else 0) ∧ y3 = (if 3 < k then s3 else 0) ∧ y4 = (if 4 < k then s4 else 0) ∧ y5 = (if 5 < k then s5 else 0) ∧ y6 = (if 6 < k then s6 else 0))) (fun i _ => 7 - (intOf i).toNat)
  case atStart => exact ⟨0, 0, 0, 0, 0, 0, 0, 0, by omega, by omega, rfl, rfl, by simp [Hid]⟩
  case round =>
    obtain ⟨k, y0, y1, y2, y3, y4, y5, y6, hk7, hkn, rfl, rfl, hy⟩ := hrel
    by_cases hlt : k < 7 ∧ k < n
    · obtain ⟨hlt7, hltn⟩ := hlt
      obtain ⟨ge, oe, v, rfl, hv, e0⟩ := hl.atI hltn
      have hsv := HV.out k v hv
      replace e0 := (((Ext.alloc w (.cells #[.int .i64 0, .int .i64 0, .int .i64 0, .int .i64 0, .int .i64 0, .int .i64 0, .int .i64 0] T7))).allocs (.cells #[.int .i64 y0, .int .i64 y1, .int .i64 y2, .int .i64 y3, .int .i64 y4, .int .i64 y5, .int .i64 y6] T7)).cell e0
      have hj8 : k = 0 ∨ k = 1 ∨ k = 2 ∨ k = 3 ∨ k = 4 ∨ k = 5 ∨ k = 6 := by omega
      have hn0 : 0 < n := by omega
      rcases hj8 with rfl | rfl | rfl | rfl | rfl | rfl | rfl
      · have hy2 : v = s0 := by rw [← hsv]; exact HS.out.1
        have HY : Hid (v = s0 ∧ (y0 = (if 0 < 0 then s0 else 0) ∧ y1 = (if 1 < 0 then s1 else 0) ∧ y2 = (if 2 < 0 then s2 else 0) ∧ y3 = (if 3 < 0 then s3 else 0) ∧ y4 = (if 4 < 0 then s4 else 0) ∧ y5 = (if 5 < 0 then s5 else 0) ∧ y6 = (if 6 < 0 then s6 else 0))) := ⟨hy2, hy.out⟩
        clear hsv hv hy hy2
        try rw [Nat.add_zero] at e0
        go_wp2_with fail
        go_roundw
        case rel => exact ⟨1, v, y1, y2, y3, y4, y5, y6, by omega, by omega, rfl, rfl, by have hq := HY.out; unfold Hid; simp at hq ⊢; simp [hq]⟩
        case measure => simp [intOf]
      · have hy2 : v = s1 := by rw [← hsv]; exact HS.out.2.1
        have HY : Hid (v = s1 ∧ (y0 = (if 0 < 1 then s0 else 0) ∧ y1 = (if 1 < 1 then s1 else 0) ∧ y2 = (if 2 < 1 then s2 else 0) ∧ y3 = (if 3 < 1 then s3 else 0) ∧ y4 = (if 4 < 1 then s4 else 0) ∧ y5 = (if 5 < 1 then s5 else 0) ∧ y6 = (if 6 < 1 then s6 else 0))) := ⟨hy2, hy.out⟩
        clear hsv hv hy hy2
        try rw [Nat.add_zero] at e0
        go_wp2_with fail
        go_roundw
        case rel => exact ⟨2, y0, v, y2, y3, y4, y5, y6, by omega, by omega, rfl, rfl, by have hq := HY.out; unfold Hid; simp at hq ⊢; simp [hq]⟩
        case measure => simp [intOf]
      · have hy2 : v = s2 := by rw [← hsv]; exact HS.out.2.2.1
        have HY : Hid (v = s2 ∧ (y0 = (if 0 < 2 then s0 else 0) ∧ y1 = (if 1 < 2 then s1 else 0) ∧ y2 = (if 2 < 2 then s2 else 0) ∧ y3 = (if 3 < 2 then s3 else 0) ∧ y4 = (if 4 < 2 then s4 else 0) ∧ y5 = (if 5 < 2 then s5 else 0) ∧ y6 = (if 6 < 2 then s6 else 0))) := ⟨hy2, hy.out⟩
        clear hsv hv hy hy2
        try rw [Nat.add_zero] at e0
        go_wp2_with fail
        go_roundw
        case rel => exact ⟨3, y0, y1, v, y3, y4, y5, y6, by omega, by omega, rfl, rfl, by have hq := HY.out; unfold Hid; simp at hq ⊢; simp [hq]⟩
        case measure => simp [intOf]
      · have hy2 : v = s3 := by rw [← hsv]; exact HS.out.2.2.2.1
        have HY : Hid (v = s3 ∧ (y0 = (if 0 < 3 then s0 else 0) ∧ y1 = (if 1 < 3 then s1 else 0) ∧ y2 = (if 2 < 3 then s2 else 0) ∧ y3 = (if 3 < 3 then s3 else 0) ∧ y4 = (if 4 < 3 then s4 else 0) ∧ y5 = (if 5 < 3 then s5 else 0) ∧ y6 = (if 6 < 3 then s6 else 0))) := ⟨hy2, hy.out⟩
        clear hsv hv hy hy2
        try rw [Nat.add_zero] at e0
        go_wp2_with fail
        go_roundw
        case rel => exact ⟨4, y0, y1, y2, v, y4, y5, y6, by omega, by omega, rfl, rfl, by have hq := HY.out; unfold Hid; simp at hq ⊢; simp [hq]⟩
        case measure => simp [intOf]
      · have hy2 : v = s4 := by rw [← hsv]; exact HS.out.2.2.2.2.1
        have HY : Hid (v = s4 ∧ (y0 = (if 0 < 4 then s0 else 0) ∧ y1 = (if 1 < 4 then s1 else 0) ∧ y2 = (if 2 < 4 then s2 else 0) ∧ y3 = (if 3 < 4 then s3 else 0) ∧ y4 = (if 4 < 4 then s4 else 0) ∧ y5 = (if 5 < 4 then s5 else 0) ∧ y6 = (if 6 < 4 then s6 else 0))) := ⟨hy2, hy.out⟩
        clear hsv hv hy hy2
        try rw [Nat.add_zero] at e0
        go_wp2_with fail
        go_roundw
        case rel => exact ⟨5, y0, y1, y2, y3, v, y5, y6, by omega, by omega, rfl, rfl, by have hq := HY.out; unfold Hid; simp at hq ⊢; simp [hq]⟩
        case measure => simp [intOf]
      · have hy2 : v = s5 := by rw [← hsv]; exact HS.out.2.2.2.2.2.1
        have HY : Hid (v = s5 ∧ (y0 = (if 0 < 5 then s0 else 0) ∧ y1 = (if 1 < 5 then s1 else 0) ∧ y2 = (if 2 < 5 then s2 else 0) ∧ y3 = (if 3 < 5 then s3 else 0) ∧ y4 = (if 4 < 5 then s4 else 0) ∧ y5 = (if 5 < 5 then s5 else 0) ∧ y6 = (if 6 < 5 then s6 else 0))) := ⟨hy2, hy.out⟩
        clear hsv hv hy hy2
        try rw [Nat.add_zero] at e0
        go_wp2_with fail
        go_roundw
        case rel => exact ⟨6, y0, y1, y2, y3, y4, v, y6, by omega, by omega, rfl, rfl, by have hq := HY.out; unfold Hid; simp at hq ⊢; simp [hq]⟩
        case measure => simp [intOf]
      · have hy2 : v = s6 := by rw [← hsv]; exact HS.out.2.2.2.2.2.2
        have HY : Hid (v = s6 ∧ (y0 = (if 0 < 6 then s0 else 0) ∧ y1 = (if 1 < 6 then s1 else 0) ∧ y2 = (if 2 < 6 then s2 else 0) ∧ y3 = (if 3 < 6 then s3 else 0) ∧ y4 = (if 4 < 6 then s4 else 0) ∧ y5 = (if 5 < 6 then s5 else 0) ∧ y6 = (if 6 < 6 then s6 else 0))) := ⟨hy2, hy.out⟩
        clear hsv hv hy hy2
        try rw [Nat.add_zero] at e0
        go_wp2_with fail
        go_roundw
        case rel => exact ⟨7, y0, y1, y2, y3, y4, y5, v, by omega, by omega, rfl, rfl, by have hq := HY.out; unfold Hid; simp at hq ⊢; simp [hq]⟩
        case measure => simp [intOf]
    · have hys : Hid (y0 = s0 ∧ y1 = s1 ∧ y2 = s2 ∧ y3 = s3 ∧ y4 = s4 ∧ y5 = s5 ∧ y6 = s6) := by
        have q := hy.out
        have z := HS.out
        have hz : ∀ i : Nat, ¬ i < k → i < 7 → svI l i = 0 := fun i hi h7 => H0.out i (by omega)
        refine ⟨?_, ?_, ?_, ?_, ?_, ?_, ?_⟩
        · rw [q.1]; split <;> first | rfl | (rw [← z.1]; exact (hz 0 ‹_› (by omega)).symm)
        · rw [q.2.1]; split <;> first | rfl | (rw [← z.2.1]; exact (hz 1 ‹_› (by omega)).symm)
        · rw [q.2.2.1]; split <;> first | rfl | (rw [← z.2.2.1]; exact (hz 2 ‹_› (by omega)).symm)
        · rw [q.2.2.2.1]; split <;> first | rfl | (rw [← z.2.2.2.1]; exact (hz 3 ‹_› (by omega)).symm)
        · rw [q.2.2.2.2.1]; split <;> first | rfl | (rw [← z.2.2.2.2.1]; exact (hz 4 ‹_› (by omega)).symm)
        · rw [q.2.2.2.2.2.1]; split <;> first | rfl | (rw [← z.2.2.2.2.2.1]; exact (hz 5 ‹_› (by omega)).symm)
        · rw [q.2.2.2.2.2.2]; split <;> first | rfl | (rw [← z.2.2.2.2.2.2]; exact (hz 6 ‹_› (by omega)).symm)
      obtain ⟨rfl, rfl, rfl, rfl, rfl, rfl, rfl⟩ := hys.out
      clear hy hys
      by_cases h7 : k < 7
      · have hkn2 : decide ((k : Int) < (n : Int)) = false := by simp; omega
        have hk72 : decide ((k : Int) < 7) = true := by simp; omega
        go_wp2_with fail
        refine bodyPost_ret (v := .agg #[.int .i64 y0, .int .i64 y1, .int .i64 y2, .int .i64 y3, .int .i64 y4, .int .i64 y5, .int .i64 y6]) ?hres rfl ⟨rfl, ?hxx⟩
        case hres => simp [results, Try.results41, go_sem]
        case hxx => (repeat (first | (with_reducible exact Ext.refl _) | (with_reducible assumption) | (with_reducible refine Ext.draws ?_) | (with_reducible refine Ext.allocs ?_ _) | (with_reducible refine Ext.sets ?_ ?_ _) | (with_reducible exact Nat.le_refl _) | (exact (by simp)) | (exact (by simp; omega))))
      · have hk72 : decide ((k : Int) < 7) = false := by simp; omega
        go_wp2_with fail
        refine bodyPost_ret (v := .agg #[.int .i64 y0, .int .i64 y1, .int .i64 y2, .int .i64 y3, .int .i64 y4, .int .i64 y5, .int .i64 y6]) ?hres rfl ⟨rfl, ?hxx⟩
        case hres => simp [results, Try.results41, go_sem]
        case hxx => (repeat (first | (with_reducible exact Ext.refl _) | (with_reducible assumption) | (with_reducible refine Ext.draws ?_) | (with_reducible refine Ext.allocs ?_ _) | (with_reducible refine Ext.sets ?_ ?_ _) | (with_reducible exact Nat.le_refl _) | (exact (by simp)) | (exact (by simp; omega))))
abbrev zeroM' : Array Value := nilC 0 0 0 0 0 0
set_option maxHeartbeats 8000000 in
theorem law9_Make_1 {kind : Int} {A : Option Addr} {n c : Nat} {l : List Int} {A' : Option Addr} {n' c' : Nat} {p : List UInt8} {w : World} (hl : Lst 1 intR w A n c l) (hn : n ≤ 1000) (hp : Sl w A' n' c' p) {s0 s1 s2 s3 s4 : Int} (HS : Hid (svI l 0 = s0 ∧ svI l 1 = s1 ∧ svI l 2 = s2 ∧ svI l 3 = s3 ∧ svI l 4 = s4)) {n0 : Nat} (hn0 : bits BinOp.and IntKind.i64 s0 1048575 = (n0 : Int)) (hn0b : n0 ≤ 1048575) {u0 : Nat} (hu0 : bits BinOp.and IntKind.i64 kind 255 = (u0 : Int)) (hub : u0 ≤ 255) (hK : (u0 : Int) % 9 = 0) {p1 p2 : Nat} (hp1 : bits BinOp.and IntKind.i64 s1 65535 = (p1 : Int)) (hp1b : p1 ≤ 65535) (hp2 : bits BinOp.and IntKind.i64 s2 65535 = (p2 : Int)) (hp2b : p2 ≤ 65535) :
    Calls Try.prog 12 #[.int .i64 kind, .slice A n c, .slice A' n' c'] w fun e w' => ∃ B1 Bn1 Bc1 B2 Bn2 Bc2 B3 Bn3 Bc3 B4 Bn4 Bc4, e = .returned (msV ⟨1, 1 + (n0 : Int), (p1 : Int), (p2 : Int), 0, 0, [], [], [], []⟩ B1 Bn1 Bc1 B2 Bn2 Bc2 B3 Bn3 Bc3 B4 Bn4 Bc4) ∧ MsR w' ⟨1, 1 + (n0 : Int), (p1 : Int), (p2 : Int), 0, 0, [], [], [], []⟩ B1 Bn1 Bc1 B2 Bn2 Bc2 B3 Bn3 Bc3 B4 Bn4 Bc4 ∧ Ext w w' := by
  go_enter Try.func12, Try.ntmps12
  go_wp2_with fail
  refine (law9_seven (hl.ext int_rep (Ext.alloc _ _))).mono ?_
  rintro e w2 ⟨rfl, hx2⟩
  rw [HS.out.1, HS.out.2.1, HS.out.2.2.1, HS.out.2.2.2.1, HS.out.2.2.2.2]
  obtain ⟨s5, hs5⟩ : ∃ z, svI l 5 = z := ⟨_, rfl⟩
  obtain ⟨s6, hs6⟩ : ∃ z, svI l 6 = z := ⟨_, rfl⟩
  rw [hs5, hs6]
  clear hs5 hs6
  have gx2 : Ext w w2 := (Ext.alloc _ _).trans hx2
  have hlt2 : w.heap.size < w2.heap.size := World.block_lt_of_cell? _ _ (hx2.cell (cell_new w zeroM' TMs 0))
  obtain ⟨W, hW⟩ : ∃ W, W = (w2.alloc (.cells #[.int .i64 s0, .int .i64 s1, .int .i64 s2, .int .i64 s3, .int .i64 s4, .int .i64 s5, .int .i64 s6] T7)).alloc (.cells (nilC 1 (1 + (n0 : Int)) 0 0 0 0) TMs) := ⟨_, rfl⟩
  have bk6 : W.heap[w.heap.size]? = some (.cells zeroM' TMs (0, 0)) := by
    rw [hW]
    exact blk_ext (blk_ext (blk_ext (heap_alloc_new w _) hx2) (Ext.alloc _ _)) (Ext.alloc _ _)
  have bk7 : W.heap[w2.heap.size]? = some (.cells #[.int .i64 s0, .int .i64 s1, .int .i64 s2, .int .i64 s3, .int .i64 s4, .int .i64 s5, .int .i64 s6] T7 (0, 0)) := by
    rw [hW]
    exact blk_ext (heap_alloc_new w2 _) (Ext.alloc _ _)
  have bk8 : W.heap[w2.heap.size + 1]? = some (.cells (nilC 1 (1 + (n0 : Int)) 0 0 0 0) TMs (0, 0)) := by
    rw [hW]
    have e : (w2.alloc (.cells #[.int .i64 s0, .int .i64 s1, .int .i64 s2, .int .i64 s3, .int .i64 s4, .int .i64 s5, .int .i64 s6] T7)).heap.size = w2.heap.size + 1 := by simp
    have := heap_alloc_new (w2.alloc (.cells #[.int .i64 s0, .int .i64 s1, .int .i64 s2, .int .i64 s3, .int .i64 s4, .int .i64 s5, .int .i64 s6] T7)) (.cells (nilC 1 (1 + (n0 : Int)) 0 0 0 0) TMs)
    rw [e] at this
    exact this
  have gxW : Ext w W := by rw [hW]; exact (gx2.allocs _).allocs _
  have hszW : W.heap.size = w2.heap.size + 2 := by rw [hW]; simp
  have HSZ := Lib.hid hszW
  have hq8 : w.heap.size ≤ w2.heap.size + 1 := by omega
  clear hszW hx2
  have x0 := blk_cell bk7 0
  have x1 := blk_cell bk7 1
  have x2 := blk_cell bk7 2
  have x3 := blk_cell bk7 3
  have x4 := blk_cell bk7 4
  have x5 := blk_cell bk7 5
  have x6 := blk_cell bk7 6
  have y0 := blk_cell bk8 0
  have z0 := blk_frozen bk8 0
  have k0 := blk_cell bk6 0
  have l0 := blk_frozen bk6 0
  have y1 := blk_cell bk8 1
  have z1 := blk_frozen bk8 1
  have k1 := blk_cell bk6 1
  have l1 := blk_frozen bk6 1
  have y2 := blk_cell bk8 2
  have z2 := blk_frozen bk8 2
  have k2 := blk_cell bk6 2
  have l2 := blk_frozen bk6 2
  have y3 := blk_cell bk8 3
  have z3 := blk_frozen bk8 3
  have k3 := blk_cell bk6 3
  have l3 := blk_frozen bk6 3
  have y4 := blk_cell bk8 4
  have z4 := blk_frozen bk8 4
  have k4 := blk_cell bk6 4
  have l4 := blk_frozen bk6 4
  have y5 := blk_cell bk8 5
  have z5 := blk_frozen bk8 5
  have k5 := blk_cell bk6 5
  have l5 := blk_frozen bk6 5
  have y6 := blk_cell bk8 6
  have z6 := blk_frozen bk8 6
  have k6 := blk_cell bk6 6
  have l6 := blk_frozen bk6 6
  have y7 := blk_cell bk8 7
  have z7 := blk_frozen bk8 7
  have k7 := blk_cell bk6 7
  have l7 := blk_frozen bk6 7
  have y8 := blk_cell bk8 8
  have z8 := blk_frozen bk8 8
  have k8 := blk_cell bk6 8
  have l8 := blk_frozen bk6 8
  have y9 := blk_cell bk8 9
  have z9 := blk_frozen bk8 9
  have k9 := blk_cell bk6 9
  have l9 := blk_frozen bk6 9
  go_upto_region 3 with fail
  rw [← hW]
  clear hW
  go_wp2_with fail
  go_region
  all_goals
    go_wp2_with fail
    refine bodyPost_ret (v := msV ⟨1, 1 + (n0 : Int), (p1 : Int), (p2 : Int), 0, 0, [], [], [], []⟩ none 0 0 none 0 0 none 0 0 none 0 0) ?hres rfl ⟨_, _, _, _, _, _, _, _, _, _, _, _, rfl, ?hm, ?hxx⟩
    case hres => simp [results, Try.results12, go_sem, k0, k1, k2, k3, k4, k5, k6, k7, k8, k9, y0, y1, y2, y3, y4, y5, y6, y7, y8, y9]
    case hm => exact MsR.nil _ _ _ _ _ _ _
    case hxx => (repeat (first | (with_reducible exact Ext.refl _) | (with_reducible assumption) | (with_reducible refine Ext.draws ?_) | (with_reducible refine Ext.allocs ?_ _) | (with_reducible refine Ext.sets ?_ hq8 _) | (with_reducible refine Ext.sets ?_ (Nat.le_refl _) _)))
set_option maxHeartbeats 8000000 in
theorem law9_Make_3 {kind : Int} {A : Option Addr} {n c : Nat} {l : List Int} {A' : Option Addr} {n' c' : Nat} {p : List UInt8} {w : World} (hl : Lst 1 intR w A n c l) (hn : n ≤ 1000) (hp : Sl w A' n' c' p) {s0 s1 s2 s3 s4 : Int} (HS : Hid (svI l 0 = s0 ∧ svI l 1 = s1 ∧ svI l 2 = s2 ∧ svI l 3 = s3 ∧ svI l 4 = s4)) {n0 : Nat} (hn0 : bits BinOp.and IntKind.i64 s0 1048575 = (n0 : Int)) (hn0b : n0 ≤ 1048575) {u0 : Nat} (hu0 : bits BinOp.and IntKind.i64 kind 255 = (u0 : Int)) (hub : u0 ≤ 255) (hK : (u0 : Int) % 9 = 2) :
    Calls Try.prog 12 #[.int .i64 kind, .slice A n c, .slice A' n' c'] w fun e w' => ∃ B1 Bn1 Bc1 B2 Bn2 Bc2 B3 Bn3 Bc3 B4 Bn4 Bc4, e = .returned (msV ⟨3, 1 + (n0 : Int), 0, 0, 0, 0, [], [], [], []⟩ B1 Bn1 Bc1 B2 Bn2 Bc2 B3 Bn3 Bc3 B4 Bn4 Bc4) ∧ MsR w' ⟨3, 1 + (n0 : Int), 0, 0, 0, 0, [], [], [], []⟩ B1 Bn1 Bc1 B2 Bn2 Bc2 B3 Bn3 Bc3 B4 Bn4 Bc4 ∧ Ext w w' := by
  go_enter Try.func12, Try.ntmps12
  go_wp2_with fail
  refine (law9_seven (hl.ext int_rep (Ext.alloc _ _))).mono ?_
  rintro e w2 ⟨rfl, hx2⟩
  rw [HS.out.1, HS.out.2.1, HS.out.2.2.1, HS.out.2.2.2.1, HS.out.2.2.2.2]
  obtain ⟨s5, hs5⟩ : ∃ z, svI l 5 = z := ⟨_, rfl⟩
  obtain ⟨s6, hs6⟩ : ∃ z, svI l 6 = z := ⟨_, rfl⟩
  rw [hs5, hs6]
  clear hs5 hs6
  have gx2 : Ext w w2 := (Ext.alloc _ _).trans hx2
  have hlt2 : w.heap.size < w2.heap.size := World.block_lt_of_cell? _ _ (hx2.cell (cell_new w zeroM' TMs 0))
  obtain ⟨W, hW⟩ : ∃ W, W = (w2.alloc (.cells #[.int .i64 s0, .int .i64 s1, .int .i64 s2, .int .i64 s3, .int .i64 s4, .int .i64 s5, .int .i64 s6] T7)).alloc (.cells (nilC 3 (1 + (n0 : Int)) 0 0 0 0) TMs) := ⟨_, rfl⟩
  have bk6 : W.heap[w.heap.size]? = some (.cells zeroM' TMs (0, 0)) := by
    rw [hW]
    exact blk_ext (blk_ext (blk_ext (heap_alloc_new w _) hx2) (Ext.alloc _ _)) (Ext.alloc _ _)
  have bk7 : W.heap[w2.heap.size]? = some (.cells #[.int .i64 s0, .int .i64 s1, .int .i64 s2, .int .i64 s3, .int .i64 s4, .int .i64 s5, .int .i64 s6] T7 (0, 0)) := by
    rw [hW]
    exact blk_ext (heap_alloc_new w2 _) (Ext.alloc _ _)
  have bk8 : W.heap[w2.heap.size + 1]? = some (.cells (nilC 3 (1 + (n0 : Int)) 0 0 0 0) TMs (0, 0)) := by
    rw [hW]
    have e : (w2.alloc (.cells #[.int .i64 s0, .int .i64 s1, .int .i64 s2, .int .i64 s3, .int .i64 s4, .int .i64 s5, .int .i64 s6] T7)).heap.size = w2.heap.size + 1 := by simp
    have := heap_alloc_new (w2.alloc (.cells #[.int .i64 s0, .int .i64 s1, .int .i64 s2, .int .i64 s3, .int .i64 s4, .int .i64 s5, .int .i64 s6] T7)) (.cells (nilC 3 (1 + (n0 : Int)) 0 0 0 0) TMs)
    rw [e] at this
    exact this
  have gxW : Ext w W := by rw [hW]; exact (gx2.allocs _).allocs _
  have hszW : W.heap.size = w2.heap.size + 2 := by rw [hW]; simp
  have HSZ := Lib.hid hszW
  have hq8 : w.heap.size ≤ w2.heap.size + 1 := by omega
  clear hszW hx2
  have x0 := blk_cell bk7 0
  have x1 := blk_cell bk7 1
  have x2 := blk_cell bk7 2
  have x3 := blk_cell bk7 3
  have x4 := blk_cell bk7 4
  have x5 := blk_cell bk7 5
  have x6 := blk_cell bk7 6
  have y0 := blk_cell bk8 0
  have z0 := blk_frozen bk8 0
  have k0 := blk_cell bk6 0
  have l0 := blk_frozen bk6 0
  have y1 := blk_cell bk8 1
  have z1 := blk_frozen bk8 1
  have k1 := blk_cell bk6 1
  have l1 := blk_frozen bk6 1
  have y2 := blk_cell bk8 2
  have z2 := blk_frozen bk8 2
  have k2 := blk_cell bk6 2
  have l2 := blk_frozen bk6 2
  have y3 := blk_cell bk8 3
  have z3 := blk_frozen bk8 3
  have k3 := blk_cell bk6 3
  have l3 := blk_frozen bk6 3
  have y4 := blk_cell bk8 4
  have z4 := blk_frozen bk8 4
  have k4 := blk_cell bk6 4
  have l4 := blk_frozen bk6 4
  have y5 := blk_cell bk8 5
  have z5 := blk_frozen bk8 5
  have k5 := blk_cell bk6 5
  have l5 := blk_frozen bk6 5
  have y6 := blk_cell bk8 6
  have z6 := blk_frozen bk8 6
  have k6 := blk_cell bk6 6
  have l6 := blk_frozen bk6 6
  have y7 := blk_cell bk8 7
  have z7 := blk_frozen bk8 7
  have k7 := blk_cell bk6 7
  have l7 := blk_frozen bk6 7
  have y8 := blk_cell bk8 8
  have z8 := blk_frozen bk8 8
  have k8 := blk_cell bk6 8
  have l8 := blk_frozen bk6 8
  have y9 := blk_cell bk8 9
  have z9 := blk_frozen bk8 9
  have k9 := blk_cell bk6 9
  have l9 := blk_frozen bk6 9
  go_upto_region 3 with fail
  rw [← hW]
  clear hW
  go_wp2_with fail
  refine bodyPost_ret (v := msV ⟨3, 1 + (n0 : Int), 0, 0, 0, 0, [], [], [], []⟩ none 0 0 none 0 0 none 0 0 none 0 0) ?hres rfl ⟨_, _, _, _, _, _, _, _, _, _, _, _, rfl, ?hm, ?hxx⟩
  case hres => simp [results, Try.results12, go_sem, k0, k1, k2, k3, k4, k5, k6, k7, k8, k9, y0, y1, y2, y3, y4, y5, y6, y7, y8, y9]
  case hm => exact MsR.nil _ _ _ _ _ _ _
  case hxx => (repeat (first | (with_reducible exact Ext.refl _) | (with_reducible assumption) | (with_reducible refine Ext.draws ?_) | (with_reducible refine Ext.allocs ?_ _) | (with_reducible refine Ext.sets ?_ hq8 _) | (with_reducible refine Ext.sets ?_ (Nat.le_refl _) _)))
set_option maxHeartbeats 8000000 in
theorem law9_Make_7 {kind : Int} {A : Option Addr} {n c : Nat} {l : List Int} {A' : Option Addr} {n' c' : Nat} {p : List UInt8} {w : World} (hl : Lst 1 intR w A n c l) (hn : n ≤ 1000) (hp : Sl w A' n' c' p) {s0 s1 s2 s3 s4 : Int} (HS : Hid (svI l 0 = s0 ∧ svI l 1 = s1 ∧ svI l 2 = s2 ∧ svI l 3 = s3 ∧ svI l 4 = s4)) {n0 : Nat} (hn0 : bits BinOp.and IntKind.i64 s0 1048575 = (n0 : Int)) (hn0b : n0 ≤ 1048575) {u0 : Nat} (hu0 : bits BinOp.and IntKind.i64 kind 255 = (u0 : Int)) (hub : u0 ≤ 255) (hK : (u0 : Int) % 9 = 6) :
    Calls Try.prog 12 #[.int .i64 kind, .slice A n c, .slice A' n' c'] w fun e w' => ∃ B1 Bn1 Bc1 B2 Bn2 Bc2 B3 Bn3 Bc3 B4 Bn4 Bc4, e = .returned (msV ⟨7, 1 + (n0 : Int), 0, 0, 0, 0, [], [], [], []⟩ B1 Bn1 Bc1 B2 Bn2 Bc2 B3 Bn3 Bc3 B4 Bn4 Bc4) ∧ MsR w' ⟨7, 1 + (n0 : Int), 0, 0, 0, 0, [], [], [], []⟩ B1 Bn1 Bc1 B2 Bn2 Bc2 B3 Bn3 Bc3 B4 Bn4 Bc4 ∧ Ext w w' := by
  go_enter Try.func12, Try.ntmps12
  go_wp2_with fail
  refine (law9_seven (hl.ext int_rep (Ext.alloc _ _))).mono ?_
  rintro e w2 ⟨rfl, hx2⟩
  rw [HS.out.1, HS.out.2.1, HS.out.2.2.1, HS.out.2.2.2.1, HS.out.2.2.2.2]
  obtain ⟨s5, hs5⟩ : ∃ z, svI l 5 = z := ⟨_, rfl⟩
  obtain ⟨s6, hs6⟩ : ∃ z, svI l 6 = z := ⟨_, rfl⟩
  rw [hs5, hs6]
  clear hs5 hs6
  have gx2 : Ext w w2 := (Ext.alloc _ _).trans hx2
  have hlt2 : w.heap.size < w2.heap.size := World.block_lt_of_cell? _ _ (hx2.cell (cell_new w zeroM' TMs 0))
  obtain ⟨W, hW⟩ : ∃ W, W = (w2.alloc (.cells #[.int .i64 s0, .int .i64 s1, .int .i64 s2, .int .i64 s3, .int .i64 s4, .int .i64 s5, .int .i64 s6] T7)).alloc (.cells (nilC 7 (1 + (n0 : Int)) 0 0 0 0) TMs) := ⟨_, rfl⟩
  have bk6 : W.heap[w.heap.size]? = some (.cells zeroM' TMs (0, 0)) := by
    rw [hW]
    exact blk_ext (blk_ext (blk_ext (heap_alloc_new w _) hx2) (Ext.alloc _ _)) (Ext.alloc _ _)
  have bk7 : W.heap[w2.heap.size]? = some (.cells #[.int .i64 s0, .int .i64 s1, .int .i64 s2, .int .i64 s3, .int .i64 s4, .int .i64 s5, .int .i64 s6] T7 (0, 0)) := by
    rw [hW]
    exact blk_ext (heap_alloc_new w2 _) (Ext.alloc _ _)
  have bk8 : W.heap[w2.heap.size + 1]? = some (.cells (nilC 7 (1 + (n0 : Int)) 0 0 0 0) TMs (0, 0)) := by
    rw [hW]
    have e : (w2.alloc (.cells #[.int .i64 s0, .int .i64 s1, .int .i64 s2, .int .i64 s3, .int .i64 s4, .int .i64 s5, .int .i64 s6] T7)).heap.size = w2.heap.size + 1 := by simp
    have := heap_alloc_new (w2.alloc (.cells #[.int .i64 s0, .int .i64 s1, .int .i64 s2, .int .i64 s3, .int .i64 s4, .int .i64 s5, .int .i64 s6] T7)) (.cells (nilC 7 (1 + (n0 : Int)) 0 0 0 0) TMs)
    rw [e] at this
    exact this
  have gxW : Ext w W := by rw [hW]; exact (gx2.allocs _).allocs _
  have hszW : W.heap.size = w2.heap.size + 2 := by rw [hW]; simp
  have HSZ := Lib.hid hszW
  have hq8 : w.heap.size ≤ w2.heap.size + 1 := by omega
  clear hszW hx2
  have x0 := blk_cell bk7 0
  have x1 := blk_cell bk7 1
  have x2 := blk_cell bk7 2
  have x3 := blk_cell bk7 3
  have x4 := blk_cell bk7 4
  have x5 := blk_cell bk7 5
  have x6 := blk_cell bk7 6
  have y0 := blk_cell bk8 0
  have z0 := blk_frozen bk8 0
  have k0 := blk_cell bk6 0
  have l0 := blk_frozen bk6 0
  have y1 := blk_cell bk8 1
  have z1 := blk_frozen bk8 1
  have k1 := blk_cell bk6 1
  have l1 := blk_frozen bk6 1
  have y2 := blk_cell bk8 2
  have z2 := blk_frozen bk8 2
  have k2 := blk_cell bk6 2
  have l2 := blk_frozen bk6 2
  have y3 := blk_cell bk8 3
  have z3 := blk_frozen bk8 3
  have k3 := blk_cell bk6 3
  have l3 := blk_frozen bk6 3
  have y4 := blk_cell bk8 4
  have z4 := blk_frozen bk8 4
  have k4 := blk_cell bk6 4
  have l4 := blk_frozen bk6 4
  have y5 := blk_cell bk8 5
  have z5 := blk_frozen bk8 5
  have k5 := blk_cell bk6 5
  have l5 := blk_frozen bk6 5
  have y6 := blk_cell bk8 6
  have z6 := blk_frozen bk8 6
  have k6 := blk_cell bk6 6
  have l6 := blk_frozen bk6 6
  have y7 := blk_cell bk8 7
  have z7 := blk_frozen bk8 7
  have k7 := blk_cell bk6 7
  have l7 := blk_frozen bk6 7
  have y8 := blk_cell bk8 8
  have z8 := blk_frozen bk8 8
  have k8 := blk_cell bk6 8
  have l8 := blk_frozen bk6 8
  have y9 := blk_cell bk8 9
  have z9 := blk_frozen bk8 9
  have k9 := blk_cell bk6 9
  have l9 := blk_frozen bk6 9
  go_upto_region 3 with fail
  rw [← hW]
  clear hW
  go_wp2_with fail
  refine bodyPost_ret (v := msV ⟨7, 1 + (n0 : Int), 0, 0, 0, 0, [], [], [], []⟩ none 0 0 none 0 0 none 0 0 none 0 0) ?hres rfl ⟨_, _, _, _, _, _, _, _, _, _, _, _, rfl, ?hm, ?hxx⟩
  case hres => simp [results, Try.results12, go_sem, k0, k1, k2, k3, k4, k5, k6, k7, k8, k9, y0, y1, y2, y3, y4, y5, y6, y7, y8, y9]
  case hm => exact MsR.nil _ _ _ _ _ _ _
  case hxx => (repeat (first | (with_reducible exact Ext.refl _) | (with_reducible assumption) | (with_reducible refine Ext.draws ?_) | (with_reducible refine Ext.allocs ?_ _) | (with_reducible refine Ext.sets ?_ hq8 _) | (with_reducible refine Ext.sets ?_ (Nat.le_refl _) _)))
set_option maxHeartbeats 8000000 in
theorem law9_Make_8 {kind : Int} {A : Option Addr} {n c : Nat} {l : List Int} {A' : Option Addr} {n' c' : Nat} {p : List UInt8} {w : World} (hl : Lst 1 intR w A n c l) (hn : n ≤ 1000) (hp : Sl w A' n' c' p) {s0 s1 s2 s3 s4 : Int} (HS : Hid (svI l 0 = s0 ∧ svI l 1 = s1 ∧ svI l 2 = s2 ∧ svI l 3 = s3 ∧ svI l 4 = s4)) {n0 : Nat} (hn0 : bits BinOp.and IntKind.i64 s0 1048575 = (n0 : Int)) (hn0b : n0 ≤ 1048575) {u0 : Nat} (hu0 : bits BinOp.and IntKind.i64 kind 255 = (u0 : Int)) (hub : u0 ≤ 255) (hK : (u0 : Int) % 9 = 7) :
    Calls Try.prog 12 #[.int .i64 kind, .slice A n c, .slice A' n' c'] w fun e w' => ∃ B1 Bn1 Bc1 B2 Bn2 Bc2 B3 Bn3 Bc3 B4 Bn4 Bc4, e = .returned (msV ⟨8, 1 + (n0 : Int), 0, 0, 0, 0, [], [], [], []⟩ B1 Bn1 Bc1 B2 Bn2 Bc2 B3 Bn3 Bc3 B4 Bn4 Bc4) ∧ MsR w' ⟨8, 1 + (n0 : Int), 0, 0, 0, 0, [], [], [], []⟩ B1 Bn1 Bc1 B2 Bn2 Bc2 B3 Bn3 Bc3 B4 Bn4 Bc4 ∧ Ext w w' := by
  go_enter Try.func12, Try.ntmps12
  go_wp2_with fail
  refine (law9_seven (hl.ext int_rep (Ext.alloc _ _))).mono ?_
  rintro e w2 ⟨rfl, hx2⟩
  rw [HS.out.1, HS.out.2.1, HS.out.2.2.1, HS.out.2.2.2.1, HS.out.2.2.2.2]
  obtain ⟨s5, hs5⟩ : ∃ z, svI l 5 = z := ⟨_, rfl⟩
  obtain ⟨s6, hs6⟩ : ∃ z, svI l 6 = z := ⟨_, rfl⟩
  rw [hs5, hs6]
  clear hs5 hs6
  have gx2 : Ext w w2 := (Ext.alloc _ _).trans hx2
  have hlt2 : w.heap.size < w2.heap.size := World.block_lt_of_cell? _ _ (hx2.cell (cell_new w zeroM' TMs 0))
  obtain ⟨W, hW⟩ : ∃ W, W = (w2.alloc (.cells #[.int .i64 s0, .int .i64 s1, .int .i64 s2, .int .i64 s3, .int .i64 s4, .int .i64 s5, .int .i64 s6] T7)).alloc (.cells (nilC 8 (1 + (n0 : Int)) 0 0 0 0) TMs) := ⟨_, rfl⟩
  have bk6 : W.heap[w.heap.size]? = some (.cells zeroM' TMs (0, 0)) := by
    rw [hW]
    exact blk_ext (blk_ext (blk_ext (heap_alloc_new w _) hx2) (Ext.alloc _ _)) (Ext.alloc _ _)
  have bk7 : W.heap[w2.heap.size]? = some (.cells #[.int .i64 s0, .int .i64 s1, .int .i64 s2, .int .i64 s3, .int .i64 s4, .int .i64 s5, .int .i64 s6] T7 (0, 0)) := by
    rw [hW]
    exact blk_ext (heap_alloc_new w2 _) (Ext.alloc _ _)
  have bk8 : W.heap[w2.heap.size + 1]? = some (.cells (nilC 8 (1 + (n0 : Int)) 0 0 0 0) TMs (0, 0)) := by
    rw [hW]
    have e : (w2.alloc (.cells #[.int .i64 s0, .int .i64 s1, .int .i64 s2, .int .i64 s3, .int .i64 s4, .int .i64 s5, .int .i64 s6] T7)).heap.size = w2.heap.size + 1 := by simp
    have := heap_alloc_new (w2.alloc (.cells #[.int .i64 s0, .int .i64 s1, .int .i64 s2, .int .i64 s3, .int .i64 s4, .int .i64 s5, .int .i64 s6] T7)) (.cells (nilC 8 (1 + (n0 : Int)) 0 0 0 0) TMs)
    rw [e] at this
    exact this
  have gxW : Ext w W := by rw [hW]; exact (gx2.allocs _).allocs _
  have hszW : W.heap.size = w2.heap.size + 2 := by rw [hW]; simp
  have HSZ := Lib.hid hszW
  have hq8 : w.heap.size ≤ w2.heap.size + 1 := by omega
  clear hszW hx2
  have x0 := blk_cell bk7 0
  have x1 := blk_cell bk7 1
  have x2 := blk_cell bk7 2
  have x3 := blk_cell bk7 3
  have x4 := blk_cell bk7 4
  have x5 := blk_cell bk7 5
  have x6 := blk_cell bk7 6
  have y0 := blk_cell bk8 0
  have z0 := blk_frozen bk8 0
  have k0 := blk_cell bk6 0
  have l0 := blk_frozen bk6 0
  have y1 := blk_cell bk8 1
  have z1 := blk_frozen bk8 1
  have k1 := blk_cell bk6 1
  have l1 := blk_frozen bk6 1
  have y2 := blk_cell bk8 2
  have z2 := blk_frozen bk8 2
  have k2 := blk_cell bk6 2
  have l2 := blk_frozen bk6 2
  have y3 := blk_cell bk8 3
  have z3 := blk_frozen bk8 3
  have k3 := blk_cell bk6 3
  have l3 := blk_frozen bk6 3
  have y4 := blk_cell bk8 4
  have z4 := blk_frozen bk8 4
  have k4 := blk_cell bk6 4
  have l4 := blk_frozen bk6 4
  have y5 := blk_cell bk8 5
  have z5 := blk_frozen bk8 5
  have k5 := blk_cell bk6 5
  have l5 := blk_frozen bk6 5
  have y6 := blk_cell bk8 6
  have z6 := blk_frozen bk8 6
  have k6 := blk_cell bk6 6
  have l6 := blk_frozen bk6 6
  have y7 := blk_cell bk8 7
  have z7 := blk_frozen bk8 7
  have k7 := blk_cell bk6 7
  have l7 := blk_frozen bk6 7
  have y8 := blk_cell bk8 8
  have z8 := blk_frozen bk8 8
  have k8 := blk_cell bk6 8
  have l8 := blk_frozen bk6 8
  have y9 := blk_cell bk8 9
  have z9 := blk_frozen bk8 9
  have k9 := blk_cell bk6 9
  have l9 := blk_frozen bk6 9
  go_upto_region 3 with fail
  rw [← hW]
  clear hW
  go_wp2_with fail
  refine bodyPost_ret (v := msV ⟨8, 1 + (n0 : Int), 0, 0, 0, 0, [], [], [], []⟩ none 0 0 none 0 0 none 0 0 none 0 0) ?hres rfl ⟨_, _, _, _, _, _, _, _, _, _, _, _, rfl, ?hm, ?hxx⟩
  case hres => simp [results, Try.results12, go_sem, k0, k1, k2, k3, k4, k5, k6, k7, k8, k9, y0, y1, y2, y3, y4, y5, y6, y7, y8, y9]
  case hm => exact MsR.nil _ _ _ _ _ _ _
  case hxx => (repeat (first | (with_reducible exact Ext.refl _) | (with_reducible assumption) | (with_reducible refine Ext.draws ?_) | (with_reducible refine Ext.allocs ?_ _) | (with_reducible refine Ext.sets ?_ hq8 _) | (with_reducible refine Ext.sets ?_ (Nat.le_refl _) _)))
set_option maxHeartbeats 8000000 in
theorem law9_Make_5 {kind : Int} {A : Option Addr} {n c : Nat} {l : List Int} {A' : Option Addr} {n' c' : Nat} {p : List UInt8} {w : World} (hl : Lst 1 intR w A n c l) (hn : n ≤ 1000) (hp : Sl w A' n' c' p) {s0 s1 s2 s3 s4 : Int} (HS : Hid (svI l 0 = s0 ∧ svI l 1 = s1 ∧ svI l 2 = s2 ∧ svI l 3 = s3 ∧ svI l 4 = s4)) {n0 : Nat} (hn0 : bits BinOp.and IntKind.i64 s0 1048575 = (n0 : Int)) (hn0b : n0 ≤ 1048575) {u0 : Nat} (hu0 : bits BinOp.and IntKind.i64 kind 255 = (u0 : Int)) (hub : u0 ≤ 255) (hK : (u0 : Int) % 9 = 4) {p1 p2 : Nat} (hp1 : bits BinOp.and IntKind.i64 s1 15 = (p1 : Int)) (hp1b : p1 ≤ 15) (hp2 : bits BinOp.and IntKind.i64 s2 511 = (p2 : Int)) (hp2b : p2 ≤ 511) :
    Calls Try.prog 12 #[.int .i64 kind, .slice A n c, .slice A' n' c'] w fun e w' => ∃ B1 Bn1 Bc1 B2 Bn2 Bc2 B3 Bn3 Bc3 B4 Bn4 Bc4, e = .returned (msV ⟨5, 1 + (n0 : Int), 0, 0, (p1 : Int), (p2 : Int), [], [], [], []⟩ B1 Bn1 Bc1 B2 Bn2 Bc2 B3 Bn3 Bc3 B4 Bn4 Bc4) ∧ MsR w' ⟨5, 1 + (n0 : Int), 0, 0, (p1 : Int), (p2 : Int), [], [], [], []⟩ B1 Bn1 Bc1 B2 Bn2 Bc2 B3 Bn3 Bc3 B4 Bn4 Bc4 ∧ Ext w w' := by
  go_enter Try.func12, Try.ntmps12
  go_wp2_with fail
  refine (law9_seven (hl.ext int_rep (Ext.alloc _ _))).mono ?_
  rintro e w2 ⟨rfl, hx2⟩
  rw [HS.out.1, HS.out.2.1, HS.out.2.2.1, HS.out.2.2.2.1, HS.out.2.2.2.2]
  obtain ⟨s5, hs5⟩ : ∃ z, svI l 5 = z := ⟨_, rfl⟩
  obtain ⟨s6, hs6⟩ : ∃ z, svI l 6 = z := ⟨_, rfl⟩
  rw [hs5, hs6]
  clear hs5 hs6
  have gx2 : Ext w w2 := (Ext.alloc _ _).trans hx2
  have hlt2 : w.heap.size < w2.heap.size := World.block_lt_of_cell? _ _ (hx2.cell (cell_new w zeroM' TMs 0))
  obtain ⟨W, hW⟩ : ∃ W, W = (w2.alloc (.cells #[.int .i64 s0, .int .i64 s1, .int .i64 s2, .int .i64 s3, .int .i64 s4, .int .i64 s5, .int .i64 s6] T7)).alloc (.cells (nilC 5 (1 + (n0 : Int)) 0 0 0 0) TMs) := ⟨_, rfl⟩
  have bk6 : W.heap[w.heap.size]? = some (.cells zeroM' TMs (0, 0)) := by
    rw [hW]
    exact blk_ext (blk_ext (blk_ext (heap_alloc_new w _) hx2) (Ext.alloc _ _)) (Ext.alloc _ _)
  have bk7 : W.heap[w2.heap.size]? = some (.cells #[.int .i64 s0, .int .i64 s1, .int .i64 s2, .int .i64 s3, .int .i64 s4, .int .i64 s5, .int .i64 s6] T7 (0, 0)) := by
    rw [hW]
    exact blk_ext (heap_alloc_new w2 _) (Ext.alloc _ _)
  have bk8 : W.heap[w2.heap.size + 1]? = some (.cells (nilC 5 (1 + (n0 : Int)) 0 0 0 0) TMs (0, 0)) := by
    rw [hW]
    have e : (w2.alloc (.cells #[.int .i64 s0, .int .i64 s1, .int .i64 s2, .int .i64 s3, .int .i64 s4, .int .i64 s5, .int .i64 s6] T7)).heap.size = w2.heap.size + 1 := by simp
    have := heap_alloc_new (w2.alloc (.cells #[.int .i64 s0, .int .i64 s1, .int .i64 s2, .int .i64 s3, .int .i64 s4, .int .i64 s5, .int .i64 s6] T7)) (.cells (nilC 5 (1 + (n0 : Int)) 0 0 0 0) TMs)
    rw [e] at this
    exact this
  have gxW : Ext w W := by rw [hW]; exact (gx2.allocs _).allocs _
  have hszW : W.heap.size = w2.heap.size + 2 := by rw [hW]; simp
  have HSZ := Lib.hid hszW
  have hq8 : w.heap.size ≤ w2.heap.size + 1 := by omega
  clear hszW hx2
  have x0 := blk_cell bk7 0
  have x1 := blk_cell bk7 1
  have x2 := blk_cell bk7 2
  have x3 := blk_cell bk7 3
  have x4 := blk_cell bk7 4
  have x5 := blk_cell bk7 5
  have x6 := blk_cell bk7 6
  have y0 := blk_cell bk8 0
  have z0 := blk_frozen bk8 0
  have k0 := blk_cell bk6 0
  have l0 := blk_frozen bk6 0
  have y1 := blk_cell bk8 1
  have z1 := blk_frozen bk8 1
  have k1 := blk_cell bk6 1
  have l1 := blk_frozen bk6 1
  have y2 := blk_cell bk8 2
  have z2 := blk_frozen bk8 2
  have k2 := blk_cell bk6 2
  have l2 := blk_frozen bk6 2
  have y3 := blk_cell bk8 3
  have z3 := blk_frozen bk8 3
  have k3 := blk_cell bk6 3
  have l3 := blk_frozen bk6 3
  have y4 := blk_cell bk8 4
  have z4 := blk_frozen bk8 4
  have k4 := blk_cell bk6 4
  have l4 := blk_frozen bk6 4
  have y5 := blk_cell bk8 5
  have z5 := blk_frozen bk8 5
  have k5 := blk_cell bk6 5
  have l5 := blk_frozen bk6 5
  have y6 := blk_cell bk8 6
  have z6 := blk_frozen bk8 6
  have k6 := blk_cell bk6 6
  have l6 := blk_frozen bk6 6
  have y7 := blk_cell bk8 7
  have z7 := blk_frozen bk8 7
  have k7 := blk_cell bk6 7
  have l7 := blk_frozen bk6 7
  have y8 := blk_cell bk8 8
  have z8 := blk_frozen bk8 8
  have k8 := blk_cell bk6 8
  have l8 := blk_frozen bk6 8
  have y9 := blk_cell bk8 9
  have z9 := blk_frozen bk8 9
  have k9 := blk_cell bk6 9
  have l9 := blk_frozen bk6 9
  go_upto_region 3 with fail
  rw [← hW]
  clear hW
  go_wp2_with fail
  go_region
  all_goals
    go_wp2_with fail
    refine bodyPost_ret (v := msV ⟨5, 1 + (n0 : Int), 0, 0, (p1 : Int), (p2 : Int), [], [], [], []⟩ none 0 0 none 0 0 none 0 0 none 0 0) ?hres rfl ⟨_, _, _, _, _, _, _, _, _, _, _, _, rfl, ?hm, ?hxx⟩
    case hres => simp [results, Try.results12, go_sem, k0, k1, k2, k3, k4, k5, k6, k7, k8, k9, y0, y1, y2, y3, y4, y5, y6, y7, y8, y9]
    case hm => exact MsR.nil _ _ _ _ _ _ _
    case hxx => (repeat (first | (with_reducible exact Ext.refl _) | (with_reducible assumption) | (with_reducible refine Ext.draws ?_) | (with_reducible refine Ext.allocs ?_ _) | (with_reducible refine Ext.sets ?_ hq8 _) | (with_reducible refine Ext.sets ?_ (Nat.le_refl _) _)))
set_option maxHeartbeats 8000000 in
theorem law9_Make_6 {kind : Int} {A : Option Addr} {n c : Nat} {l : List Int} {A' : Option Addr} {n' c' : Nat} {p : List UInt8} {w : World} (hl : Lst 1 intR w A n c l) (hn : n ≤ 1000) (hp : Sl w A' n' c' p) {s0 s1 s2 s3 s4 : Int} (HS : Hid (svI l 0 = s0 ∧ svI l 1 = s1 ∧ svI l 2 = s2 ∧ svI l 3 = s3 ∧ svI l 4 = s4)) {n0 : Nat} (hn0 : bits BinOp.and IntKind.i64 s0 1048575 = (n0 : Int)) (hn0b : n0 ≤ 1048575) {u0 : Nat} (hu0 : bits BinOp.and IntKind.i64 kind 255 = (u0 : Int)) (hub : u0 ≤ 255) (hK : (u0 : Int) % 9 = 5) {p1 p2 : Nat} (hp1 : bits BinOp.and IntKind.i64 s1 15 = (p1 : Int)) (hp1b : p1 ≤ 15) (hp2 : bits BinOp.and IntKind.i64 s2 511 = (p2 : Int)) (hp2b : p2 ≤ 511) {t : Nat} (ht : min n' 64 = t) :
    Calls Try.prog 12 #[.int .i64 kind, .slice A n c, .slice A' n' c'] w fun e w' => ∃ B1 Bn1 Bc1 B2 Bn2 Bc2 B3 Bn3 Bc3 B4 Bn4 Bc4, e = .returned (msV ⟨6, 1 + (n0 : Int), 0, 0, (p1 : Int), (p2 : Int), [], [], [], p.take 64⟩ B1 Bn1 Bc1 B2 Bn2 Bc2 B3 Bn3 Bc3 B4 Bn4 Bc4) ∧ MsR w' ⟨6, 1 + (n0 : Int), 0, 0, (p1 : Int), (p2 : Int), [], [], [], p.take 64⟩ B1 Bn1 Bc1 B2 Bn2 Bc2 B3 Bn3 Bc3 B4 Bn4 Bc4 ∧ Ext w w' := by
  have htn : t ≤ n' := by omega
  have ht64 : t ≤ 64 := by omega
  have hmin : min (n' : Int) 64 = (t : Int) := by omega
  have hcap := hp.cap
  have h63 := hp.n63
  have hplen := hp.len
  have hcut : Sl w A' t c' (p.take 64) := by
    refine ⟨by rw [List.length_take, hp.len]; omega, by omega, hp.max, by rw [List.length_map, List.length_take, hp.len]; omega, fun h0 => ?_⟩
    obtain ⟨ad, e, hc⟩ := hp.rd.2 (by omega)
    refine ⟨ad, e, fun j u hu => hc j u ?_⟩
    rw [List.getElem?_map, List.getElem?_take] at hu
    rw [List.getElem?_map]
    split at hu
    · exact hu
    · simp at hu
  have h3 : (t = n' ∧ n' ≤ 64) ∨ (t = 64 ∧ 64 < n') := by omega
  clear hp ht hplen hmin
  rcases h3 with ⟨rfl, h3⟩ | ⟨rfl, h3⟩
  · have m2 : decide ((64 : Int) < (t : Int)) = false := by simp; omega
    have m3 : ¬ (64 : Int) < (t : Int) := by omega
    go_enter Try.func12, Try.ntmps12
    go_wp2_with fail
    refine (law9_seven (hl.ext int_rep (Ext.alloc _ _))).mono ?_
    rintro e w2 ⟨rfl, hx2⟩
    rw [HS.out.1, HS.out.2.1, HS.out.2.2.1, HS.out.2.2.2.1, HS.out.2.2.2.2]
    obtain ⟨s5, hs5⟩ : ∃ z, svI l 5 = z := ⟨_, rfl⟩
    obtain ⟨s6, hs6⟩ : ∃ z, svI l 6 = z := ⟨_, rfl⟩
    rw [hs5, hs6]
    clear hs5 hs6
    have gx2 : Ext w w2 := (Ext.alloc _ _).trans hx2
    have hlt2 : w.heap.size < w2.heap.size := World.block_lt_of_cell? _ _ (hx2.cell (cell_new w zeroM' TMs 0))
    obtain ⟨W, hW⟩ : ∃ W, W = (w2.alloc (.cells #[.int .i64 s0, .int .i64 s1, .int .i64 s2, .int .i64 s3, .int .i64 s4, .int .i64 s5, .int .i64 s6] T7)).alloc (.cells (nilC 6 (1 + (n0 : Int)) 0 0 0 0) TMs) := ⟨_, rfl⟩
    have bk6 : W.heap[w.heap.size]? = some (.cells zeroM' TMs (0, 0)) := by
      rw [hW]
      exact blk_ext (blk_ext (blk_ext (heap_alloc_new w _) hx2) (Ext.alloc _ _)) (Ext.alloc _ _)
    have bk7 : W.heap[w2.heap.size]? = some (.cells #[.int .i64 s0, .int .i64 s1, .int .i64 s2, .int .i64 s3, .int .i64 s4, .int .i64 s5, .int .i64 s6] T7 (0, 0)) := by
      rw [hW]
      exact blk_ext (heap_alloc_new w2 _) (Ext.alloc _ _)
    have bk8 : W.heap[w2.heap.size + 1]? = some (.cells (nilC 6 (1 + (n0 : Int)) 0 0 0 0) TMs (0, 0)) := by
      rw [hW]
      have e : (w2.alloc (.cells #[.int .i64 s0, .int .i64 s1, .int .i64 s2, .int .i64 s3, .int .i64 s4, .int .i64 s5, .int .i64 s6] T7)).heap.size = w2.heap.size + 1 := by simp
      have := heap_alloc_new (w2.alloc (.cells #[.int .i64 s0, .int .i64 s1, .int .i64 s2, .int .i64 s3, .int .i64 s4, .int .i64 s5, .int .i64 s6] T7)) (.cells (nilC 6 (1 + (n0 : Int)) 0 0 0 0) TMs)
      rw [e] at this
      exact this
    have gxW : Ext w W := by rw [hW]; exact (gx2.allocs _).allocs _
    have hszW : W.heap.size = w2.heap.size + 2 := by rw [hW]; simp
    have HSZ := Lib.hid hszW
    have hq8 : w.heap.size ≤ w2.heap.size + 1 := by omega
    clear hszW hx2
    have x0 := blk_cell bk7 0
    have x1 := blk_cell bk7 1
    have x2 := blk_cell bk7 2
    have x3 := blk_cell bk7 3
    have x4 := blk_cell bk7 4
    have x5 := blk_cell bk7 5
    have x6 := blk_cell bk7 6
    have y0 := blk_cell bk8 0
    have z0 := blk_frozen bk8 0
    have k0 := blk_cell bk6 0
    have l0 := blk_frozen bk6 0
    have y1 := blk_cell bk8 1
    have z1 := blk_frozen bk8 1
    have k1 := blk_cell bk6 1
    have l1 := blk_frozen bk6 1
    have y2 := blk_cell bk8 2
    have z2 := blk_frozen bk8 2
    have k2 := blk_cell bk6 2
    have l2 := blk_frozen bk6 2
    have y3 := blk_cell bk8 3
    have z3 := blk_frozen bk8 3
    have k3 := blk_cell bk6 3
    have l3 := blk_frozen bk6 3
    have y4 := blk_cell bk8 4
    have z4 := blk_frozen bk8 4
    have k4 := blk_cell bk6 4
    have l4 := blk_frozen bk6 4
    have y5 := blk_cell bk8 5
    have z5 := blk_frozen bk8 5
    have k5 := blk_cell bk6 5
    have l5 := blk_frozen bk6 5
    have y6 := blk_cell bk8 6
    have z6 := blk_frozen bk8 6
    have k6 := blk_cell bk6 6
    have l6 := blk_frozen bk6 6
    have y7 := blk_cell bk8 7
    have z7 := blk_frozen bk8 7
    have k7 := blk_cell bk6 7
    have l7 := blk_frozen bk6 7
    have y8 := blk_cell bk8 8
    have z8 := blk_frozen bk8 8
    have k8 := blk_cell bk6 8
    have l8 := blk_frozen bk6 8
    have y9 := blk_cell bk8 9
    have z9 := blk_frozen bk8 9
    have k9 := blk_cell bk6 9
    have l9 := blk_frozen bk6 9
    go_upto_region 3 with fail
    rw [← hW]
    clear hW
    go_wp2_with fail
    go_region
    all_goals
      go_wp2_with fail
      refine bodyPost_ret (v := msV ⟨6, 1 + (n0 : Int), 0, 0, (p1 : Int), (p2 : Int), [], [], [], p.take 64⟩ none 0 0 none 0 0 none 0 0 A' t c') ?hres rfl ⟨_, _, _, _, _, _, _, _, _, _, _, _, rfl, ?hm, ?hxx⟩
      case hres => simp [results, Try.results12, go_sem, k0, k1, k2, k3, k4, k5, k6, k7, k8, k9, y0, y1, y2, y3, y4, y5, y6, y7, y8, y9]
      case hm =>
        refine ⟨Lst.nil _, Lst.nil _, Lst.nil _, Sl.ext hcut ?_⟩
        (repeat (first | (with_reducible exact Ext.refl _) | (with_reducible assumption) | (with_reducible refine Ext.draws ?_) | (with_reducible refine Ext.allocs ?_ _) | (with_reducible refine Ext.sets ?_ hq8 _) | (with_reducible refine Ext.sets ?_ (Nat.le_refl _) _)))
      case hxx => (repeat (first | (with_reducible exact Ext.refl _) | (with_reducible assumption) | (with_reducible refine Ext.draws ?_) | (with_reducible refine Ext.allocs ?_ _) | (with_reducible refine Ext.sets ?_ hq8 _) | (with_reducible refine Ext.sets ?_ (Nat.le_refl _) _)))
  · have m2 : decide ((64 : Int) < (n' : Int)) = true := by simp; omega
    have m4 : (64 : Int) < (n' : Int) := by omega
    go_enter Try.func12, Try.ntmps12
    go_wp2_with fail
    refine (law9_seven (hl.ext int_rep (Ext.alloc _ _))).mono ?_
    rintro e w2 ⟨rfl, hx2⟩
    rw [HS.out.1, HS.out.2.1, HS.out.2.2.1, HS.out.2.2.2.1, HS.out.2.2.2.2]
    obtain ⟨s5, hs5⟩ : ∃ z, svI l 5 = z := ⟨_, rfl⟩
    obtain ⟨s6, hs6⟩ : ∃ z, svI l 6 = z := ⟨_, rfl⟩
    rw [hs5, hs6]
    clear hs5 hs6
    have gx2 : Ext w w2 := (Ext.alloc _ _).trans hx2
    have hlt2 : w.heap.size < w2.heap.size := World.block_lt_of_cell? _ _ (hx2.cell (cell_new w zeroM' TMs 0))
    obtain ⟨W, hW⟩ : ∃ W, W = (w2.alloc (.cells #[.int .i64 s0, .int .i64 s1, .int .i64 s2, .int .i64 s3, .int .i64 s4, .int .i64 s5, .int .i64 s6] T7)).alloc (.cells (nilC 6 (1 + (n0 : Int)) 0 0 0 0) TMs) := ⟨_, rfl⟩
    have bk6 : W.heap[w.heap.size]? = some (.cells zeroM' TMs (0, 0)) := by
      rw [hW]
      exact blk_ext (blk_ext (blk_ext (heap_alloc_new w _) hx2) (Ext.alloc _ _)) (Ext.alloc _ _)
    have bk7 : W.heap[w2.heap.size]? = some (.cells #[.int .i64 s0, .int .i64 s1, .int .i64 s2, .int .i64 s3, .int .i64 s4, .int .i64 s5, .int .i64 s6] T7 (0, 0)) := by
      rw [hW]
      exact blk_ext (heap_alloc_new w2 _) (Ext.alloc _ _)
    have bk8 : W.heap[w2.heap.size + 1]? = some (.cells (nilC 6 (1 + (n0 : Int)) 0 0 0 0) TMs (0, 0)) := by
      rw [hW]
      have e : (w2.alloc (.cells #[.int .i64 s0, .int .i64 s1, .int .i64 s2, .int .i64 s3, .int .i64 s4, .int .i64 s5, .int .i64 s6] T7)).heap.size = w2.heap.size + 1 := by simp
      have := heap_alloc_new (w2.alloc (.cells #[.int .i64 s0, .int .i64 s1, .int .i64 s2, .int .i64 s3, .int .i64 s4, .int .i64 s5, .int .i64 s6] T7)) (.cells (nilC 6 (1 + (n0 : Int)) 0 0 0 0) TMs)
      rw [e] at this
      exact this
    have gxW : Ext w W := by rw [hW]; exact (gx2.allocs _).allocs _
    have hszW : W.heap.size = w2.heap.size + 2 := by rw [hW]; simp
    have HSZ := Lib.hid hszW
    have hq8 : w.heap.size ≤ w2.heap.size + 1 := by omega
    clear hszW hx2
    have x0 := blk_cell bk7 0
    have x1 := blk_cell bk7 1
    have x2 := blk_cell bk7 2
    have x3 := blk_cell bk7 3
    have x4 := blk_cell bk7 4
    have x5 := blk_cell bk7 5
    have x6 := blk_cell bk7 6
    have y0 := blk_cell bk8 0
    have z0 := blk_frozen bk8 0
    have k0 := blk_cell bk6 0
    have l0 := blk_frozen bk6 0
    have y1 := blk_cell bk8 1
    have z1 := blk_frozen bk8 1
    have k1 := blk_cell bk6 1
    have l1 := blk_frozen bk6 1
    have y2 := blk_cell bk8 2
    have z2 := blk_frozen bk8 2
    have k2 := blk_cell bk6 2
    have l2 := blk_frozen bk6 2
    have y3 := blk_cell bk8 3
    have z3 := blk_frozen bk8 3
    have k3 := blk_cell bk6 3
    have l3 := blk_frozen bk6 3
    have y4 := blk_cell bk8 4
    have z4 := blk_frozen bk8 4
    have k4 := blk_cell bk6 4
    have l4 := blk_frozen bk6 4
    have y5 := blk_cell bk8 5
    have z5 := blk_frozen bk8 5
    have k5 := blk_cell bk6 5
    have l5 := blk_frozen bk6 5
    have y6 := blk_cell bk8 6
    have z6 := blk_frozen bk8 6
    have k6 := blk_cell bk6 6
    have l6 := blk_frozen bk6 6
    have y7 := blk_cell bk8 7
    have z7 := blk_frozen bk8 7
    have k7 := blk_cell bk6 7
    have l7 := blk_frozen bk6 7
    have y8 := blk_cell bk8 8
    have z8 := blk_frozen bk8 8
    have k8 := blk_cell bk6 8
    have l8 := blk_frozen bk6 8
    have y9 := blk_cell bk8 9
    have z9 := blk_frozen bk8 9
    have k9 := blk_cell bk6 9
    have l9 := blk_frozen bk6 9
    go_upto_region 3 with fail
    rw [← hW]
    clear hW
    go_wp2_with fail
    go_region
    all_goals
      go_wp2_with fail
      refine bodyPost_ret (v := msV ⟨6, 1 + (n0 : Int), 0, 0, (p1 : Int), (p2 : Int), [], [], [], p.take 64⟩ none 0 0 none 0 0 none 0 0 A' 64 c') ?hres rfl ⟨_, _, _, _, _, _, _, _, _, _, _, _, rfl, ?hm, ?hxx⟩
      case hres => simp [results, Try.results12, go_sem, k0, k1, k2, k3, k4, k5, k6, k7, k8, k9, y0, y1, y2, y3, y4, y5, y6, y7, y8, y9]
      case hm =>
        refine ⟨Lst.nil _, Lst.nil _, Lst.nil _, Sl.ext hcut ?_⟩
        (repeat (first | (with_reducible exact Ext.refl _) | (with_reducible assumption) | (with_reducible refine Ext.draws ?_) | (with_reducible refine Ext.allocs ?_ _) | (with_reducible refine Ext.sets ?_ hq8 _) | (with_reducible refine Ext.sets ?_ (Nat.le_refl _) _)))
      case hxx => (repeat (first | (with_reducible exact Ext.refl _) | (with_reducible assumption) | (with_reducible refine Ext.draws ?_) | (with_reducible refine Ext.allocs ?_ _) | (with_reducible refine Ext.sets ?_ hq8 _) | (with_reducible refine Ext.sets ?_ (Nat.le_refl _) _)))
set_option maxHeartbeats 8000000 in
theorem law9_Make_9 {kind : Int} {A : Option Addr} {n c : Nat} {l : List Int} {A' : Option Addr} {n' c' : Nat} {p : List UInt8} {w : World} (hl : Lst 1 intR w A n c l) (hn : n ≤ 1000) (hp : Sl w A' n' c' p) {s0 s1 s2 s3 s4 : Int} (HS : Hid (svI l 0 = s0 ∧ svI l 1 = s1 ∧ svI l 2 = s2 ∧ svI l 3 = s3 ∧ svI l 4 = s4)) {n0 : Nat} (hn0 : bits BinOp.and IntKind.i64 s0 1048575 = (n0 : Int)) (hn0b : n0 ≤ 1048575) {u0 : Nat} (hu0 : bits BinOp.and IntKind.i64 kind 255 = (u0 : Int)) (hub : u0 ≤ 255) (hK : (u0 : Int) % 9 = 8) {q1 : Nat} (hq1 : bits BinOp.and IntKind.i64 s1 255 = (q1 : Int)) (hq1b : q1 ≤ 255) {p1 : Nat} (hp1 : (q1 : Int) % 13 = (p1 : Int)) (hp1b : p1 ≤ 12) :
    Calls Try.prog 12 #[.int .i64 kind, .slice A n c, .slice A' n' c'] w fun e w' => ∃ B1 Bn1 Bc1 B2 Bn2 Bc2 B3 Bn3 Bc3 B4 Bn4 Bc4, e = .returned (msV ⟨9, 1 + (n0 : Int), 0, 0, 0, 1 + (p1 : Int), [], [], [], []⟩ B1 Bn1 Bc1 B2 Bn2 Bc2 B3 Bn3 Bc3 B4 Bn4 Bc4) ∧ MsR w' ⟨9, 1 + (n0 : Int), 0, 0, 0, 1 + (p1 : Int), [], [], [], []⟩ B1 Bn1 Bc1 B2 Bn2 Bc2 B3 Bn3 Bc3 B4 Bn4 Bc4 ∧ Ext w w' := by
  go_enter Try.func12, Try.ntmps12
  go_wp2_with fail
  refine (law9_seven (hl.ext int_rep (Ext.alloc _ _))).mono ?_
  rintro e w2 ⟨rfl, hx2⟩
  rw [HS.out.1, HS.out.2.1, HS.out.2.2.1, HS.out.2.2.2.1, HS.out.2.2.2.2]
  obtain ⟨s5, hs5⟩ : ∃ z, svI l 5 = z := ⟨_, rfl⟩
  obtain ⟨s6, hs6⟩ : ∃ z, svI l 6 = z := ⟨_, rfl⟩
  rw [hs5, hs6]
  clear hs5 hs6
  have gx2 : Ext w w2 := (Ext.alloc _ _).trans hx2
  have hlt2 : w.heap.size < w2.heap.size := World.block_lt_of_cell? _ _ (hx2.cell (cell_new w zeroM' TMs 0))
  obtain ⟨W, hW⟩ : ∃ W, W = (w2.alloc (.cells #[.int .i64 s0, .int .i64 s1, .int .i64 s2, .int .i64 s3, .int .i64 s4, .int .i64 s5, .int .i64 s6] T7)).alloc (.cells (nilC 9 (1 + (n0 : Int)) 0 0 0 0) TMs) := ⟨_, rfl⟩
  have bk6 : W.heap[w.heap.size]? = some (.cells zeroM' TMs (0, 0)) := by
    rw [hW]
    exact blk_ext (blk_ext (blk_ext (heap_alloc_new w _) hx2) (Ext.alloc _ _)) (Ext.alloc _ _)
  have bk7 : W.heap[w2.heap.size]? = some (.cells #[.int .i64 s0, .int .i64 s1, .int .i64 s2, .int .i64 s3, .int .i64 s4, .int .i64 s5, .int .i64 s6] T7 (0, 0)) := by
    rw [hW]
    exact blk_ext (heap_alloc_new w2 _) (Ext.alloc _ _)
  have bk8 : W.heap[w2.heap.size + 1]? = some (.cells (nilC 9 (1 + (n0 : Int)) 0 0 0 0) TMs (0, 0)) := by
    rw [hW]
    have e : (w2.alloc (.cells #[.int .i64 s0, .int .i64 s1, .int .i64 s2, .int .i64 s3, .int .i64 s4, .int .i64 s5, .int .i64 s6] T7)).heap.size = w2.heap.size + 1 := by simp
    have := heap_alloc_new (w2.alloc (.cells #[.int .i64 s0, .int .i64 s1, .int .i64 s2, .int .i64 s3, .int .i64 s4, .int .i64 s5, .int .i64 s6] T7)) (.cells (nilC 9 (1 + (n0 : Int)) 0 0 0 0) TMs)
    rw [e] at this
    exact this
  have gxW : Ext w W := by rw [hW]; exact (gx2.allocs _).allocs _
  have hszW : W.heap.size = w2.heap.size + 2 := by rw [hW]; simp
  have HSZ := Lib.hid hszW
  have hq8 : w.heap.size ≤ w2.heap.size + 1 := by omega
  clear hszW hx2
  have x0 := blk_cell bk7 0
  have x1 := blk_cell bk7 1
  have x2 := blk_cell bk7 2
  have x3 := blk_cell bk7 3
  have x4 := blk_cell bk7 4
  have x5 := blk_cell bk7 5
  have x6 := blk_cell bk7 6
  have y0 := blk_cell bk8 0
  have z0 := blk_frozen bk8 0
  have k0 := blk_cell bk6 0
  have l0 := blk_frozen bk6 0
  have y1 := blk_cell bk8 1
  have z1 := blk_frozen bk8 1
  have k1 := blk_cell bk6 1
  have l1 := blk_frozen bk6 1
  have y2 := blk_cell bk8 2
  have z2 := blk_frozen bk8 2
  have k2 := blk_cell bk6 2
  have l2 := blk_frozen bk6 2
  have y3 := blk_cell bk8 3
  have z3 := blk_frozen bk8 3
  have k3 := blk_cell bk6 3
  have l3 := blk_frozen bk6 3
  have y4 := blk_cell bk8 4
  have z4 := blk_frozen bk8 4
  have k4 := blk_cell bk6 4
  have l4 := blk_frozen bk6 4
  have y5 := blk_cell bk8 5
  have z5 := blk_frozen bk8 5
  have k5 := blk_cell bk6 5
  have l5 := blk_frozen bk6 5
  have y6 := blk_cell bk8 6
  have z6 := blk_frozen bk8 6
  have k6 := blk_cell bk6 6
  have l6 := blk_frozen bk6 6
  have y7 := blk_cell bk8 7
  have z7 := blk_frozen bk8 7
  have k7 := blk_cell bk6 7
  have l7 := blk_frozen bk6 7
  have y8 := blk_cell bk8 8
  have z8 := blk_frozen bk8 8
  have k8 := blk_cell bk6 8
  have l8 := blk_frozen bk6 8
  have y9 := blk_cell bk8 9
  have z9 := blk_frozen bk8 9
  have k9 := blk_cell bk6 9
  have l9 := blk_frozen bk6 9
  go_upto_region 3 with fail
  rw [← hW]
  clear hW
  go_wp2_with fail
  refine bodyPost_ret (v := msV ⟨9, 1 + (n0 : Int), 0, 0, 0, 1 + (p1 : Int), [], [], [], []⟩ none 0 0 none 0 0 none 0 0 none 0 0) ?hres rfl ⟨_, _, _, _, _, _, _, _, _, _, _, _, rfl, ?hm, ?hxx⟩
  case hres => simp [results, Try.results12, go_sem, k0, k1, k2, k3, k4, k5, k6, k7, k8, k9, y0, y1, y2, y3, y4, y5, y6, y7, y8, y9]
  case hm => exact MsR.nil _ _ _ _ _ _ _
  case hxx => (repeat (first | (with_reducible exact Ext.refl _) | (with_reducible assumption) | (with_reducible refine Ext.draws ?_) | (with_reducible refine Ext.allocs ?_ _) | (with_reducible refine Ext.sets ?_ hq8 _) | (with_reducible refine Ext.sets ?_ (Nat.le_refl _) _)))
end Go.Proofs.Ytoeknbogaclfdaa
