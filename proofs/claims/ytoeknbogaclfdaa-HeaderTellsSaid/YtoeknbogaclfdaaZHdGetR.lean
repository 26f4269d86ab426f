/-
  Records out of bytes: contract of the reference's GetHead.
-/
import Derived.Test.YtoeknbogaclfdaaZBoc
import Derived.Test.YtoeknbogaclfdaaZMksGetR
import Derived.Test.YtoeknbogaclfdaaZHdPutR
namespace Go.Proofs.Ytoeknbogaclfdaa
open Go.RowKit
set_option linter.unusedVariables false
set_option linter.unusedSimpArgs false
set_option linter.unnecessarySimpa false
set_option maxRecDepth 100000

theorem six {l : List Int} (h : l.length = 6) : ∃ x1 x2 x3 x4 x5 x6, l = [x1, x2, x3, x4, x5, x6] := by
  obtain _ | ⟨x1, _ | ⟨x2, _ | ⟨x3, _ | ⟨x4, _ | ⟨x5, _ | ⟨x6, _ | ⟨x7, l⟩⟩⟩⟩⟩⟩⟩ := l <;> simp at h
  exact ⟨x1, x2, x3, x4, x5, x6, rfl⟩
theorem seven_size (a b c d e f g : Value) : (#[a, b, c, d, e, f, g] : Array Value).size = 7 := rfl
set_option maxHeartbeats 4000000 in
theorem ref_GetHead {A : Option Addr} {n c : Nat} {b : List UInt8} {w : World} (hb : Sl w A n c b) (hn6 : n ≤ 1000000) {o : Option Hd} (ho : Hid (getH true b = o)) {y : Int} (hy : Hid (whyO (crcOpen b) o.isSome = y)) :
    Calls Try.prog 29 #[.slice A n c] w fun e w' => ∃ A' n' c', e = .returned (.tuple #[hdV (o.getD hd0) A' n' c', .int .i64 y]) ∧ OwnL TMk 4 mkR w' w.heap.size A' n' c' (o.getD hd0).marks ∧ Ext w w' := by
  have h63 := hb.n63
  obtain ⟨cb, hcb⟩ : ∃ q, crcOpen b = q := ⟨_, rfl⟩
  have HCB := Lib.hid hcb
  have hy1 := hy.out
  have ho1 := ho.out
  rw [hcb] at hy1
  clear hy ho
  cases cb with
  | none =>
    rw [getH_open hcb] at ho1
    subst ho1
    obtain rfl : 13 = y := hy1
    clear hcb
    go_enter Try.func29, Try.ntmps29
    go_wp2_with fail
    obtain ⟨wa, hwa⟩ : ∃ q, q = w.alloc (.cells zeroH THd) := ⟨_, rfl⟩
    obtain ⟨w1, hw1⟩ : ∃ q, q = wa.alloc (.cells zeroH THd) := ⟨_, rfl⟩
    have hxa : Ext w wa := by rw [hwa]; exact Ext.alloc _ _
    have hxb : Ext wa w1 := by rw [hw1]; exact Ext.alloc _ _
    have gx1 := hxa.trans hxb
    have hsz : wa.heap.size = w.heap.size + 1 := by rw [hwa]; simp
    have k0 : w1.cell? ⟨w.heap.size, 0, none⟩ = some (.int .i64 0) := by rw [hw1, hwa]; exact (Ext.alloc _ _).cell (cell_new w zeroH THd 0)
    have l0 : w1.frozen? ⟨w.heap.size, 0, none⟩ = false := by rw [hw1, hwa]; exact (Ext.alloc _ _).frozenH (cell_new w zeroH THd 0) (frozen_new _ _ _ _)
    have z0 : w1.cell? ⟨w.heap.size + 1, 0, none⟩ = some (.int .i64 0) := by rw [hw1, ← hsz]; exact cell_new wa zeroH THd 0
    have k1 : w1.cell? ⟨w.heap.size, 1, none⟩ = some (.int .i64 0) := by rw [hw1, hwa]; exact (Ext.alloc _ _).cell (cell_new w zeroH THd 1)
    have l1 : w1.frozen? ⟨w.heap.size, 1, none⟩ = false := by rw [hw1, hwa]; exact (Ext.alloc _ _).frozenH (cell_new w zeroH THd 1) (frozen_new _ _ _ _)
    have z1 : w1.cell? ⟨w.heap.size + 1, 1, none⟩ = some (.int .i64 0) := by rw [hw1, ← hsz]; exact cell_new wa zeroH THd 1
    have k2 : w1.cell? ⟨w.heap.size, 2, none⟩ = some (.int .i64 0) := by rw [hw1, hwa]; exact (Ext.alloc _ _).cell (cell_new w zeroH THd 2)
    have l2 : w1.frozen? ⟨w.heap.size, 2, none⟩ = false := by rw [hw1, hwa]; exact (Ext.alloc _ _).frozenH (cell_new w zeroH THd 2) (frozen_new _ _ _ _)
    have z2 : w1.cell? ⟨w.heap.size + 1, 2, none⟩ = some (.int .i64 0) := by rw [hw1, ← hsz]; exact cell_new wa zeroH THd 2
    have k3 : w1.cell? ⟨w.heap.size, 3, none⟩ = some (.int .i64 0) := by rw [hw1, hwa]; exact (Ext.alloc _ _).cell (cell_new w zeroH THd 3)
    have l3 : w1.frozen? ⟨w.heap.size, 3, none⟩ = false := by rw [hw1, hwa]; exact (Ext.alloc _ _).frozenH (cell_new w zeroH THd 3) (frozen_new _ _ _ _)
    have z3 : w1.cell? ⟨w.heap.size + 1, 3, none⟩ = some (.int .i64 0) := by rw [hw1, ← hsz]; exact cell_new wa zeroH THd 3
    have k4 : w1.cell? ⟨w.heap.size, 4, none⟩ = some (.int .i64 0) := by rw [hw1, hwa]; exact (Ext.alloc _ _).cell (cell_new w zeroH THd 4)
    have l4 : w1.frozen? ⟨w.heap.size, 4, none⟩ = false := by rw [hw1, hwa]; exact (Ext.alloc _ _).frozenH (cell_new w zeroH THd 4) (frozen_new _ _ _ _)
    have z4 : w1.cell? ⟨w.heap.size + 1, 4, none⟩ = some (.int .i64 0) := by rw [hw1, ← hsz]; exact cell_new wa zeroH THd 4
    have k5 : w1.cell? ⟨w.heap.size, 5, none⟩ = some (.int .i64 0) := by rw [hw1, hwa]; exact (Ext.alloc _ _).cell (cell_new w zeroH THd 5)
    have l5 : w1.frozen? ⟨w.heap.size, 5, none⟩ = false := by rw [hw1, hwa]; exact (Ext.alloc _ _).frozenH (cell_new w zeroH THd 5) (frozen_new _ _ _ _)
    have z5 : w1.cell? ⟨w.heap.size + 1, 5, none⟩ = some (.int .i64 0) := by rw [hw1, ← hsz]; exact cell_new wa zeroH THd 5
    have k6 : w1.cell? ⟨w.heap.size, 6, none⟩ = some (.slice none 0 0) := by rw [hw1, hwa]; exact (Ext.alloc _ _).cell (cell_new w zeroH THd 6)
    have l6 : w1.frozen? ⟨w.heap.size, 6, none⟩ = false := by rw [hw1, hwa]; exact (Ext.alloc _ _).frozenH (cell_new w zeroH THd 6) (frozen_new _ _ _ _)
    have z6 : w1.cell? ⟨w.heap.size + 1, 6, none⟩ = some (.slice none 0 0) := by rw [hw1, ← hsz]; exact cell_new wa zeroH THd 6
    rw [← hwa, ← hw1]
    clear hwa hw1 hsz hxa hxb wa
    refine (ref_Open_any A n c b _ (hb.ext gx1) (by omega) HCB).mono ?_
    rintro e w2 ⟨A2, n2, c2, rfl, h2, hx2⟩
    replace l0 := hx2.frozenH k0 l0
    replace k0 := hx2.cell k0
    replace z0 := hx2.cell z0
    replace l1 := hx2.frozenH k1 l1
    replace k1 := hx2.cell k1
    replace z1 := hx2.cell z1
    replace l2 := hx2.frozenH k2 l2
    replace k2 := hx2.cell k2
    replace z2 := hx2.cell z2
    replace l3 := hx2.frozenH k3 l3
    replace k3 := hx2.cell k3
    replace z3 := hx2.cell z3
    replace l4 := hx2.frozenH k4 l4
    replace k4 := hx2.cell k4
    replace z4 := hx2.cell z4
    replace l5 := hx2.frozenH k5 l5
    replace k5 := hx2.cell k5
    replace z5 := hx2.cell z5
    replace l6 := hx2.frozenH k6 l6
    replace k6 := hx2.cell k6
    replace z6 := hx2.cell z6
    have gx2 := gx1.trans hx2
    have hlt2 : w.heap.size + 1 < w2.heap.size := World.block_lt_of_cell? _ _ z0
    clear hx2 gx1
    go_wp2_with fail
    refine bodyPost_ret (v := .tuple #[hdV hd0 none 0 0, .int .i64 13]) ?hres rfl ⟨_, _, _, rfl, OwnL.nil _ _ _ _, ?hxx⟩
    case hres => simp [results, Try.results29, go_sem, hd0, k0, k1, k2, k3, k4, k5, k6]
    case hxx => (repeat (first | (with_reducible exact Ext.refl _) | (with_reducible assumption) | (with_reducible refine Ext.draws ?_) | (with_reducible refine Ext.allocs ?_ _) | (with_reducible refine Ext.sets ?_ ?_ _) | (with_reducible exact Nat.le_refl _) | (exact (by simp)) | (exact (by simp; omega))))
  | some cb =>
    have hcl : cb.length ≤ n := by
      unfold crcOpen at hcb
      split at hcb
      · injection hcb with hcb
        rw [← hcb, List.length_take, hb.len]
        omega
      · cases hcb
    obtain ⟨p, hp⟩ : ∃ q, numsF 6 cb 0 = q := ⟨_, rfl⟩
    have HP := Lib.hid hp
    cases p with
    | none =>
      rw [getH_form hcb (parseH_none hp)] at ho1
      subst ho1
      obtain rfl : 2 = y := hy1
      clear hcb hp
      go_enter Try.func29, Try.ntmps29
      go_wp2_with fail
      obtain ⟨wa, hwa⟩ : ∃ q, q = w.alloc (.cells zeroH THd) := ⟨_, rfl⟩
      obtain ⟨w1, hw1⟩ : ∃ q, q = wa.alloc (.cells zeroH THd) := ⟨_, rfl⟩
      have hxa : Ext w wa := by rw [hwa]; exact Ext.alloc _ _
      have hxb : Ext wa w1 := by rw [hw1]; exact Ext.alloc _ _
      have gx1 := hxa.trans hxb
      have hsz : wa.heap.size = w.heap.size + 1 := by rw [hwa]; simp
      have k0 : w1.cell? ⟨w.heap.size, 0, none⟩ = some (.int .i64 0) := by rw [hw1, hwa]; exact (Ext.alloc _ _).cell (cell_new w zeroH THd 0)
      have l0 : w1.frozen? ⟨w.heap.size, 0, none⟩ = false := by rw [hw1, hwa]; exact (Ext.alloc _ _).frozenH (cell_new w zeroH THd 0) (frozen_new _ _ _ _)
      have z0 : w1.cell? ⟨w.heap.size + 1, 0, none⟩ = some (.int .i64 0) := by rw [hw1, ← hsz]; exact cell_new wa zeroH THd 0
      have k1 : w1.cell? ⟨w.heap.size, 1, none⟩ = some (.int .i64 0) := by rw [hw1, hwa]; exact (Ext.alloc _ _).cell (cell_new w zeroH THd 1)
      have l1 : w1.frozen? ⟨w.heap.size, 1, none⟩ = false := by rw [hw1, hwa]; exact (Ext.alloc _ _).frozenH (cell_new w zeroH THd 1) (frozen_new _ _ _ _)
      have z1 : w1.cell? ⟨w.heap.size + 1, 1, none⟩ = some (.int .i64 0) := by rw [hw1, ← hsz]; exact cell_new wa zeroH THd 1
      have k2 : w1.cell? ⟨w.heap.size, 2, none⟩ = some (.int .i64 0) := by rw [hw1, hwa]; exact (Ext.alloc _ _).cell (cell_new w zeroH THd 2)
      have l2 : w1.frozen? ⟨w.heap.size, 2, none⟩ = false := by rw [hw1, hwa]; exact (Ext.alloc _ _).frozenH (cell_new w zeroH THd 2) (frozen_new _ _ _ _)
      have z2 : w1.cell? ⟨w.heap.size + 1, 2, none⟩ = some (.int .i64 0) := by rw [hw1, ← hsz]; exact cell_new wa zeroH THd 2
      have k3 : w1.cell? ⟨w.heap.size, 3, none⟩ = some (.int .i64 0) := by rw [hw1, hwa]; exact (Ext.alloc _ _).cell (cell_new w zeroH THd 3)
      have l3 : w1.frozen? ⟨w.heap.size, 3, none⟩ = false := by rw [hw1, hwa]; exact (Ext.alloc _ _).frozenH (cell_new w zeroH THd 3) (frozen_new _ _ _ _)
      have z3 : w1.cell? ⟨w.heap.size + 1, 3, none⟩ = some (.int .i64 0) := by rw [hw1, ← hsz]; exact cell_new wa zeroH THd 3
      have k4 : w1.cell? ⟨w.heap.size, 4, none⟩ = some (.int .i64 0) := by rw [hw1, hwa]; exact (Ext.alloc _ _).cell (cell_new w zeroH THd 4)
      have l4 : w1.frozen? ⟨w.heap.size, 4, none⟩ = false := by rw [hw1, hwa]; exact (Ext.alloc _ _).frozenH (cell_new w zeroH THd 4) (frozen_new _ _ _ _)
      have z4 : w1.cell? ⟨w.heap.size + 1, 4, none⟩ = some (.int .i64 0) := by rw [hw1, ← hsz]; exact cell_new wa zeroH THd 4
      have k5 : w1.cell? ⟨w.heap.size, 5, none⟩ = some (.int .i64 0) := by rw [hw1, hwa]; exact (Ext.alloc _ _).cell (cell_new w zeroH THd 5)
      have l5 : w1.frozen? ⟨w.heap.size, 5, none⟩ = false := by rw [hw1, hwa]; exact (Ext.alloc _ _).frozenH (cell_new w zeroH THd 5) (frozen_new _ _ _ _)
      have z5 : w1.cell? ⟨w.heap.size + 1, 5, none⟩ = some (.int .i64 0) := by rw [hw1, ← hsz]; exact cell_new wa zeroH THd 5
      have k6 : w1.cell? ⟨w.heap.size, 6, none⟩ = some (.slice none 0 0) := by rw [hw1, hwa]; exact (Ext.alloc _ _).cell (cell_new w zeroH THd 6)
      have l6 : w1.frozen? ⟨w.heap.size, 6, none⟩ = false := by rw [hw1, hwa]; exact (Ext.alloc _ _).frozenH (cell_new w zeroH THd 6) (frozen_new _ _ _ _)
      have z6 : w1.cell? ⟨w.heap.size + 1, 6, none⟩ = some (.slice none 0 0) := by rw [hw1, ← hsz]; exact cell_new wa zeroH THd 6
      rw [← hwa, ← hw1]
      clear hwa hw1 hsz hxa hxb wa
      refine (ref_Open_any A n c b _ (hb.ext gx1) (by omega) HCB).mono ?_
      rintro e w2 ⟨A2, n2, c2, rfl, h2, hx2⟩
      replace l0 := hx2.frozenH k0 l0
      replace k0 := hx2.cell k0
      replace z0 := hx2.cell z0
      replace l1 := hx2.frozenH k1 l1
      replace k1 := hx2.cell k1
      replace z1 := hx2.cell z1
      replace l2 := hx2.frozenH k2 l2
      replace k2 := hx2.cell k2
      replace z2 := hx2.cell z2
      replace l3 := hx2.frozenH k3 l3
      replace k3 := hx2.cell k3
      replace z3 := hx2.cell z3
      replace l4 := hx2.frozenH k4 l4
      replace k4 := hx2.cell k4
      replace z4 := hx2.cell z4
      replace l5 := hx2.frozenH k5 l5
      replace k5 := hx2.cell k5
      replace z5 := hx2.cell z5
      replace l6 := hx2.frozenH k6 l6
      replace k6 := hx2.cell k6
      replace z6 := hx2.cell z6
      have gx2 := gx1.trans hx2
      have hlt2 : w.heap.size + 1 < w2.heap.size := World.block_lt_of_cell? _ _ z0
      clear hx2 gx1
      go_wp2_with fail
      have hn2 : n2 ≤ 1000000 := by rw [← h2.len]; exact Nat.le_trans hcl hn6
      refine (ref_numbers (F := 6) h2.sl hn2 (by omega) HP).mono ?_
      rintro e w3 ⟨A3, n3, c3, rfl, h3, hx3⟩
      replace l0 := hx3.frozenH k0 l0
      replace k0 := hx3.cell k0
      replace z0 := hx3.cell z0
      replace l1 := hx3.frozenH k1 l1
      replace k1 := hx3.cell k1
      replace z1 := hx3.cell z1
      replace l2 := hx3.frozenH k2 l2
      replace k2 := hx3.cell k2
      replace z2 := hx3.cell z2
      replace l3 := hx3.frozenH k3 l3
      replace k3 := hx3.cell k3
      replace z3 := hx3.cell z3
      replace l4 := hx3.frozenH k4 l4
      replace k4 := hx3.cell k4
      replace z4 := hx3.cell z4
      replace l5 := hx3.frozenH k5 l5
      replace k5 := hx3.cell k5
      replace z5 := hx3.cell z5
      replace l6 := hx3.frozenH k6 l6
      replace k6 := hx3.cell k6
      replace z6 := hx3.cell z6
      have gx3 := gx2.trans hx3
      clear hx3 gx2
      go_wp2_with fail
      refine bodyPost_ret (v := .tuple #[hdV hd0 none 0 0, .int .i64 2]) ?hres rfl ⟨_, _, _, rfl, OwnL.nil _ _ _ _, ?hxx⟩
      case hres => simp [results, Try.results29, go_sem, hd0, k0, k1, k2, k3, k4, k5, k6]
      case hxx => (repeat (first | (with_reducible exact Ext.refl _) | (with_reducible assumption) | (with_reducible refine Ext.draws ?_) | (with_reducible refine Ext.allocs ?_ _) | (with_reducible refine Ext.sets ?_ ?_ _) | (with_reducible exact Nat.le_refl _) | (exact (by simp)) | (exact (by simp; omega))))
    | some p =>
      obtain ⟨p, d⟩ := p
      obtain ⟨x1, x2, x3, x4, x5, x6, rfl⟩ := six (numsF_len _ _ _ _ hp)
      obtain ⟨om, hom⟩ : ∃ q, mksO true cb d = q := ⟨_, rfl⟩
      have HOM := Lib.hid hom
      have hpp : parseH true cb = om.map fun q => hdOf [x1, x2, x3, x4, x5, x6] q.1 := by
        unfold parseH
        rw [hp, Option.bind_some]
        simp only
        rw [hom]
      cases om with
      | none =>
        rw [getH_form hcb hpp] at ho1
        subst ho1
        obtain rfl : 2 = y := hy1
        clear hcb hp hom hpp
        go_enter Try.func29, Try.ntmps29
        go_wp2_with fail
        obtain ⟨wa, hwa⟩ : ∃ q, q = w.alloc (.cells zeroH THd) := ⟨_, rfl⟩
        obtain ⟨w1, hw1⟩ : ∃ q, q = wa.alloc (.cells zeroH THd) := ⟨_, rfl⟩
        have hxa : Ext w wa := by rw [hwa]; exact Ext.alloc _ _
        have hxb : Ext wa w1 := by rw [hw1]; exact Ext.alloc _ _
        have gx1 := hxa.trans hxb
        have hsz : wa.heap.size = w.heap.size + 1 := by rw [hwa]; simp
        have k0 : w1.cell? ⟨w.heap.size, 0, none⟩ = some (.int .i64 0) := by rw [hw1, hwa]; exact (Ext.alloc _ _).cell (cell_new w zeroH THd 0)
        have l0 : w1.frozen? ⟨w.heap.size, 0, none⟩ = false := by rw [hw1, hwa]; exact (Ext.alloc _ _).frozenH (cell_new w zeroH THd 0) (frozen_new _ _ _ _)
        have z0 : w1.cell? ⟨w.heap.size + 1, 0, none⟩ = some (.int .i64 0) := by rw [hw1, ← hsz]; exact cell_new wa zeroH THd 0
        have k1 : w1.cell? ⟨w.heap.size, 1, none⟩ = some (.int .i64 0) := by rw [hw1, hwa]; exact (Ext.alloc _ _).cell (cell_new w zeroH THd 1)
        have l1 : w1.frozen? ⟨w.heap.size, 1, none⟩ = false := by rw [hw1, hwa]; exact (Ext.alloc _ _).frozenH (cell_new w zeroH THd 1) (frozen_new _ _ _ _)
        have z1 : w1.cell? ⟨w.heap.size + 1, 1, none⟩ = some (.int .i64 0) := by rw [hw1, ← hsz]; exact cell_new wa zeroH THd 1
        have k2 : w1.cell? ⟨w.heap.size, 2, none⟩ = some (.int .i64 0) := by rw [hw1, hwa]; exact (Ext.alloc _ _).cell (cell_new w zeroH THd 2)
        have l2 : w1.frozen? ⟨w.heap.size, 2, none⟩ = false := by rw [hw1, hwa]; exact (Ext.alloc _ _).frozenH (cell_new w zeroH THd 2) (frozen_new _ _ _ _)
        have z2 : w1.cell? ⟨w.heap.size + 1, 2, none⟩ = some (.int .i64 0) := by rw [hw1, ← hsz]; exact cell_new wa zeroH THd 2
        have k3 : w1.cell? ⟨w.heap.size, 3, none⟩ = some (.int .i64 0) := by rw [hw1, hwa]; exact (Ext.alloc _ _).cell (cell_new w zeroH THd 3)
        have l3 : w1.frozen? ⟨w.heap.size, 3, none⟩ = false := by rw [hw1, hwa]; exact (Ext.alloc _ _).frozenH (cell_new w zeroH THd 3) (frozen_new _ _ _ _)
        have z3 : w1.cell? ⟨w.heap.size + 1, 3, none⟩ = some (.int .i64 0) := by rw [hw1, ← hsz]; exact cell_new wa zeroH THd 3
        have k4 : w1.cell? ⟨w.heap.size, 4, none⟩ = some (.int .i64 0) := by rw [hw1, hwa]; exact (Ext.alloc _ _).cell (cell_new w zeroH THd 4)
        have l4 : w1.frozen? ⟨w.heap.size, 4, none⟩ = false := by rw [hw1, hwa]; exact (Ext.alloc _ _).frozenH (cell_new w zeroH THd 4) (frozen_new _ _ _ _)
        have z4 : w1.cell? ⟨w.heap.size + 1, 4, none⟩ = some (.int .i64 0) := by rw [hw1, ← hsz]; exact cell_new wa zeroH THd 4
        have k5 : w1.cell? ⟨w.heap.size, 5, none⟩ = some (.int .i64 0) := by rw [hw1, hwa]; exact (Ext.alloc _ _).cell (cell_new w zeroH THd 5)
        have l5 : w1.frozen? ⟨w.heap.size, 5, none⟩ = false := by rw [hw1, hwa]; exact (Ext.alloc _ _).frozenH (cell_new w zeroH THd 5) (frozen_new _ _ _ _)
        have z5 : w1.cell? ⟨w.heap.size + 1, 5, none⟩ = some (.int .i64 0) := by rw [hw1, ← hsz]; exact cell_new wa zeroH THd 5
        have k6 : w1.cell? ⟨w.heap.size, 6, none⟩ = some (.slice none 0 0) := by rw [hw1, hwa]; exact (Ext.alloc _ _).cell (cell_new w zeroH THd 6)
        have l6 : w1.frozen? ⟨w.heap.size, 6, none⟩ = false := by rw [hw1, hwa]; exact (Ext.alloc _ _).frozenH (cell_new w zeroH THd 6) (frozen_new _ _ _ _)
        have z6 : w1.cell? ⟨w.heap.size + 1, 6, none⟩ = some (.slice none 0 0) := by rw [hw1, ← hsz]; exact cell_new wa zeroH THd 6
        rw [← hwa, ← hw1]
        clear hwa hw1 hsz hxa hxb wa
        refine (ref_Open_any A n c b _ (hb.ext gx1) (by omega) HCB).mono ?_
        rintro e w2 ⟨A2, n2, c2, rfl, h2, hx2⟩
        replace l0 := hx2.frozenH k0 l0
        replace k0 := hx2.cell k0
        replace z0 := hx2.cell z0
        replace l1 := hx2.frozenH k1 l1
        replace k1 := hx2.cell k1
        replace z1 := hx2.cell z1
        replace l2 := hx2.frozenH k2 l2
        replace k2 := hx2.cell k2
        replace z2 := hx2.cell z2
        replace l3 := hx2.frozenH k3 l3
        replace k3 := hx2.cell k3
        replace z3 := hx2.cell z3
        replace l4 := hx2.frozenH k4 l4
        replace k4 := hx2.cell k4
        replace z4 := hx2.cell z4
        replace l5 := hx2.frozenH k5 l5
        replace k5 := hx2.cell k5
        replace z5 := hx2.cell z5
        replace l6 := hx2.frozenH k6 l6
        replace k6 := hx2.cell k6
        replace z6 := hx2.cell z6
        have gx2 := gx1.trans hx2
        have hlt2 : w.heap.size + 1 < w2.heap.size := World.block_lt_of_cell? _ _ z0
        clear hx2 gx1
        go_wp2_with fail
        have hn2 : n2 ≤ 1000000 := by rw [← h2.len]; exact Nat.le_trans hcl hn6
        refine (ref_numbers (F := 6) h2.sl hn2 (by omega) HP).mono ?_
        rintro e w3 ⟨A3, n3, c3, rfl, h3, hx3⟩
        rw [show ((some ([x1, x2, x3, x4, x5, x6], d) : Option (List Int × Int)).map Prod.snd).getD 0 = d from rfl, show (some ([x1, x2, x3, x4, x5, x6], d) : Option (List Int × Int)).isSome = true from rfl]
        replace l0 := hx3.frozenH k0 l0
        replace k0 := hx3.cell k0
        replace z0 := hx3.cell z0
        replace l1 := hx3.frozenH k1 l1
        replace k1 := hx3.cell k1
        replace z1 := hx3.cell z1
        replace l2 := hx3.frozenH k2 l2
        replace k2 := hx3.cell k2
        replace z2 := hx3.cell z2
        replace l3 := hx3.frozenH k3 l3
        replace k3 := hx3.cell k3
        replace z3 := hx3.cell z3
        replace l4 := hx3.frozenH k4 l4
        replace k4 := hx3.cell k4
        replace z4 := hx3.cell z4
        replace l5 := hx3.frozenH k5 l5
        replace k5 := hx3.cell k5
        replace z5 := hx3.cell z5
        replace l6 := hx3.frozenH k6 l6
        replace k6 := hx3.cell k6
        replace z6 := hx3.cell z6
        have gx3 := gx2.trans hx3
        replace h2 := h2.sl.ext hx3
        clear hx3 gx2 h3
        go_wp2_with fail
        refine (ref_getMarks h2 hn2 HOM).mono ?_
        rintro e w4 ⟨A4, n4, c4, rfl, h4, hx4⟩
        replace l0 := hx4.frozenH k0 l0
        replace k0 := hx4.cell k0
        replace z0 := hx4.cell z0
        replace l1 := hx4.frozenH k1 l1
        replace k1 := hx4.cell k1
        replace z1 := hx4.cell z1
        replace l2 := hx4.frozenH k2 l2
        replace k2 := hx4.cell k2
        replace z2 := hx4.cell z2
        replace l3 := hx4.frozenH k3 l3
        replace k3 := hx4.cell k3
        replace z3 := hx4.cell z3
        replace l4 := hx4.frozenH k4 l4
        replace k4 := hx4.cell k4
        replace z4 := hx4.cell z4
        replace l5 := hx4.frozenH k5 l5
        replace k5 := hx4.cell k5
        replace z5 := hx4.cell z5
        replace l6 := hx4.frozenH k6 l6
        replace k6 := hx4.cell k6
        replace z6 := hx4.cell z6
        have gx4 := gx3.trans hx4
        clear hx4 gx3 h4
        go_wp2_with fail
        refine bodyPost_ret (v := .tuple #[hdV hd0 none 0 0, .int .i64 2]) ?hres rfl ⟨_, _, _, rfl, OwnL.nil _ _ _ _, ?hxx⟩
        case hres => simp [results, Try.results29, go_sem, hd0, k0, k1, k2, k3, k4, k5, k6]
        case hxx => (repeat (first | (with_reducible exact Ext.refl _) | (with_reducible assumption) | (with_reducible refine Ext.draws ?_) | (with_reducible refine Ext.allocs ?_ _) | (with_reducible refine Ext.sets ?_ ?_ _) | (with_reducible exact Nat.le_refl _) | (exact (by simp)) | (exact (by simp; omega))))
      | some pm =>
        obtain ⟨xs, d3⟩ := pm
        have hsh := mksO_short hom
        simp only at hsh
        have hpp2 : parseH true cb = some ⟨x1, x2, x3, x4, x5, x6, xs⟩ := hpp
        rw [getH_at hcb hpp2] at ho1
        obtain ⟨r, hr⟩ : ∃ q, rightH ⟨x1, x2, x3, x4, x5, x6, xs⟩ = q := ⟨_, rfl⟩
        have HR := Lib.hid hr
        obtain ⟨L, hL⟩ : ∃ q, putHr ⟨x1, x2, x3, x4, x5, x6, xs⟩ r = q := ⟨_, rfl⟩
        have HL := Lib.hid hL
        have HS : Hid (Shorts xs) := fun x hx => by have := hsh.2 x hx; omega
        have hln : xs.length ≤ 17 := hsh.1
        have HO : Hid ((if r = true ∧ putH ⟨x1, x2, x3, x4, x5, x6, xs⟩ = b then some (⟨x1, x2, x3, x4, x5, x6, xs⟩ : Hd) else none) = o) := by unfold Hid; rw [← ho1, hr]
        clear hcb hp hom hpp hpp2 hsh ho1 hr
        go_enter Try.func29, Try.ntmps29
        go_wp2_with fail
        obtain ⟨wa, hwa⟩ : ∃ q, q = w.alloc (.cells zeroH THd) := ⟨_, rfl⟩
        obtain ⟨w1, hw1⟩ : ∃ q, q = wa.alloc (.cells zeroH THd) := ⟨_, rfl⟩
        have hxa : Ext w wa := by rw [hwa]; exact Ext.alloc _ _
        have hxb : Ext wa w1 := by rw [hw1]; exact Ext.alloc _ _
        have gx1 := hxa.trans hxb
        have hsz : wa.heap.size = w.heap.size + 1 := by rw [hwa]; simp
        have k0 : w1.cell? ⟨w.heap.size, 0, none⟩ = some (.int .i64 0) := by rw [hw1, hwa]; exact (Ext.alloc _ _).cell (cell_new w zeroH THd 0)
        have l0 : w1.frozen? ⟨w.heap.size, 0, none⟩ = false := by rw [hw1, hwa]; exact (Ext.alloc _ _).frozenH (cell_new w zeroH THd 0) (frozen_new _ _ _ _)
        have z0 : w1.cell? ⟨w.heap.size + 1, 0, none⟩ = some (.int .i64 0) := by rw [hw1, ← hsz]; exact cell_new wa zeroH THd 0
        have k1 : w1.cell? ⟨w.heap.size, 1, none⟩ = some (.int .i64 0) := by rw [hw1, hwa]; exact (Ext.alloc _ _).cell (cell_new w zeroH THd 1)
        have l1 : w1.frozen? ⟨w.heap.size, 1, none⟩ = false := by rw [hw1, hwa]; exact (Ext.alloc _ _).frozenH (cell_new w zeroH THd 1) (frozen_new _ _ _ _)
        have z1 : w1.cell? ⟨w.heap.size + 1, 1, none⟩ = some (.int .i64 0) := by rw [hw1, ← hsz]; exact cell_new wa zeroH THd 1
        have k2 : w1.cell? ⟨w.heap.size, 2, none⟩ = some (.int .i64 0) := by rw [hw1, hwa]; exact (Ext.alloc _ _).cell (cell_new w zeroH THd 2)
        have l2 : w1.frozen? ⟨w.heap.size, 2, none⟩ = false := by rw [hw1, hwa]; exact (Ext.alloc _ _).frozenH (cell_new w zeroH THd 2) (frozen_new _ _ _ _)
        have z2 : w1.cell? ⟨w.heap.size + 1, 2, none⟩ = some (.int .i64 0) := by rw [hw1, ← hsz]; exact cell_new wa zeroH THd 2
        have k3 : w1.cell? ⟨w.heap.size, 3, none⟩ = some (.int .i64 0) := by rw [hw1, hwa]; exact (Ext.alloc _ _).cell (cell_new w zeroH THd 3)
        have l3 : w1.frozen? ⟨w.heap.size, 3, none⟩ = false := by rw [hw1, hwa]; exact (Ext.alloc _ _).frozenH (cell_new w zeroH THd 3) (frozen_new _ _ _ _)
        have z3 : w1.cell? ⟨w.heap.size + 1, 3, none⟩ = some (.int .i64 0) := by rw [hw1, ← hsz]; exact cell_new wa zeroH THd 3
        have k4 : w1.cell? ⟨w.heap.size, 4, none⟩ = some (.int .i64 0) := by rw [hw1, hwa]; exact (Ext.alloc _ _).cell (cell_new w zeroH THd 4)
        have l4 : w1.frozen? ⟨w.heap.size, 4, none⟩ = false := by rw [hw1, hwa]; exact (Ext.alloc _ _).frozenH (cell_new w zeroH THd 4) (frozen_new _ _ _ _)
        have z4 : w1.cell? ⟨w.heap.size + 1, 4, none⟩ = some (.int .i64 0) := by rw [hw1, ← hsz]; exact cell_new wa zeroH THd 4
        have k5 : w1.cell? ⟨w.heap.size, 5, none⟩ = some (.int .i64 0) := by rw [hw1, hwa]; exact (Ext.alloc _ _).cell (cell_new w zeroH THd 5)
        have l5 : w1.frozen? ⟨w.heap.size, 5, none⟩ = false := by rw [hw1, hwa]; exact (Ext.alloc _ _).frozenH (cell_new w zeroH THd 5) (frozen_new _ _ _ _)
        have z5 : w1.cell? ⟨w.heap.size + 1, 5, none⟩ = some (.int .i64 0) := by rw [hw1, ← hsz]; exact cell_new wa zeroH THd 5
        have k6 : w1.cell? ⟨w.heap.size, 6, none⟩ = some (.slice none 0 0) := by rw [hw1, hwa]; exact (Ext.alloc _ _).cell (cell_new w zeroH THd 6)
        have l6 : w1.frozen? ⟨w.heap.size, 6, none⟩ = false := by rw [hw1, hwa]; exact (Ext.alloc _ _).frozenH (cell_new w zeroH THd 6) (frozen_new _ _ _ _)
        have z6 : w1.cell? ⟨w.heap.size + 1, 6, none⟩ = some (.slice none 0 0) := by rw [hw1, ← hsz]; exact cell_new wa zeroH THd 6
        rw [← hwa, ← hw1]
        clear hwa hw1 hsz hxa hxb wa
        refine (ref_Open_any A n c b _ (hb.ext gx1) (by omega) HCB).mono ?_
        rintro e w2 ⟨A2, n2, c2, rfl, h2, hx2⟩
        replace l0 := hx2.frozenH k0 l0
        replace k0 := hx2.cell k0
        replace z0 := hx2.cell z0
        replace l1 := hx2.frozenH k1 l1
        replace k1 := hx2.cell k1
        replace z1 := hx2.cell z1
        replace l2 := hx2.frozenH k2 l2
        replace k2 := hx2.cell k2
        replace z2 := hx2.cell z2
        replace l3 := hx2.frozenH k3 l3
        replace k3 := hx2.cell k3
        replace z3 := hx2.cell z3
        replace l4 := hx2.frozenH k4 l4
        replace k4 := hx2.cell k4
        replace z4 := hx2.cell z4
        replace l5 := hx2.frozenH k5 l5
        replace k5 := hx2.cell k5
        replace z5 := hx2.cell z5
        replace l6 := hx2.frozenH k6 l6
        replace k6 := hx2.cell k6
        replace z6 := hx2.cell z6
        have gx2 := gx1.trans hx2
        have hlt2 : w.heap.size + 1 < w2.heap.size := World.block_lt_of_cell? _ _ z0
        clear hx2 gx1
        go_wp2_with fail
        have hn2 : n2 ≤ 1000000 := by rw [← h2.len]; exact Nat.le_trans hcl hn6
        refine (ref_numbers (F := 6) h2.sl hn2 (by omega) HP).mono ?_
        rintro e w3 ⟨A3, n3, c3, rfl, h3, hx3⟩
        rw [show ((some ([x1, x2, x3, x4, x5, x6], d) : Option (List Int × Int)).map Prod.snd).getD 0 = d from rfl, show (some ([x1, x2, x3, x4, x5, x6], d) : Option (List Int × Int)).isSome = true from rfl]
        replace l0 := hx3.frozenH k0 l0
        replace k0 := hx3.cell k0
        replace z0 := hx3.cell z0
        replace l1 := hx3.frozenH k1 l1
        replace k1 := hx3.cell k1
        replace z1 := hx3.cell z1
        replace l2 := hx3.frozenH k2 l2
        replace k2 := hx3.cell k2
        replace z2 := hx3.cell z2
        replace l3 := hx3.frozenH k3 l3
        replace k3 := hx3.cell k3
        replace z3 := hx3.cell z3
        replace l4 := hx3.frozenH k4 l4
        replace k4 := hx3.cell k4
        replace z4 := hx3.cell z4
        replace l5 := hx3.frozenH k5 l5
        replace k5 := hx3.cell k5
        replace z5 := hx3.cell z5
        replace l6 := hx3.frozenH k6 l6
        replace k6 := hx3.cell k6
        replace z6 := hx3.cell z6
        have gx3 := gx2.trans hx3
        replace h2 := h2.sl.ext hx3
        have l4 : Lst 1 intR w3 A3 n3 c3 [x1, x2, x3, x4, x5, x6] := h3.lst
        obtain rfl : n3 = 6 := l4.len.symm
        obtain ⟨g1, o1, y1, rfl, hy1', q1⟩ := l4.atI (i := 0) (by omega)
        obtain ⟨_, _, y2, e2, hy2', q2⟩ := l4.atI (i := 1) (by omega)
        injection e2 with e2; injection e2 with e2 e2'; subst e2 e2'
        obtain ⟨_, _, y3, e2, hy3', q3⟩ := l4.atI (i := 2) (by omega)
        injection e2 with e2; injection e2 with e2 e2'; subst e2 e2'
        obtain ⟨_, _, y4, e2, hy4', q4⟩ := l4.atI (i := 3) (by omega)
        injection e2 with e2; injection e2 with e2 e2'; subst e2 e2'
        obtain ⟨_, _, y5, e2, hy5', q5⟩ := l4.atI (i := 4) (by omega)
        injection e2 with e2; injection e2 with e2 e2'; subst e2 e2'
        obtain ⟨_, _, y6, e2, hy6', q6⟩ := l4.atI (i := 5) (by omega)
        injection e2 with e2; injection e2 with e2 e2'; subst e2 e2'
        simp only [List.getElem?_cons_zero, List.getElem?_cons_succ, Option.some.injEq] at hy1' hy2' hy3' hy4' hy5' hy6'
        subst hy1' hy2' hy3' hy4' hy5' hy6'
        rw [Nat.add_zero] at q1
        have hlt3 : w.heap.size + 1 < w3.heap.size := World.block_lt_of_cell? _ _ z0
        clear hx3 gx2 h3 l4
        go_wp2_with fail
        have hpc := ref_getMarks h2 hn2 HOM
        simp only [Option.map_some, Option.getD_some, Option.isSome_some] at hpc
        refine hpc.mono ?_
        rintro e w4 ⟨A4, n4, c4, rfl, h4, hx4⟩
        clear hpc
        have hn4 : n4 ≤ 17 := by rw [← h4.len]; exact hln
        replace l0 := hx4.frozenH k0 l0
        replace k0 := hx4.cell k0
        replace z0 := hx4.cell z0
        replace l1 := hx4.frozenH k1 l1
        replace k1 := hx4.cell k1
        replace z1 := hx4.cell z1
        replace l2 := hx4.frozenH k2 l2
        replace k2 := hx4.cell k2
        replace z2 := hx4.cell z2
        replace l3 := hx4.frozenH k3 l3
        replace k3 := hx4.cell k3
        replace z3 := hx4.cell z3
        replace l4 := hx4.frozenH k4 l4
        replace k4 := hx4.cell k4
        replace z4 := hx4.cell z4
        replace l5 := hx4.frozenH k5 l5
        replace k5 := hx4.cell k5
        replace z5 := hx4.cell z5
        replace l6 := hx4.frozenH k6 l6
        replace k6 := hx4.cell k6
        replace z6 := hx4.cell z6
        have gx4 := gx3.trans hx4
        replace q1 := hx4.cell q1
        replace q2 := hx4.cell q2
        replace q3 := hx4.cell q3
        replace q4 := hx4.cell q4
        replace q5 := hx4.cell q5
        replace q6 := hx4.cell q6
        have hlt4 : w.heap.size + 1 < w4.heap.size := World.block_lt_of_cell? _ _ z0
        have hrow : ∀ g, rowOf A4 c4 = some g → w.heap.size + 2 ≤ g ∧ g < w4.heap.size := fun g hg => by have := h4.row_lt g hg; omega
        replace h4 := h4.low (B' := w.heap.size) (by omega)
        clear hx4 gx3 h2
        go_wp2_with fail
        obtain ⟨KK, hKK⟩ : ∃ K : Bk, K = (zeroH, #[.int .i64 x1, .int .i64 x2, .int .i64 x3, .int .i64 x4, .int .i64 x5, .int .i64 x6, .slice A4 n4 c4], THd) := ⟨_, rfl⟩
        refine wp_region_typed3 (R := Boc w4.heap.size KK) Ext.steady (Boc.steady _ _) (fun _ _ => Boc.of_ext) rfl 80 rfl [0, 1, 3, 0, 8, 24, 0, 64, 192, 0, 512, 1536, 4088, 0, 8192, 24576, 0, 65536, 196608, 0, 1048575, 0, 4194303] 4194304 21 (by kernel_rfl) ?_
        -- 0: Op.move t7
        apply Stage3.step (Is _) true [] true false (Is.keeps _) (fun _ => Is.keeps _) (by kernel_rfl)
        · intro γ w1 h1
          have h1 : Ext _ w1 := h1
          simp only [List.nil_append, List.cons_append, List.map_cons, List.map_nil, Given]
          go_wp2_with fail
          exact Post.isv (Ext.refl _) rfl rfl rfl
        -- 1: Op.indexAddr 22 t43 (const (0:i64))
        apply Stage3.step (Is _) true [true] true false (Is.keeps _) (fun _ => Is.keeps _) (by kernel_rfl)
        · intro γ w1 h1
          have h1 : Ext _ w1 := h1
          simp only [List.nil_append, List.cons_append, List.map_cons, List.map_nil, Sp3.at, Sp.pr, Given]
          rintro _ rfl
          go_wp2_with fail
          exact Post.isv (Ext.refl _) rfl rfl rfl
        -- 2: Op.load 3 t44
        apply Stage3.step (Is (.int .i64 x1)) true [false, true] true false (Is.keeps _) (fun _ => Is.keeps _) (by kernel_rfl)
        · intro γ w1 h1
          have h1 : Ext _ w1 := h1
          simp only [List.nil_append, List.cons_append, List.map_cons, List.map_nil, Sp3.at, Sp.pr, Given]
          rintro _ rfl
          have q0 := h1.cell q1
          go_wp2_with fail
          exact Post.isv (Ext.refl _) rfl rfl rfl
        -- 3: Op.move t7
        apply Stage3.step (Is _) true [] true false (Is.keeps _) (fun _ => Is.keeps _) (by kernel_rfl)
        · intro γ w1 h1
          have h1 : Ext _ w1 := h1
          simp only [List.nil_append, List.cons_append, List.map_cons, List.map_nil, Given]
          go_wp2_with fail
          exact Post.isv (Ext.refl _) rfl rfl rfl
        -- 4: Op.indexAddr 22 t46 (const (1:i64))
        apply Stage3.step (Is _) true [false, false, false, true] true false (Is.keeps _) (fun _ => Is.keeps _) (by kernel_rfl)
        · intro γ w1 h1
          have h1 : Ext _ w1 := h1
          simp only [List.nil_append, List.cons_append, List.map_cons, List.map_nil, Sp3.at, Sp.pr, Given]
          rintro _ rfl
          go_wp2_with fail
          exact Post.isv (Ext.refl _) rfl rfl rfl
        -- 5: Op.load 3 t47
        apply Stage3.step (Is (.int .i64 x2)) true [false, false, false, false, true] true false (Is.keeps _) (fun _ => Is.keeps _) (by kernel_rfl)
        · intro γ w1 h1
          have h1 : Ext _ w1 := h1
          simp only [List.nil_append, List.cons_append, List.map_cons, List.map_nil, Sp3.at, Sp.pr, Given]
          rintro _ rfl
          have q0 := h1.cell q2
          go_wp2_with fail
          exact Post.isv (Ext.refl _) rfl rfl rfl
        -- 6: Op.move t7
        apply Stage3.step (Is _) true [] true false (Is.keeps _) (fun _ => Is.keeps _) (by kernel_rfl)
        · intro γ w1 h1
          have h1 : Ext _ w1 := h1
          simp only [List.nil_append, List.cons_append, List.map_cons, List.map_nil, Given]
          go_wp2_with fail
          exact Post.isv (Ext.refl _) rfl rfl rfl
        -- 7: Op.indexAddr 22 t49 (const (2:i64))
        apply Stage3.step (Is _) true [false, false, false, false, false, false, true] true false (Is.keeps _) (fun _ => Is.keeps _) (by kernel_rfl)
        · intro γ w1 h1
          have h1 : Ext _ w1 := h1
          simp only [List.nil_append, List.cons_append, List.map_cons, List.map_nil, Sp3.at, Sp.pr, Given]
          rintro _ rfl
          go_wp2_with fail
          exact Post.isv (Ext.refl _) rfl rfl rfl
        -- 8: Op.load 3 t50
        apply Stage3.step (Is (.int .i64 x3)) true [false, false, false, false, false, false, false, true] true false (Is.keeps _) (fun _ => Is.keeps _) (by kernel_rfl)
        · intro γ w1 h1
          have h1 : Ext _ w1 := h1
          simp only [List.nil_append, List.cons_append, List.map_cons, List.map_nil, Sp3.at, Sp.pr, Given]
          rintro _ rfl
          have q0 := h1.cell q3
          go_wp2_with fail
          exact Post.isv (Ext.refl _) rfl rfl rfl
        -- 9: Op.move t7
        apply Stage3.step (Is _) true [] true false (Is.keeps _) (fun _ => Is.keeps _) (by kernel_rfl)
        · intro γ w1 h1
          have h1 : Ext _ w1 := h1
          simp only [List.nil_append, List.cons_append, List.map_cons, List.map_nil, Given]
          go_wp2_with fail
          exact Post.isv (Ext.refl _) rfl rfl rfl
        -- 10: Op.indexAddr 22 t52 (const (3:i64))
        apply Stage3.step (Is _) true [false, false, false, false, false, false, false, false, false, true] true false (Is.keeps _) (fun _ => Is.keeps _) (by kernel_rfl)
        · intro γ w1 h1
          have h1 : Ext _ w1 := h1
          simp only [List.nil_append, List.cons_append, List.map_cons, List.map_nil, Sp3.at, Sp.pr, Given]
          rintro _ rfl
          go_wp2_with fail
          exact Post.isv (Ext.refl _) rfl rfl rfl
        -- 11: Op.load 3 t53
        apply Stage3.step (Is (.int .i64 x4)) true [false, false, false, false, false, false, false, false, false, false, true] true false (Is.keeps _) (fun _ => Is.keeps _) (by kernel_rfl)
        · intro γ w1 h1
          have h1 : Ext _ w1 := h1
          simp only [List.nil_append, List.cons_append, List.map_cons, List.map_nil, Sp3.at, Sp.pr, Given]
          rintro _ rfl
          have q0 := h1.cell q4
          go_wp2_with fail
          exact Post.isv (Ext.refl _) rfl rfl rfl
        -- 12: Op.build 41 #[(0, t48), (1, t51), (2, t54)]
        apply Stage3.step (Is _) true [false, false, false, false, false, true, false, false, true, false, false, true] true false (Is.keeps _) (fun _ => Is.keeps _) (by kernel_rfl)
        · intro γ w1 h1
          have h1 : Ext _ w1 := h1
          simp only [List.nil_append, List.cons_append, List.map_cons, List.map_nil, Sp3.at, Sp.pr, Given]
          rintro _ rfl
          rintro _ rfl
          rintro _ rfl
          go_wp2_with fail
          exact Post.isv (Ext.refl _) rfl rfl rfl
        -- 13: Op.move t7
        apply Stage3.step (Is _) true [] true false (Is.keeps _) (fun _ => Is.keeps _) (by kernel_rfl)
        · intro γ w1 h1
          have h1 : Ext _ w1 := h1
          simp only [List.nil_append, List.cons_append, List.map_cons, List.map_nil, Given]
          go_wp2_with fail
          exact Post.isv (Ext.refl _) rfl rfl rfl
        -- 14: Op.indexAddr 22 t56 (const (4:i64))
        apply Stage3.step (Is _) true [false, false, false, false, false, false, false, false, false, false, false, false, false, true] true false (Is.keeps _) (fun _ => Is.keeps _) (by kernel_rfl)
        · intro γ w1 h1
          have h1 : Ext _ w1 := h1
          simp only [List.nil_append, List.cons_append, List.map_cons, List.map_nil, Sp3.at, Sp.pr, Given]
          rintro _ rfl
          go_wp2_with fail
          exact Post.isv (Ext.refl _) rfl rfl rfl
        -- 15: Op.load 3 t57
        apply Stage3.step (Is (.int .i64 x5)) true [false, false, false, false, false, false, false, false, false, false, false, false, false, false, true] true false (Is.keeps _) (fun _ => Is.keeps _) (by kernel_rfl)
        · intro γ w1 h1
          have h1 : Ext _ w1 := h1
          simp only [List.nil_append, List.cons_append, List.map_cons, List.map_nil, Sp3.at, Sp.pr, Given]
          rintro _ rfl
          have q0 := h1.cell q5
          go_wp2_with fail
          exact Post.isv (Ext.refl _) rfl rfl rfl
        -- 16: Op.move t7
        apply Stage3.step (Is _) true [] true false (Is.keeps _) (fun _ => Is.keeps _) (by kernel_rfl)
        · intro γ w1 h1
          have h1 : Ext _ w1 := h1
          simp only [List.nil_append, List.cons_append, List.map_cons, List.map_nil, Given]
          go_wp2_with fail
          exact Post.isv (Ext.refl _) rfl rfl rfl
        -- 17: Op.indexAddr 22 t59 (const (5:i64))
        apply Stage3.step (Is _) true [false, false, false, false, false, false, false, false, false, false, false, false, false, false, false, false, true] true false (Is.keeps _) (fun _ => Is.keeps _) (by kernel_rfl)
        · intro γ w1 h1
          have h1 : Ext _ w1 := h1
          simp only [List.nil_append, List.cons_append, List.map_cons, List.map_nil, Sp3.at, Sp.pr, Given]
          rintro _ rfl
          go_wp2_with fail
          exact Post.isv (Ext.refl _) rfl rfl rfl
        -- 18: Op.load 3 t60
        apply Stage3.step (Is (.int .i64 x6)) true [false, false, false, false, false, false, false, false, false, false, false, false, false, false, false, false, false, true] true false (Is.keeps _) (fun _ => Is.keeps _) (by kernel_rfl)
        · intro γ w1 h1
          have h1 : Ext _ w1 := h1
          simp only [List.nil_append, List.cons_append, List.map_cons, List.map_nil, Sp3.at, Sp.pr, Given]
          rintro _ rfl
          have q0 := h1.cell q6
          go_wp2_with fail
          exact Post.isv (Ext.refl _) rfl rfl rfl
        -- 19: Op.move t10
        apply Stage3.step (Is _) true [] true false (Is.keeps _) (fun _ => Is.keeps _) (by kernel_rfl)
        · intro γ w1 h1
          have h1 : Ext _ w1 := h1
          simp only [List.nil_append, List.cons_append, List.map_cons, List.map_nil, Given]
          go_wp2_with fail
          exact Post.isv (Ext.refl _) rfl rfl rfl
        -- 20: Op.build 43 #[(0, t45), (1, t55), (2, t58), (3, t61), (4, t62)]
        apply Stage3.step (Is _) true [false, false, true, false, false, false, false, false, false, false, false, false, true, false, false, true, false, false, true, true] true false (Is.keeps _) (fun _ => Is.keeps _) (by kernel_rfl)
        · intro γ w1 h1
          have h1 : Ext _ w1 := h1
          simp only [List.nil_append, List.cons_append, List.map_cons, List.map_nil, Sp3.at, Sp.pr, Given]
          rintro _ rfl
          rintro _ rfl
          rintro _ rfl
          rintro _ rfl
          rintro _ rfl
          go_wp2_with fail
          exact Post.isv (Ext.refl _) rfl rfl rfl
        -- 21: Op.alloc 43
        apply Stage3.stepA (BocP w4.heap.size KK) true [] true false (BocP.keeps _ _) (fun _ => BocP.keeps2 _ _) (by kernel_rfl)
        · intro γ w1 h1
          have h1 : Ext _ w1 := h1
          simp only [List.nil_append, List.cons_append, List.map_cons, List.map_nil, Given]
          go_wp2_with fail
          rw [hKK]
          exact ⟨rfl, rfl, Ext.alloc _ _, BocP.made _ _ _ h1.size⟩
        -- 22: Op.store 43 t13 t63
        apply Stage3.stepD (fun γ => BocS KK γ) false [false, false, false, false, false, false, false, false, false, false, false, false, false, false, false, false, false, false, false, false, true, true] true true (fun γ => BocS.keeps _ _) (fun h => by cases h) (by kernel_rfl)
        · intro γ w1 h1
          have h1 : Ext _ w1 := h1
          simp only [List.nil_append, List.cons_append, List.map_cons, List.map_nil, Sp3.at, Sp.pr, Given]
          rintro _ rfl
          rintro _ ⟨rfl, g8, rfl, hg8, hb8⟩
          rw [hKK] at hb8
          obtain ⟨⟨u0, m0⟩, r0⟩ := hb8.cell rfl rfl 0 (by omega)
          obtain ⟨⟨u1, m1⟩, r1⟩ := hb8.cell rfl rfl 1 (by omega)
          obtain ⟨⟨u2, m2⟩, r2⟩ := hb8.cell rfl rfl 2 (by omega)
          obtain ⟨⟨u3, m3⟩, r3⟩ := hb8.cell rfl rfl 3 (by omega)
          obtain ⟨⟨u4, m4⟩, r4⟩ := hb8.cell rfl rfl 4 (by omega)
          obtain ⟨⟨u5, m5⟩, r5⟩ := hb8.cell rfl rfl 5 (by omega)
          obtain ⟨⟨u6, m6⟩, r6⟩ := hb8.cell rfl rfl 6 (by omega)
          go_wp2_with fail
          have hbs := boc_set (H := w4.heap.size) hg8 hb8 rfl
          refine ⟨rfl, rfl, by rw [hKK]; exact hbs.1, fun g e => ?_⟩
          obtain rfl : g8 = g := by injection e with e; injection e with e; injection e with e
          rw [hKK]
          exact hbs.2
        apply Stage3.nil [true, true, true, true, true, true, true, true, true, true, true, true, true, true, true, true, true, true, true, true, true, true, true] (by kernel_rfl)
        intro γ w1 h1
        have h1 : (Boc w4.heap.size KK) _ w1 := h1
        simp only [List.nil_append, List.cons_append, List.map_cons, List.map_nil, Sp3.at, Sp.pr]
        refine Fin2.is_ ?_
        refine Fin2.is_ ?_
        refine Fin2.is_ ?_
        refine Fin2.is_ ?_
        refine Fin2.is_ ?_
        refine Fin2.is_ ?_
        refine Fin2.is_ ?_
        refine Fin2.is_ ?_
        refine Fin2.is_ ?_
        refine Fin2.is_ ?_
        refine Fin2.is_ ?_
        refine Fin2.is_ ?_
        refine Fin2.is_ ?_
        refine Fin2.is_ ?_
        refine Fin2.is_ ?_
        refine Fin2.is_ ?_
        refine Fin2.is_ ?_
        refine Fin2.is_ ?_
        refine Fin2.is_ ?_
        refine Fin2.is_ ?_
        refine Fin2.is_ ?_
        refine Fin2.step_ ?_
        rintro _ ⟨rfl, g8, rfl, hg8, hb8⟩
        refine Fin2.step_ ?_
        rintro _ hst8
        refine Fin2.nil_ ?_
        go_simp
        have hb9 := hst8 g8 rfl
        rw [hKK] at hb9
        have g8x : Ext w4 w1 := (Ext.refl w4).but h1.but (Nat.le_refl _) (fun _ h => h.elim)
        have p0 : w1.cell? ⟨g8, 0, none⟩ = some (.int .i64 x1) := blk_cell hb9 0
        have p1 : w1.cell? ⟨g8, 1, none⟩ = some (.int .i64 x2) := blk_cell hb9 1
        have p2 : w1.cell? ⟨g8, 2, none⟩ = some (.int .i64 x3) := blk_cell hb9 2
        have p3 : w1.cell? ⟨g8, 3, none⟩ = some (.int .i64 x4) := blk_cell hb9 3
        have p4 : w1.cell? ⟨g8, 4, none⟩ = some (.int .i64 x5) := blk_cell hb9 4
        have p5 : w1.cell? ⟨g8, 5, none⟩ = some (.int .i64 x6) := blk_cell hb9 5
        have p6 : w1.cell? ⟨g8, 6, none⟩ = some (.slice A4 n4 c4) := blk_cell hb9 6
        replace l0 := g8x.frozenH k0 l0
        replace k0 := g8x.cell k0
        replace z0 := g8x.cell z0
        replace l1 := g8x.frozenH k1 l1
        replace k1 := g8x.cell k1
        replace z1 := g8x.cell z1
        replace l2 := g8x.frozenH k2 l2
        replace k2 := g8x.cell k2
        replace z2 := g8x.cell z2
        replace l3 := g8x.frozenH k3 l3
        replace k3 := g8x.cell k3
        replace z3 := g8x.cell z3
        replace l4 := g8x.frozenH k4 l4
        replace k4 := g8x.cell k4
        replace z4 := g8x.cell z4
        replace l5 := g8x.frozenH k5 l5
        replace k5 := g8x.cell k5
        replace z5 := g8x.cell z5
        replace l6 := g8x.frozenH k6 l6
        replace k6 := g8x.cell k6
        replace z6 := g8x.cell z6
        have gx8 := gx4.trans g8x
        replace h4 := h4.ext mk_rep g8x
        have hg8w : w.heap.size < g8 := by omega
        obtain ⟨wb, rfl⟩ : ∃ q, q = w1 := ⟨_, rfl⟩
        clear hst8 hb9 hb8 hKK h1 g8x gx4 q1 q2 q3 q4 q5 q6
        go_wp2_with fail
        refine (ref_PutHead ⟨x1, x2, x3, x4, x5, x6, xs⟩ h4.lst HS (by omega) HR HL).mono ?_
        rintro e w5 ⟨A5, n5, c5, rfl, h5, hx5⟩
        replace l0 := hx5.frozenH k0 l0
        replace k0 := hx5.cell k0
        replace z0 := hx5.cell z0
        replace l1 := hx5.frozenH k1 l1
        replace k1 := hx5.cell k1
        replace z1 := hx5.cell z1
        replace l2 := hx5.frozenH k2 l2
        replace k2 := hx5.cell k2
        replace z2 := hx5.cell z2
        replace l3 := hx5.frozenH k3 l3
        replace k3 := hx5.cell k3
        replace z3 := hx5.cell z3
        replace l4 := hx5.frozenH k4 l4
        replace k4 := hx5.cell k4
        replace z4 := hx5.cell z4
        replace l5 := hx5.frozenH k5 l5
        replace k5 := hx5.cell k5
        replace z5 := hx5.cell z5
        replace l6 := hx5.frozenH k6 l6
        replace k6 := hx5.cell k6
        replace z6 := hx5.cell z6
        replace p0 := hx5.cell p0
        replace p1 := hx5.cell p1
        replace p2 := hx5.cell p2
        replace p3 := hx5.cell p3
        replace p4 := hx5.cell p4
        replace p5 := hx5.cell p5
        replace p6 := hx5.cell p6
        have gw5 := gx8.trans hx5
        replace h4 := h4.ext mk_rep hx5
        have hrow2 : ∀ g, rowOf A4 c4 = some g → g ≠ w.heap.size := fun g hg e => by have := (hrow g hg).1; omega
        have hne : w.heap.size ≠ g8 := by omega
        have t2 := run_text_u8 (hb.ext gw5)
        have t1 := run_text_u8 h5.sl
        clear hx5 gx8
        cases r with
        | false =>
          have e1 := HO.out
          rw [if_neg (by simp)] at e1
          subst e1
          obtain rfl : 2 = y := hy1
          clear HO
          rw [show (if false = true then (0 : Int) else 1) = 1 from rfl]
          go_wp2_with fail
          refine bodyPost_ret (v := .tuple #[hdV hd0 none 0 0, .int .i64 2]) ?hres rfl ⟨_, _, _, rfl, OwnL.nil _ _ _ _, ?hxx⟩
          case hres => simp [results, Try.results29, go_sem, hd0, k0, k1, k2, k3, k4, k5, k6]
          case hxx => (repeat (first | (with_reducible exact Ext.refl _) | (with_reducible assumption) | (with_reducible refine Ext.draws ?_) | (with_reducible refine Ext.allocs ?_ _) | (with_reducible refine Ext.sets ?_ ?_ _) | (with_reducible exact Nat.le_refl _) | (exact (by simp)) | (exact (by simp; omega))))
        | true =>
          obtain rfl : putH ⟨x1, x2, x3, x4, x5, x6, xs⟩ = L := HL.out
          rw [show (if true = true then (0 : Int) else 1) = 0 from rfl]
          by_cases hz : putH ⟨x1, x2, x3, x4, x5, x6, xs⟩ = b
          · have e1 := HO.out
            rw [if_pos ⟨rfl, hz⟩] at e1
            subst e1
            obtain rfl : 0 = y := hy1
            rw [hz] at t1
            clear HO HL hL hz h5
            go_wp2_with fail
            refine bodyPost_ret (v := .tuple #[hdV ⟨x1, x2, x3, x4, x5, x6, xs⟩ A4 n4 c4, .int .i64 0]) ?hres rfl ⟨_, _, _, rfl, ?hown, ?hxx⟩
            case hres => simp [results, Try.results29, go_sem, k0, k1, k2, k3, k4, k5, k6]
            case hown => exact (((((((h4.farM hrow2 _).farM hrow2 _).farM hrow2 _).farM hrow2 _).farM hrow2 _).farM hrow2 _).farM hrow2 _)
            case hxx => (repeat (first | (with_reducible exact Ext.refl _) | (with_reducible assumption) | (with_reducible refine Ext.draws ?_) | (with_reducible refine Ext.allocs ?_ _) | (with_reducible refine Ext.sets ?_ ?_ _) | (with_reducible exact Nat.le_refl _) | (exact (by simp)) | (exact (by simp; omega))))
          · have e1 := HO.out
            rw [if_neg (by rintro ⟨_, e⟩; exact hz e)] at e1
            subst e1
            obtain rfl : 2 = y := hy1
            obtain ⟨L2, hL2⟩ : ∃ q, putH ⟨x1, x2, x3, x4, x5, x6, xs⟩ = q := ⟨_, rfl⟩
            rw [hL2] at t1 hz
            have hzb : (L2 == b) = false := by rw [beq_eq_false_iff_ne]; exact hz
            clear HO HL hL h5 hL2 hz
            go_wp2_with fail
            refine bodyPost_ret (v := .tuple #[hdV hd0 none 0 0, .int .i64 2]) ?hres rfl ⟨_, _, _, rfl, OwnL.nil _ _ _ _, ?hxx⟩
            case hres => simp [results, Try.results29, go_sem, hd0, k0, k1, k2, k3, k4, k5, k6]
            case hxx => (repeat (first | (with_reducible exact Ext.refl _) | (with_reducible assumption) | (with_reducible refine Ext.draws ?_) | (with_reducible refine Ext.allocs ?_ _) | (with_reducible refine Ext.sets ?_ ?_ _) | (with_reducible exact Nat.le_refl _) | (exact (by simp)) | (exact (by simp; omega))))
end Go.Proofs.Ytoeknbogaclfdaa
