/-
  Records out of bytes: contract of the program's Get.
-/
import Derived.Test.YtoeknbogaclfdaaZHdParse
import Derived.Test.YtoeknbogaclfdaaZHdPut
namespace Go.Proofs.Ytoeknbogaclfdaa
open Go.RowKit
set_option linter.unusedVariables false
set_option linter.unusedSimpArgs false
set_option linter.unnecessarySimpa false
set_option maxRecDepth 100000

/-- why there is none: no seal, no form -/
def whyO (c : Option (List UInt8)) (s : Bool) : Int := if c.isSome = true then (if s = true then 0 else 2) else 13
theorem gtO_len {l : List UInt8} {a most : Int} {p : List UInt8 × Int} (h : gtO l a most = some p) (hm : 0 ≤ most) : (p.1.length : Int) ≤ most := by
  unfold gtO at h
  obtain ⟨q, h1, h2⟩ := Option.bind_eq_some_iff.1 h
  split at h2
  · rename_i hq
    injection h2 with h2
    subst h2
    have := hq.1
    simp only [List.length_take]
    omega
  · cases h2
theorem mkG_short {rf : Bool} {b : List UInt8} {a d : Int} {x : Mk} (h : mkG rf b a = some (x, d)) : x.nm.size ≤ 20 := by
  unfold mkG at h
  obtain ⟨p, h1, h2⟩ := Option.bind_eq_some_iff.1 h
  split at h2
  · cases h2
  · obtain ⟨q, h3, h4⟩ := Option.map_eq_some_iff.1 h2
    have hl := gtO_len h3 (by unfold mostG; split <;> omega)
    injection h4 with h4 h5
    subst h4
    have : mostG rf ≤ 20 := by unfold mostG; split <;> omega
    show (⟨q.1.toArray⟩ : ByteArray).size ≤ 20
    simp only [ByteArray.size, List.size_toArray]
    omega
theorem mksG_short {rf : Bool} : ∀ (f : Nat) (b : List UInt8) (a : Int) (p : List Mk × Int), mksG rf f b a = some p → p.1.length = f ∧ ∀ x ∈ p.1, x.nm.size ≤ 20
  | 0, b, a, p, h => by
    simp [mksG] at h
    subst h
    simp
  | f + 1, b, a, p, h => by
    rw [mksG] at h
    obtain ⟨q, h1, h2⟩ := Option.bind_eq_some_iff.1 h
    obtain ⟨r, h3, h4⟩ := Option.map_eq_some_iff.1 h2
    obtain ⟨i1, i2⟩ := mksG_short f b _ r h3
    have hx := mkG_short (x := q.1) (d := q.2) h1
    subst h4
    refine ⟨by simp [i1], fun y hy => ?_⟩
    rcases List.mem_cons.1 hy with rfl | hy
    · exact hx
    · exact i2 y hy
theorem mksO_short {rf : Bool} {b : List UInt8} {a : Int} {p : List Mk × Int} (h : mksO rf b a = some p) : p.1.length ≤ 17 ∧ ∀ x ∈ p.1, x.nm.size ≤ 20 := by
  unfold mksO at h
  split at h
  · rename_i hc
    obtain ⟨h1, h2⟩ := mksG_short _ _ _ _ h
    exact ⟨by omega, h2⟩
  · cases h
theorem parseH_short {rf : Bool} {b : List UInt8} {h : Hd} (hp : parseH rf b = some h) : h.marks.length ≤ 17 ∧ ∀ x ∈ h.marks, x.nm.size ≤ 20 := by
  unfold parseH at hp
  obtain ⟨q, h1, h2⟩ := Option.bind_eq_some_iff.1 hp
  obtain ⟨r, h3, h4⟩ := Option.map_eq_some_iff.1 h2
  subst h4
  exact mksO_short h3
theorem getH_open {rf : Bool} {b : List UInt8} (h : crcOpen b = none) : getH rf b = none := by unfold getH; rw [h]; rfl
theorem getH_form {rf : Bool} {b c : List UInt8} (h : crcOpen b = some c) (hp : parseH rf c = none) : getH rf b = none := by unfold getH; rw [h, Option.bind_some, hp]; rfl
theorem getH_at {rf : Bool} {b c : List UInt8} {h : Hd} (hc : crcOpen b = some c) (hp : parseH rf c = some h) : getH rf b = if rightH h = true ∧ putH h = b then some h else none := by
  unfold getH
  rw [hc, Option.bind_some, hp, Option.bind_some]
set_option maxHeartbeats 4000000 in
theorem header_Get {A : Option Addr} {n c : Nat} {b : List UInt8} {w : World} (hb : Sl w A n c b) (hn6 : n ≤ 1000000) {o : Option Hd} (ho : Hid (getH false b = o)) {y : Int} (hy : Hid (whyO (crcOpen b) o.isSome = y)) :
    Calls Try.prog 23 #[.slice A n c] w fun e w' => ∃ A' n' c', e = .returned (.tuple #[hdV (o.getD hd0) A' n' c', .int .i64 y]) ∧ OwnL TMk 4 mkR w' w.heap.size A' n' c' (o.getD hd0).marks ∧ Ext w w' := by
  have h63 := hb.n63
  obtain ⟨cb, hcb⟩ : ∃ q, crcOpen b = q := ⟨_, rfl⟩
  have HCB := Lib.hid hcb
  have hy1 := hy.out
  have ho1 := ho.out
  rw [hcb] at hy1
  clear hy ho
  cases cb with
  | none =>
    rw [getH_open hcb] at ho1
    subst ho1
    obtain rfl : 13 = y := hy1
    clear hcb
    go_enter Try.func23, Try.ntmps23
    go_wp2_with fail
    refine (crc_Open_any A n c b _ (hb.ext (Ext.alloc _ _)) (by omega) HCB).mono ?_
    rintro e w2 ⟨A2, n2, c2, rfl, h2, hx2⟩
    have k0 : w2.cell? ⟨w.heap.size, 0, none⟩ = some (.int .i64 0) := hx2.cell (cell_new w zeroH THd 0)
    have l0 : w2.frozen? ⟨w.heap.size, 0, none⟩ = false := hx2.frozenH (cell_new w zeroH THd 0) (frozen_new _ _ _ _)
    have k1 : w2.cell? ⟨w.heap.size, 1, none⟩ = some (.int .i64 0) := hx2.cell (cell_new w zeroH THd 1)
    have l1 : w2.frozen? ⟨w.heap.size, 1, none⟩ = false := hx2.frozenH (cell_new w zeroH THd 1) (frozen_new _ _ _ _)
    have k2 : w2.cell? ⟨w.heap.size, 2, none⟩ = some (.int .i64 0) := hx2.cell (cell_new w zeroH THd 2)
    have l2 : w2.frozen? ⟨w.heap.size, 2, none⟩ = false := hx2.frozenH (cell_new w zeroH THd 2) (frozen_new _ _ _ _)
    have k3 : w2.cell? ⟨w.heap.size, 3, none⟩ = some (.int .i64 0) := hx2.cell (cell_new w zeroH THd 3)
    have l3 : w2.frozen? ⟨w.heap.size, 3, none⟩ = false := hx2.frozenH (cell_new w zeroH THd 3) (frozen_new _ _ _ _)
    have k4 : w2.cell? ⟨w.heap.size, 4, none⟩ = some (.int .i64 0) := hx2.cell (cell_new w zeroH THd 4)
    have l4 : w2.frozen? ⟨w.heap.size, 4, none⟩ = false := hx2.frozenH (cell_new w zeroH THd 4) (frozen_new _ _ _ _)
    have k5 : w2.cell? ⟨w.heap.size, 5, none⟩ = some (.int .i64 0) := hx2.cell (cell_new w zeroH THd 5)
    have l5 : w2.frozen? ⟨w.heap.size, 5, none⟩ = false := hx2.frozenH (cell_new w zeroH THd 5) (frozen_new _ _ _ _)
    have k6 : w2.cell? ⟨w.heap.size, 6, none⟩ = some (.slice none 0 0) := hx2.cell (cell_new w zeroH THd 6)
    have l6 : w2.frozen? ⟨w.heap.size, 6, none⟩ = false := hx2.frozenH (cell_new w zeroH THd 6) (frozen_new _ _ _ _)
    have gx2 : Ext w w2 := (Ext.alloc _ _).trans hx2
    clear hx2
    go_wp2_with fail
    refine bodyPost_ret (v := .tuple #[hdV hd0 none 0 0, .int .i64 13]) ?hres rfl ⟨_, _, _, rfl, OwnL.nil _ _ _ _, ?hxx⟩
    case hres => simp [results, Try.results23, go_sem, hd0, k0, k1, k2, k3, k4, k5, k6]
    case hxx => (repeat (first | (with_reducible exact Ext.refl _) | (with_reducible assumption) | (with_reducible refine Ext.draws ?_) | (with_reducible refine Ext.allocs ?_ _) | (with_reducible refine Ext.sets ?_ ?_ _) | (with_reducible exact Nat.le_refl _) | (exact (by simp)) | (exact (by simp; omega))))
  | some cb =>
    obtain ⟨op, hop⟩ : ∃ q, parseH false cb = q := ⟨_, rfl⟩
    have HOP := Lib.hid hop
    have hcl : cb.length ≤ n := by
      unfold crcOpen at hcb
      split at hcb
      · injection hcb with hcb
        rw [← hcb, List.length_take, hb.len]
        omega
      · cases hcb
    cases op with
    | none =>
      rw [getH_form hcb hop] at ho1
      subst ho1
      obtain rfl : 2 = y := hy1
      clear hcb hop
      go_enter Try.func23, Try.ntmps23
      go_wp2_with fail
      refine (crc_Open_any A n c b _ (hb.ext (Ext.alloc _ _)) (by omega) HCB).mono ?_
      rintro e w2 ⟨A2, n2, c2, rfl, h2, hx2⟩
      have hn2 : n2 ≤ 1000000 := by rw [← h2.len]; exact Nat.le_trans hcl hn6
      go_wp2_with fail
      have hpc := header_parse h2.sl hn2 HOP
      simp only [Option.getD_none, Option.isSome_none, hd0] at hpc
      refine hpc.mono ?_
      rintro e w3 ⟨A3, n3, c3, rfl, h3, hx3⟩
      clear hpc
      obtain rfl : n3 = 0 := h3.len.symm
      have gx3 := hx2.trans hx3
      have gx4 := gx3.allocs (.cells #[.int .i64 0, .int .i64 0, .int .i64 0, .int .i64 0, .int .i64 0, .int .i64 0, .slice A3 0 c3] THd)
      have k0 : (w3.alloc (.cells #[.int .i64 0, .int .i64 0, .int .i64 0, .int .i64 0, .int .i64 0, .int .i64 0, .slice A3 0 c3] THd)).cell? ⟨w.heap.size, 0, none⟩ = some (.int .i64 0) := gx4.cell (cell_new w zeroH THd 0)
      have l0 : (w3.alloc (.cells #[.int .i64 0, .int .i64 0, .int .i64 0, .int .i64 0, .int .i64 0, .int .i64 0, .slice A3 0 c3] THd)).frozen? ⟨w.heap.size, 0, none⟩ = false := gx4.frozenH (cell_new w zeroH THd 0) (frozen_new _ _ _ _)
      have k1 : (w3.alloc (.cells #[.int .i64 0, .int .i64 0, .int .i64 0, .int .i64 0, .int .i64 0, .int .i64 0, .slice A3 0 c3] THd)).cell? ⟨w.heap.size, 1, none⟩ = some (.int .i64 0) := gx4.cell (cell_new w zeroH THd 1)
      have l1 : (w3.alloc (.cells #[.int .i64 0, .int .i64 0, .int .i64 0, .int .i64 0, .int .i64 0, .int .i64 0, .slice A3 0 c3] THd)).frozen? ⟨w.heap.size, 1, none⟩ = false := gx4.frozenH (cell_new w zeroH THd 1) (frozen_new _ _ _ _)
      have k2 : (w3.alloc (.cells #[.int .i64 0, .int .i64 0, .int .i64 0, .int .i64 0, .int .i64 0, .int .i64 0, .slice A3 0 c3] THd)).cell? ⟨w.heap.size, 2, none⟩ = some (.int .i64 0) := gx4.cell (cell_new w zeroH THd 2)
      have l2 : (w3.alloc (.cells #[.int .i64 0, .int .i64 0, .int .i64 0, .int .i64 0, .int .i64 0, .int .i64 0, .slice A3 0 c3] THd)).frozen? ⟨w.heap.size, 2, none⟩ = false := gx4.frozenH (cell_new w zeroH THd 2) (frozen_new _ _ _ _)
      have k3 : (w3.alloc (.cells #[.int .i64 0, .int .i64 0, .int .i64 0, .int .i64 0, .int .i64 0, .int .i64 0, .slice A3 0 c3] THd)).cell? ⟨w.heap.size, 3, none⟩ = some (.int .i64 0) := gx4.cell (cell_new w zeroH THd 3)
      have l3 : (w3.alloc (.cells #[.int .i64 0, .int .i64 0, .int .i64 0, .int .i64 0, .int .i64 0, .int .i64 0, .slice A3 0 c3] THd)).frozen? ⟨w.heap.size, 3, none⟩ = false := gx4.frozenH (cell_new w zeroH THd 3) (frozen_new _ _ _ _)
      have k4 : (w3.alloc (.cells #[.int .i64 0, .int .i64 0, .int .i64 0, .int .i64 0, .int .i64 0, .int .i64 0, .slice A3 0 c3] THd)).cell? ⟨w.heap.size, 4, none⟩ = some (.int .i64 0) := gx4.cell (cell_new w zeroH THd 4)
      have l4 : (w3.alloc (.cells #[.int .i64 0, .int .i64 0, .int .i64 0, .int .i64 0, .int .i64 0, .int .i64 0, .slice A3 0 c3] THd)).frozen? ⟨w.heap.size, 4, none⟩ = false := gx4.frozenH (cell_new w zeroH THd 4) (frozen_new _ _ _ _)
      have k5 : (w3.alloc (.cells #[.int .i64 0, .int .i64 0, .int .i64 0, .int .i64 0, .int .i64 0, .int .i64 0, .slice A3 0 c3] THd)).cell? ⟨w.heap.size, 5, none⟩ = some (.int .i64 0) := gx4.cell (cell_new w zeroH THd 5)
      have l5 : (w3.alloc (.cells #[.int .i64 0, .int .i64 0, .int .i64 0, .int .i64 0, .int .i64 0, .int .i64 0, .slice A3 0 c3] THd)).frozen? ⟨w.heap.size, 5, none⟩ = false := gx4.frozenH (cell_new w zeroH THd 5) (frozen_new _ _ _ _)
      have k6 : (w3.alloc (.cells #[.int .i64 0, .int .i64 0, .int .i64 0, .int .i64 0, .int .i64 0, .int .i64 0, .slice A3 0 c3] THd)).cell? ⟨w.heap.size, 6, none⟩ = some (.slice none 0 0) := gx4.cell (cell_new w zeroH THd 6)
      have l6 : (w3.alloc (.cells #[.int .i64 0, .int .i64 0, .int .i64 0, .int .i64 0, .int .i64 0, .int .i64 0, .slice A3 0 c3] THd)).frozen? ⟨w.heap.size, 6, none⟩ = false := gx4.frozenH (cell_new w zeroH THd 6) (frozen_new _ _ _ _)
      have gx5 : Ext w w3 := (Ext.alloc _ _).trans gx3
      clear hx2 hx3 gx3 gx4 h2 h3
      go_wp2_with fail
      refine bodyPost_ret (v := .tuple #[hdV hd0 none 0 0, .int .i64 2]) ?hres rfl ⟨_, _, _, rfl, OwnL.nil _ _ _ _, ?hxx⟩
      case hres => simp [results, Try.results23, go_sem, hd0, k0, k1, k2, k3, k4, k5, k6]
      case hxx => (repeat (first | (with_reducible exact Ext.refl _) | (with_reducible assumption) | (with_reducible refine Ext.draws ?_) | (with_reducible refine Ext.allocs ?_ _) | (with_reducible refine Ext.sets ?_ ?_ _) | (with_reducible exact Nat.le_refl _) | (exact (by simp)) | (exact (by simp; omega))))
    | some h =>
      have hsh := parseH_short hop
      rw [getH_at hcb hop] at ho1
      obtain ⟨r, hr⟩ : ∃ q, rightH h = q := ⟨_, rfl⟩
      have HR := Lib.hid hr
      obtain ⟨L, hL⟩ : ∃ q, putHr h r = q := ⟨_, rfl⟩
      have HL := Lib.hid hL
      have HS : Hid (Shorts h.marks) := fun x hx => by have := hsh.2 x hx; omega
      have hln : h.marks.length ≤ 17 := hsh.1
      have HO : Hid ((if r = true ∧ putH h = b then some h else none) = o) := by unfold Hid; rw [← ho1, hr]
      clear hcb hop hsh ho1 hr
      obtain ⟨h1, h2', h3', h4, nx, sq, xs⟩ := h
      simp only at hln HS
      go_enter Try.func23, Try.ntmps23
      go_wp2_with fail
      refine (crc_Open_any A n c b _ (hb.ext (Ext.alloc _ _)) (by omega) HCB).mono ?_
      rintro e w2 ⟨A2, n2, c2, rfl, h2, hx2⟩
      have hn2 : n2 ≤ 1000000 := by rw [← h2.len]; exact Nat.le_trans hcl hn6
      go_wp2_with fail
      have hpc := header_parse h2.sl hn2 HOP
      simp only [Option.getD_some, Option.isSome_some] at hpc
      refine hpc.mono ?_
      rintro e w3 ⟨A3, n3, c3, rfl, h3, hx3⟩
      clear hpc
      have hn3 : n3 ≤ 17 := by rw [← h3.len]; exact hln
      have gx3 := hx2.trans hx3
      have gx5 : Ext w w3 := (Ext.alloc _ _).trans gx3
      have hw2 : w.heap.size < w2.heap.size := World.block_lt_of_cell? _ _ (hx2.cell (cell_new w zeroH THd 0))
      clear hx3 h2 hx2 HOP
      go_wp2_with fail
      have lm3 := h3.lst.ext mk_rep (Ext.alloc w3 (.cells #[.int .i64 h1, .int .i64 h2', .int .i64 h3', .int .i64 h4, .int .i64 nx, .int .i64 sq, .slice A3 n3 c3] THd))
      refine (header_Put ⟨h1, h2', h3', h4, nx, sq, xs⟩ lm3 HS (by omega) HR HL).mono ?_
      rintro e w5 ⟨A5, n5, c5, rfl, h5, hx5⟩
      have gx6 := (gx3.allocs (.cells #[.int .i64 h1, .int .i64 h2', .int .i64 h3', .int .i64 h4, .int .i64 nx, .int .i64 sq, .slice A3 n3 c3] THd)).trans hx5
      have k0 : w5.cell? ⟨w.heap.size, 0, none⟩ = some (.int .i64 0) := gx6.cell (cell_new w zeroH THd 0)
      have l0 : w5.frozen? ⟨w.heap.size, 0, none⟩ = false := gx6.frozenH (cell_new w zeroH THd 0) (frozen_new _ _ _ _)
      have k1 : w5.cell? ⟨w.heap.size, 1, none⟩ = some (.int .i64 0) := gx6.cell (cell_new w zeroH THd 1)
      have l1 : w5.frozen? ⟨w.heap.size, 1, none⟩ = false := gx6.frozenH (cell_new w zeroH THd 1) (frozen_new _ _ _ _)
      have k2 : w5.cell? ⟨w.heap.size, 2, none⟩ = some (.int .i64 0) := gx6.cell (cell_new w zeroH THd 2)
      have l2 : w5.frozen? ⟨w.heap.size, 2, none⟩ = false := gx6.frozenH (cell_new w zeroH THd 2) (frozen_new _ _ _ _)
      have k3 : w5.cell? ⟨w.heap.size, 3, none⟩ = some (.int .i64 0) := gx6.cell (cell_new w zeroH THd 3)
      have l3 : w5.frozen? ⟨w.heap.size, 3, none⟩ = false := gx6.frozenH (cell_new w zeroH THd 3) (frozen_new _ _ _ _)
      have k4 : w5.cell? ⟨w.heap.size, 4, none⟩ = some (.int .i64 0) := gx6.cell (cell_new w zeroH THd 4)
      have l4 : w5.frozen? ⟨w.heap.size, 4, none⟩ = false := gx6.frozenH (cell_new w zeroH THd 4) (frozen_new _ _ _ _)
      have k5 : w5.cell? ⟨w.heap.size, 5, none⟩ = some (.int .i64 0) := gx6.cell (cell_new w zeroH THd 5)
      have l5 : w5.frozen? ⟨w.heap.size, 5, none⟩ = false := gx6.frozenH (cell_new w zeroH THd 5) (frozen_new _ _ _ _)
      have k6 : w5.cell? ⟨w.heap.size, 6, none⟩ = some (.slice none 0 0) := gx6.cell (cell_new w zeroH THd 6)
      have l6 : w5.frozen? ⟨w.heap.size, 6, none⟩ = false := gx6.frozenH (cell_new w zeroH THd 6) (frozen_new _ _ _ _)
      have x0 : w5.cell? ⟨w3.heap.size, 0, none⟩ = some (.int .i64 h1) := hx5.cell (cell_new w3 #[.int .i64 h1, .int .i64 h2', .int .i64 h3', .int .i64 h4, .int .i64 nx, .int .i64 sq, .slice A3 n3 c3] THd 0)
      have x1 : w5.cell? ⟨w3.heap.size, 1, none⟩ = some (.int .i64 h2') := hx5.cell (cell_new w3 #[.int .i64 h1, .int .i64 h2', .int .i64 h3', .int .i64 h4, .int .i64 nx, .int .i64 sq, .slice A3 n3 c3] THd 1)
      have x2 : w5.cell? ⟨w3.heap.size, 2, none⟩ = some (.int .i64 h3') := hx5.cell (cell_new w3 #[.int .i64 h1, .int .i64 h2', .int .i64 h3', .int .i64 h4, .int .i64 nx, .int .i64 sq, .slice A3 n3 c3] THd 2)
      have x3 : w5.cell? ⟨w3.heap.size, 3, none⟩ = some (.int .i64 h4) := hx5.cell (cell_new w3 #[.int .i64 h1, .int .i64 h2', .int .i64 h3', .int .i64 h4, .int .i64 nx, .int .i64 sq, .slice A3 n3 c3] THd 3)
      have x4 : w5.cell? ⟨w3.heap.size, 4, none⟩ = some (.int .i64 nx) := hx5.cell (cell_new w3 #[.int .i64 h1, .int .i64 h2', .int .i64 h3', .int .i64 h4, .int .i64 nx, .int .i64 sq, .slice A3 n3 c3] THd 4)
      have x5 : w5.cell? ⟨w3.heap.size, 5, none⟩ = some (.int .i64 sq) := hx5.cell (cell_new w3 #[.int .i64 h1, .int .i64 h2', .int .i64 h3', .int .i64 h4, .int .i64 nx, .int .i64 sq, .slice A3 n3 c3] THd 5)
      have x6 : w5.cell? ⟨w3.heap.size, 6, none⟩ = some (.slice A3 n3 c3) := hx5.cell (cell_new w3 #[.int .i64 h1, .int .i64 h2', .int .i64 h3', .int .i64 h4, .int .i64 nx, .int .i64 sq, .slice A3 n3 c3] THd 6)
      have gw5 : Ext w w5 := (Ext.alloc _ _).trans gx6
      have hown5 := (h3.ext mk_rep (Ext.alloc w3 (.cells #[.int .i64 h1, .int .i64 h2', .int .i64 h3', .int .i64 h4, .int .i64 nx, .int .i64 sq, .slice A3 n3 c3] THd))).ext mk_rep hx5
      have hne : w.heap.size ≠ w3.heap.size := by
        have := World.block_lt_of_cell? _ _ (gx3.cell (cell_new w zeroH THd 0))
        simp only at this
        omega
      have hrow : ∀ g, rowOf A3 c3 = some g → g ≠ w.heap.size := fun g hg e => by have := (hown5.row_lt g hg).1; omega
      have hb5 := hb.ext gw5
      clear gx3 gx5 gx6 hx5 h3 lm3
      cases r with
      | false =>
        have e1 := HO.out
        rw [if_neg (by simp)] at e1
        subst e1
        obtain rfl : 2 = y := hy1
        clear HO
        rw [show (if false = true then (0 : Int) else 1) = 1 from rfl]
        go_wp2_with fail
        refine bodyPost_ret (v := .tuple #[hdV hd0 none 0 0, .int .i64 2]) ?hres rfl ⟨_, _, _, rfl, OwnL.nil _ _ _ _, ?hxx⟩
        case hres => simp [results, Try.results23, go_sem, hd0, k0, k1, k2, k3, k4, k5, k6]
        case hxx => (repeat (first | (with_reducible exact Ext.refl _) | (with_reducible assumption) | (with_reducible refine Ext.draws ?_) | (with_reducible refine Ext.allocs ?_ _) | (with_reducible refine Ext.sets ?_ ?_ _) | (with_reducible exact Nat.le_refl _) | (exact (by simp)) | (exact (by simp; omega))))
      | true =>
        obtain rfl : putH ⟨h1, h2', h3', h4, nx, sq, xs⟩ = L := HL.out
        rw [show (if true = true then (0 : Int) else 1) = 0 from rfl]
        obtain ⟨z, hz⟩ : ∃ z, (putH ⟨h1, h2', h3', h4, nx, sq, xs⟩ == b) = z := ⟨_, rfl⟩
        have HZ := Lib.hid hz
        have hbe := bytes_Equal A5 n5 c5 _ A n c b _ h5.sl hb5
        rw [HZ.out] at hbe
        cases z with
        | false =>
          have e1 := HO.out
          rw [if_neg (by rintro ⟨_, e⟩; rw [e] at hz; simp at hz)] at e1
          subst e1
          obtain rfl : 2 = y := hy1
          clear HO hz HL hL
          go_wp2_with fail
          refine hbe.mono ?_
          rintro e _ ⟨rfl, rfl⟩
          go_wp2_with fail
          refine bodyPost_ret (v := .tuple #[hdV hd0 none 0 0, .int .i64 2]) ?hres rfl ⟨_, _, _, rfl, OwnL.nil _ _ _ _, ?hxx⟩
          case hres => simp [results, Try.results23, go_sem, hd0, k0, k1, k2, k3, k4, k5, k6]
          case hxx => (repeat (first | (with_reducible exact Ext.refl _) | (with_reducible assumption) | (with_reducible refine Ext.draws ?_) | (with_reducible refine Ext.allocs ?_ _) | (with_reducible refine Ext.sets ?_ ?_ _) | (with_reducible exact Nat.le_refl _) | (exact (by simp)) | (exact (by simp; omega))))
        | true =>
          have e1 := HO.out
          rw [if_pos ⟨rfl, eq_of_beq hz⟩] at e1
          subst e1
          obtain rfl : 0 = y := hy1
          clear HO hz HL hL
          go_wp2_with fail
          refine hbe.mono ?_
          rintro e _ ⟨rfl, rfl⟩
          go_wp2_with fail
          refine bodyPost_ret (v := .tuple #[hdV ⟨h1, h2', h3', h4, nx, sq, xs⟩ A3 n3 c3, .int .i64 0]) ?hres rfl ⟨_, _, _, rfl, ?hown, ?hxx⟩
          case hres => simp [results, Try.results23, go_sem, k0, k1, k2, k3, k4, k5, k6]
          case hown => exact (((((((hown5.farM hrow _).farM hrow _).farM hrow _).farM hrow _).farM hrow _).farM hrow _).farM hrow _).low (by omega)
          case hxx => (repeat (first | (with_reducible exact Ext.refl _) | (with_reducible assumption) | (with_reducible refine Ext.draws ?_) | (with_reducible refine Ext.allocs ?_ _) | (with_reducible refine Ext.sets ?_ ?_ _) | (with_reducible exact Nat.le_refl _) | (exact (by simp)) | (exact (by simp; omega))))
end Go.Proofs.Ytoeknbogaclfdaa
