/-
  Records out of bytes: contract of the program's Get.
-/
/-
  Messages out of bytes: contract of the program's info.
-/
import Derived.Test.YtoeknbogaclfdaaZHdParse
import Derived.Test.YtoeknbogaclfdaaZHdPut
import Derived.Test.YtoeknbogaclfdaaZFromMsTagsToHdMarks
import Derived.Test.YtoeknbogaclfdaaZFromTagParseToMkGet
namespace Go.Proofs.Ytoeknbogaclfdaa
open Go.RowKit
set_option linter.unusedVariables false
set_option linter.unusedSimpArgs false
set_option linter.unnecessarySimpa false
set_option maxRecDepth 100000

/-- why there is none: no seal, no form -/
def whyO (c : Option (List UInt8)) (s : Bool) : Int := if c.isSome = true then (if s = true then 0 else 2) else 13
theorem gtO_len {l : List UInt8} {a most : Int} {p : List UInt8 × Int} (h : gtO l a most = some p) (hm : 0 ≤ most) : (p.1.length : Int) ≤ most := by
  unfold gtO at h
  obtain ⟨q, h1, h2⟩ := Option.bind_eq_some_iff.1 h
  split at h2
  · rename_i hq
    injection h2 with h2
    subst h2
    have := hq.1
    simp only [List.length_take]
    omega
  · cases h2
theorem mkG_short {rf : Bool} {b : List UInt8} {a d : Int} {x : Mk} (h : mkG rf b a = some (x, d)) : x.nm.size ≤ 20 := by
  unfold mkG at h
  obtain ⟨p, h1, h2⟩ := Option.bind_eq_some_iff.1 h
  split at h2
  · cases h2
  · obtain ⟨q, h3, h4⟩ := Option.map_eq_some_iff.1 h2
    have hl := gtO_len h3 (by unfold mostG; split <;> omega)
    injection h4 with h4 h5
    subst h4
    have : mostG rf ≤ 20 := by unfold mostG; split <;> omega
    show (⟨q.1.toArray⟩ : ByteArray).size ≤ 20
    simp only [ByteArray.size, List.size_toArray]
    omega
theorem mksG_short {rf : Bool} : ∀ (f : Nat) (b : List UInt8) (a : Int) (p : List Mk × Int), mksG rf f b a = some p → p.1.length = f ∧ ∀ x ∈ p.1, x.nm.size ≤ 20
  | 0, b, a, p, h => by
    simp [mksG] at h
    subst h
    simp
  | f + 1, b, a, p, h => by
    rw [mksG] at h
    obtain ⟨q, h1, h2⟩ := Option.bind_eq_some_iff.1 h
    obtain ⟨r, h3, h4⟩ := Option.map_eq_some_iff.1 h2
    obtain ⟨i1, i2⟩ := mksG_short f b _ r h3
    have hx := mkG_short (x := q.1) (d := q.2) h1
    subst h4
    refine ⟨by simp [i1], fun y hy => ?_⟩
    rcases List.mem_cons.1 hy with rfl | hy
    · exact hx
    · exact i2 y hy
theorem mksO_short {rf : Bool} {b : List UInt8} {a : Int} {p : List Mk × Int} (h : mksO rf b a = some p) : p.1.length ≤ 17 ∧ ∀ x ∈ p.1, x.nm.size ≤ 20 := by
  unfold mksO at h
  split at h
  · rename_i hc
    obtain ⟨h1, h2⟩ := mksG_short _ _ _ _ h
    exact ⟨by omega, h2⟩
  · cases h
theorem parseH_short {rf : Bool} {b : List UInt8} {h : Hd} (hp : parseH rf b = some h) : h.marks.length ≤ 17 ∧ ∀ x ∈ h.marks, x.nm.size ≤ 20 := by
  unfold parseH at hp
  obtain ⟨q, h1, h2⟩ := Option.bind_eq_some_iff.1 hp
  obtain ⟨r, h3, h4⟩ := Option.map_eq_some_iff.1 h2
  subst h4
  exact mksO_short h3
theorem getH_open {rf : Bool} {b : List UInt8} (h : crcOpen b = none) : getH rf b = none := by unfold getH; rw [h]; rfl
theorem getH_form {rf : Bool} {b c : List UInt8} (h : crcOpen b = some c) (hp : parseH rf c = none) : getH rf b = none := by unfold getH; rw [h, Option.bind_some, hp]; rfl
theorem getH_at {rf : Bool} {b c : List UInt8} {h : Hd} (hc : crcOpen b = some c) (hp : parseH rf c = some h) : getH rf b = if rightH h = true ∧ putH h = b then some h else none := by
  unfold getH
  rw [hc, Option.bind_some, hp, Option.bind_some]
set_option maxHeartbeats 4000000 in
theorem header_Get {A : Option Addr} {n c : Nat} {b : List UInt8} {w : World} (hb : Sl w A n c b) (hn6 : n ≤ 1000000) {o : Option Hd} (ho : Hid (getH false b = o)) {y : Int} (hy : Hid (whyO (crcOpen b) o.isSome = y)) :
    Calls Try.prog 23 #[.slice A n c] w fun e w' => ∃ A' n' c', e = .returned (.tuple #[hdV (o.getD hd0) A' n' c', .int .i64 y]) ∧ OwnL TMk 4 mkR w' w.heap.size A' n' c' (o.getD hd0).marks ∧ Ext w w' := by
  have h63 := hb.n63
  obtain ⟨cb, hcb⟩ : ∃ q, crcOpen b = q := ⟨_, rfl⟩
  have HCB := Lib.hid hcb
  have hy1 := hy.out
  have ho1 := ho.out
  rw [hcb] at hy1
  clear hy ho
  cases cb with
  | none =>
    rw [getH_open hcb] at ho1
    subst ho1
    obtain rfl : 13 = y := hy1
    clear hcb
    go_enter Try.func23, Try.ntmps23
    go_wp2_with fail
    refine (crc_Open_any A n c b _ (hb.ext (Ext.alloc _ _)) (by omega) HCB).mono ?_
    rintro e w2 ⟨A2, n2, c2, rfl, h2, hx2⟩
    have k0 : w2.cell? ⟨w.heap.size, 0, none⟩ = some (.int .i64 0) := hx2.cell (cell_new w zeroH THd 0)
    have l0 : w2.frozen? ⟨w.heap.size, 0, none⟩ = false := hx2.frozenH (cell_new w zeroH THd 0) (frozen_new _ _ _ _)
    have k1 : w2.cell? ⟨w.heap.size, 1, none⟩ = some (.int .i64 0) := hx2.cell (cell_new w zeroH THd 1)
    have l1 : w2.frozen? ⟨w.heap.size, 1, none⟩ = false := hx2.frozenH (cell_new w zeroH THd 1) (frozen_new _ _ _ _)
    have k2 : w2.cell? ⟨w.heap.size, 2, none⟩ = some (.int .i64 0) := hx2.cell (cell_new w zeroH THd 2)
    have l2 : w2.frozen? ⟨w.heap.size, 2, none⟩ = false := hx2.frozenH (cell_new w zeroH THd 2) (frozen_new _ _ _ _)
    have k3 : w2.cell? ⟨w.heap.size, 3, none⟩ = some (.int .i64 0) := hx2.cell (cell_new w zeroH THd 3)
    have l3 : w2.frozen? ⟨w.heap.size, 3, none⟩ = false := hx2.frozenH (cell_new w zeroH THd 3) (frozen_new _ _ _ _)
    have k4 : w2.cell? ⟨w.heap.size, 4, none⟩ = some (.int .i64 0) := hx2.cell (cell_new w zeroH THd 4)
    have l4 : w2.frozen? ⟨w.heap.size, 4, none⟩ = false := hx2.frozenH (cell_new w zeroH THd 4) (frozen_new _ _ _ _)
    have k5 : w2.cell? ⟨w.heap.size, 5, none⟩ = some (.int .i64 0) := hx2.cell (cell_new w zeroH THd 5)
    have l5 : w2.frozen? ⟨w.heap.size, 5, none⟩ = false := hx2.frozenH (cell_new w zeroH THd 5) (frozen_new _ _ _ _)
    have k6 : w2.cell? ⟨w.heap.size, 6, none⟩ = some (.slice none 0 0) := hx2.cell (cell_new w zeroH THd 6)
    have l6 : w2.frozen? ⟨w.heap.size, 6, none⟩ = false := hx2.frozenH (cell_new w zeroH THd 6) (frozen_new _ _ _ _)
    have gx2 : Ext w w2 := (Ext.alloc _ _).trans hx2
    clear hx2
    go_wp2_with fail
    refine bodyPost_ret (v := .tuple #[hdV hd0 none 0 0, .int .i64 13]) ?hres rfl ⟨_, _, _, rfl, OwnL.nil _ _ _ _, ?hxx⟩
    case hres => simp [results, Try.results23, go_sem, hd0, k0, k1, k2, k3, k4, k5, k6]
    case hxx => (repeat (first | (with_reducible exact Ext.refl _) | (with_reducible assumption) | (with_reducible refine Ext.draws ?_) | (with_reducible refine Ext.allocs ?_ _) | (with_reducible refine Ext.sets ?_ ?_ _) | (with_reducible exact Nat.le_refl _) | (exact (by simp)) | (exact (by simp; omega))))
  | some cb =>
    obtain ⟨op, hop⟩ : ∃ q, parseH false cb = q := ⟨_, rfl⟩
    have HOP := Lib.hid hop
    have hcl : cb.length ≤ n := by
      unfold crcOpen at hcb
      split at hcb
      · injection hcb with hcb
        rw [← hcb, List.length_take, hb.len]
        omega
      · cases hcb
    cases op with
    | none =>
      rw [getH_form hcb hop] at ho1
      subst ho1
      obtain rfl : 2 = y := hy1
      clear hcb hop
      go_enter Try.func23, Try.ntmps23
      go_wp2_with fail
      refine (crc_Open_any A n c b _ (hb.ext (Ext.alloc _ _)) (by omega) HCB).mono ?_
      rintro e w2 ⟨A2, n2, c2, rfl, h2, hx2⟩
      have hn2 : n2 ≤ 1000000 := by rw [← h2.len]; exact Nat.le_trans hcl hn6
      go_wp2_with fail
      have hpc := header_parse h2.sl hn2 HOP
      simp only [Option.getD_none, Option.isSome_none, hd0] at hpc
      refine hpc.mono ?_
      rintro e w3 ⟨A3, n3, c3, rfl, h3, hx3⟩
      clear hpc
      obtain rfl : n3 = 0 := h3.len.symm
      have gx3 := hx2.trans hx3
      have gx4 := gx3.allocs (.cells #[.int .i64 0, .int .i64 0, .int .i64 0, .int .i64 0, .int .i64 0, .int .i64 0, .slice A3 0 c3] THd)
      have k0 : (w3.alloc (.cells #[.int .i64 0, .int .i64 0, .int .i64 0, .int .i64 0, .int .i64 0, .int .i64 0, .slice A3 0 c3] THd)).cell? ⟨w.heap.size, 0, none⟩ = some (.int .i64 0) := gx4.cell (cell_new w zeroH THd 0)
      have l0 : (w3.alloc (.cells #[.int .i64 0, .int .i64 0, .int .i64 0, .int .i64 0, .int .i64 0, .int .i64 0, .slice A3 0 c3] THd)).frozen? ⟨w.heap.size, 0, none⟩ = false := gx4.frozenH (cell_new w zeroH THd 0) (frozen_new _ _ _ _)
      have k1 : (w3.alloc (.cells #[.int .i64 0, .int .i64 0, .int .i64 0, .int .i64 0, .int .i64 0, .int .i64 0, .slice A3 0 c3] THd)).cell? ⟨w.heap.size, 1, none⟩ = some (.int .i64 0) := gx4.cell (cell_new w zeroH THd 1)
      have l1 : (w3.alloc (.cells #[.int .i64 0, .int .i64 0, .int .i64 0, .int .i64 0, .int .i64 0, .int .i64 0, .slice A3 0 c3] THd)).frozen? ⟨w.heap.size, 1, none⟩ = false := gx4.frozenH (cell_new w zeroH THd 1) (frozen_new _ _ _ _)
      have k2 : (w3.alloc (.cells #[.int .i64 0, .int .i64 0, .int .i64 0, .int .i64 0, .int .i64 0, .int .i64 0, .slice A3 0 c3] THd)).cell? ⟨w.heap.size, 2, none⟩ = some (.int .i64 0) := gx4.cell (cell_new w zeroH THd 2)
      have l2 : (w3.alloc (.cells #[.int .i64 0, .int .i64 0, .int .i64 0, .int .i64 0, .int .i64 0, .int .i64 0, .slice A3 0 c3] THd)).frozen? ⟨w.heap.size, 2, none⟩ = false := gx4.frozenH (cell_new w zeroH THd 2) (frozen_new _ _ _ _)
      have k3 : (w3.alloc (.cells #[.int .i64 0, .int .i64 0, .int .i64 0, .int .i64 0, .int .i64 0, .int .i64 0, .slice A3 0 c3] THd)).cell? ⟨w.heap.size, 3, none⟩ = some (.int .i64 0) := gx4.cell (cell_new w zeroH THd 3)
      have l3 : (w3.alloc (.cells #[.int .i64 0, .int .i64 0, .int .i64 0, .int .i64 0, .int .i64 0, .int .i64 0, .slice A3 0 c3] THd)).frozen? ⟨w.heap.size, 3, none⟩ = false := gx4.frozenH (cell_new w zeroH THd 3) (frozen_new _ _ _ _)
      have k4 : (w3.alloc (.cells #[.int .i64 0, .int .i64 0, .int .i64 0, .int .i64 0, .int .i64 0, .int .i64 0, .slice A3 0 c3] THd)).cell? ⟨w.heap.size, 4, none⟩ = some (.int .i64 0) := gx4.cell (cell_new w zeroH THd 4)
      have l4 : (w3.alloc (.cells #[.int .i64 0, .int .i64 0, .int .i64 0, .int .i64 0, .int .i64 0, .int .i64 0, .slice A3 0 c3] THd)).frozen? ⟨w.heap.size, 4, none⟩ = false := gx4.frozenH (cell_new w zeroH THd 4) (frozen_new _ _ _ _)
      have k5 : (w3.alloc (.cells #[.int .i64 0, .int .i64 0, .int .i64 0, .int .i64 0, .int .i64 0, .int .i64 0, .slice A3 0 c3] THd)).cell? ⟨w.heap.size, 5, none⟩ = some (.int .i64 0) := gx4.cell (cell_new w zeroH THd 5)
      have l5 : (w3.alloc (.cells #[.int .i64 0, .int .i64 0, .int .i64 0, .int .i64 0, .int .i64 0, .int .i64 0, .slice A3 0 c3] THd)).frozen? ⟨w.heap.size, 5, none⟩ = false := gx4.frozenH (cell_new w zeroH THd 5) (frozen_new _ _ _ _)
      have k6 : (w3.alloc (.cells #[.int .i64 0, .int .i64 0, .int .i64 0, .int .i64 0, .int .i64 0, .int .i64 0, .slice A3 0 c3] THd)).cell? ⟨w.heap.size, 6, none⟩ = some (.slice none 0 0) := gx4.cell (cell_new w zeroH THd 6)
      have l6 : (w3.alloc (.cells #[.int .i64 0, .int .i64 0, .int .i64 0, .int .i64 0, .int .i64 0, .int .i64 0, .slice A3 0 c3] THd)).frozen? ⟨w.heap.size, 6, none⟩ = false := gx4.frozenH (cell_new w zeroH THd 6) (frozen_new _ _ _ _)
      have gx5 : Ext w w3 := (Ext.alloc _ _).trans gx3
      clear hx2 hx3 gx3 gx4 h2 h3
      go_wp2_with fail
      refine bodyPost_ret (v := .tuple #[hdV hd0 none 0 0, .int .i64 2]) ?hres rfl ⟨_, _, _, rfl, OwnL.nil _ _ _ _, ?hxx⟩
      case hres => simp [results, Try.results23, go_sem, hd0, k0, k1, k2, k3, k4, k5, k6]
      case hxx => (repeat (first | (with_reducible exact Ext.refl _) | (with_reducible assumption) | (with_reducible refine Ext.draws ?_) | (with_reducible refine Ext.allocs ?_ _) | (with_reducible refine Ext.sets ?_ ?_ _) | (with_reducible exact Nat.le_refl _) | (exact (by simp)) | (exact (by simp; omega))))
    | some h =>
      have hsh := parseH_short hop
      rw [getH_at hcb hop] at ho1
      obtain ⟨r, hr⟩ : ∃ q, rightH h = q := ⟨_, rfl⟩
      have HR := Lib.hid hr
      obtain ⟨L, hL⟩ : ∃ q, putHr h r = q := ⟨_, rfl⟩
      have HL := Lib.hid hL
      have HS : Hid (Shorts h.marks) := fun x hx => by have := hsh.2 x hx; omega
      have hln : h.marks.length ≤ 17 := hsh.1
      have HO : Hid ((if r = true ∧ putH h = b then some h else none) = o) := by unfold Hid; rw [← ho1, hr]
      clear hcb hop hsh ho1 hr
      obtain ⟨h1, h2', h3', h4, nx, sq, xs⟩ := h
      simp only at hln HS
      go_enter Try.func23, Try.ntmps23
      go_wp2_with fail
      refine (crc_Open_any A n c b _ (hb.ext (Ext.alloc _ _)) (by omega) HCB).mono ?_
      rintro e w2 ⟨A2, n2, c2, rfl, h2, hx2⟩
      have hn2 : n2 ≤ 1000000 := by rw [← h2.len]; exact Nat.le_trans hcl hn6
      go_wp2_with fail
      have hpc := header_parse h2.sl hn2 HOP
      simp only [Option.getD_some, Option.isSome_some] at hpc
      refine hpc.mono ?_
      rintro e w3 ⟨A3, n3, c3, rfl, h3, hx3⟩
      clear hpc
      have hn3 : n3 ≤ 17 := by rw [← h3.len]; exact hln
      have gx3 := hx2.trans hx3
      have gx5 : Ext w w3 := (Ext.alloc _ _).trans gx3
      have hw2 : w.heap.size < w2.heap.size := World.block_lt_of_cell? _ _ (hx2.cell (cell_new w zeroH THd 0))
      clear hx3 h2 hx2 HOP
      go_wp2_with fail
      have lm3 := h3.lst.ext mk_rep (Ext.alloc w3 (.cells #[.int .i64 h1, .int .i64 h2', .int .i64 h3', .int .i64 h4, .int .i64 nx, .int .i64 sq, .slice A3 n3 c3] THd))
      refine (header_Put ⟨h1, h2', h3', h4, nx, sq, xs⟩ lm3 HS (by omega) HR HL).mono ?_
      rintro e w5 ⟨A5, n5, c5, rfl, h5, hx5⟩
      have gx6 := (gx3.allocs (.cells #[.int .i64 h1, .int .i64 h2', .int .i64 h3', .int .i64 h4, .int .i64 nx, .int .i64 sq, .slice A3 n3 c3] THd)).trans hx5
      have k0 : w5.cell? ⟨w.heap.size, 0, none⟩ = some (.int .i64 0) := gx6.cell (cell_new w zeroH THd 0)
      have l0 : w5.frozen? ⟨w.heap.size, 0, none⟩ = false := gx6.frozenH (cell_new w zeroH THd 0) (frozen_new _ _ _ _)
      have k1 : w5.cell? ⟨w.heap.size, 1, none⟩ = some (.int .i64 0) := gx6.cell (cell_new w zeroH THd 1)
      have l1 : w5.frozen? ⟨w.heap.size, 1, none⟩ = false := gx6.frozenH (cell_new w zeroH THd 1) (frozen_new _ _ _ _)
      have k2 : w5.cell? ⟨w.heap.size, 2, none⟩ = some (.int .i64 0) := gx6.cell (cell_new w zeroH THd 2)
      have l2 : w5.frozen? ⟨w.heap.size, 2, none⟩ = false := gx6.frozenH (cell_new w zeroH THd 2) (frozen_new _ _ _ _)
      have k3 : w5.cell? ⟨w.heap.size, 3, none⟩ = some (.int .i64 0) := gx6.cell (cell_new w zeroH THd 3)
      have l3 : w5.frozen? ⟨w.heap.size, 3, none⟩ = false := gx6.frozenH (cell_new w zeroH THd 3) (frozen_new _ _ _ _)
      have k4 : w5.cell? ⟨w.heap.size, 4, none⟩ = some (.int .i64 0) := gx6.cell (cell_new w zeroH THd 4)
      have l4 : w5.frozen? ⟨w.heap.size, 4, none⟩ = false := gx6.frozenH (cell_new w zeroH THd 4) (frozen_new _ _ _ _)
      have k5 : w5.cell? ⟨w.heap.size, 5, none⟩ = some (.int .i64 0) := gx6.cell (cell_new w zeroH THd 5)
      have l5 : w5.frozen? ⟨w.heap.size, 5, none⟩ = false := gx6.frozenH (cell_new w zeroH THd 5) (frozen_new _ _ _ _)
      have k6 : w5.cell? ⟨w.heap.size, 6, none⟩ = some (.slice none 0 0) := gx6.cell (cell_new w zeroH THd 6)
      have l6 : w5.frozen? ⟨w.heap.size, 6, none⟩ = false := gx6.frozenH (cell_new w zeroH THd 6) (frozen_new _ _ _ _)
      have x0 : w5.cell? ⟨w3.heap.size, 0, none⟩ = some (.int .i64 h1) := hx5.cell (cell_new w3 #[.int .i64 h1, .int .i64 h2', .int .i64 h3', .int .i64 h4, .int .i64 nx, .int .i64 sq, .slice A3 n3 c3] THd 0)
      have x1 : w5.cell? ⟨w3.heap.size, 1, none⟩ = some (.int .i64 h2') := hx5.cell (cell_new w3 #[.int .i64 h1, .int .i64 h2', .int .i64 h3', .int .i64 h4, .int .i64 nx, .int .i64 sq, .slice A3 n3 c3] THd 1)
      have x2 : w5.cell? ⟨w3.heap.size, 2, none⟩ = some (.int .i64 h3') := hx5.cell (cell_new w3 #[.int .i64 h1, .int .i64 h2', .int .i64 h3', .int .i64 h4, .int .i64 nx, .int .i64 sq, .slice A3 n3 c3] THd 2)
      have x3 : w5.cell? ⟨w3.heap.size, 3, none⟩ = some (.int .i64 h4) := hx5.cell (cell_new w3 #[.int .i64 h1, .int .i64 h2', .int .i64 h3', .int .i64 h4, .int .i64 nx, .int .i64 sq, .slice A3 n3 c3] THd 3)
      have x4 : w5.cell? ⟨w3.heap.size, 4, none⟩ = some (.int .i64 nx) := hx5.cell (cell_new w3 #[.int .i64 h1, .int .i64 h2', .int .i64 h3', .int .i64 h4, .int .i64 nx, .int .i64 sq, .slice A3 n3 c3] THd 4)
      have x5 : w5.cell? ⟨w3.heap.size, 5, none⟩ = some (.int .i64 sq) := hx5.cell (cell_new w3 #[.int .i64 h1, .int .i64 h2', .int .i64 h3', .int .i64 h4, .int .i64 nx, .int .i64 sq, .slice A3 n3 c3] THd 5)
      have x6 : w5.cell? ⟨w3.heap.size, 6, none⟩ = some (.slice A3 n3 c3) := hx5.cell (cell_new w3 #[.int .i64 h1, .int .i64 h2', .int .i64 h3', .int .i64 h4, .int .i64 nx, .int .i64 sq, .slice A3 n3 c3] THd 6)
      have gw5 : Ext w w5 := (Ext.alloc _ _).trans gx6
      have hown5 := (h3.ext mk_rep (Ext.alloc w3 (.cells #[.int .i64 h1, .int .i64 h2', .int .i64 h3', .int .i64 h4, .int .i64 nx, .int .i64 sq, .slice A3 n3 c3] THd))).ext mk_rep hx5
      have hne : w.heap.size ≠ w3.heap.size := by
        have := World.block_lt_of_cell? _ _ (gx3.cell (cell_new w zeroH THd 0))
        simp only at this
        omega
      have hrow : ∀ g, rowOf A3 c3 = some g → g ≠ w.heap.size := fun g hg e => by have := (hown5.row_lt g hg).1; omega
      have hb5 := hb.ext gw5
      clear gx3 gx5 gx6 hx5 h3 lm3
      cases r with
      | false =>
        have e1 := HO.out
        rw [if_neg (by simp)] at e1
        subst e1
        obtain rfl : 2 = y := hy1
        clear HO
        rw [show (if false = true then (0 : Int) else 1) = 1 from rfl]
        go_wp2_with fail
        refine bodyPost_ret (v := .tuple #[hdV hd0 none 0 0, .int .i64 2]) ?hres rfl ⟨_, _, _, rfl, OwnL.nil _ _ _ _, ?hxx⟩
        case hres => simp [results, Try.results23, go_sem, hd0, k0, k1, k2, k3, k4, k5, k6]
        case hxx => (repeat (first | (with_reducible exact Ext.refl _) | (with_reducible assumption) | (with_reducible refine Ext.draws ?_) | (with_reducible refine Ext.allocs ?_ _) | (with_reducible refine Ext.sets ?_ ?_ _) | (with_reducible exact Nat.le_refl _) | (exact (by simp)) | (exact (by simp; omega))))
      | true =>
        obtain rfl : putH ⟨h1, h2', h3', h4, nx, sq, xs⟩ = L := HL.out
        rw [show (if true = true then (0 : Int) else 1) = 0 from rfl]
        obtain ⟨z, hz⟩ : ∃ z, (putH ⟨h1, h2', h3', h4, nx, sq, xs⟩ == b) = z := ⟨_, rfl⟩
        have HZ := Lib.hid hz
        have hbe := bytes_Equal A5 n5 c5 _ A n c b _ h5.sl hb5
        rw [HZ.out] at hbe
        cases z with
        | false =>
          have e1 := HO.out
          rw [if_neg (by rintro ⟨_, e⟩; rw [e] at hz; simp at hz)] at e1
          subst e1
          obtain rfl : 2 = y := hy1
          clear HO hz HL hL
          go_wp2_with fail
          refine hbe.mono ?_
          rintro e _ ⟨rfl, rfl⟩
          go_wp2_with fail
          refine bodyPost_ret (v := .tuple #[hdV hd0 none 0 0, .int .i64 2]) ?hres rfl ⟨_, _, _, rfl, OwnL.nil _ _ _ _, ?hxx⟩
          case hres => simp [results, Try.results23, go_sem, hd0, k0, k1, k2, k3, k4, k5, k6]
          case hxx => (repeat (first | (with_reducible exact Ext.refl _) | (with_reducible assumption) | (with_reducible refine Ext.draws ?_) | (with_reducible refine Ext.allocs ?_ _) | (with_reducible refine Ext.sets ?_ ?_ _) | (with_reducible exact Nat.le_refl _) | (exact (by simp)) | (exact (by simp; omega))))
        | true =>
          have e1 := HO.out
          rw [if_pos ⟨rfl, eq_of_beq hz⟩] at e1
          subst e1
          obtain rfl : 0 = y := hy1
          clear HO hz HL hL
          go_wp2_with fail
          refine hbe.mono ?_
          rintro e _ ⟨rfl, rfl⟩
          go_wp2_with fail
          refine bodyPost_ret (v := .tuple #[hdV ⟨h1, h2', h3', h4, nx, sq, xs⟩ A3 n3 c3, .int .i64 0]) ?hres rfl ⟨_, _, _, rfl, ?hown, ?hxx⟩
          case hres => simp [results, Try.results23, go_sem, k0, k1, k2, k3, k4, k5, k6]
          case hown => exact (((((((hown5.farM hrow _).farM hrow _).farM hrow _).farM hrow _).farM hrow _).farM hrow _).farM hrow _).low (by omega)
          case hxx => (repeat (first | (with_reducible exact Ext.refl _) | (with_reducible assumption) | (with_reducible refine Ext.draws ?_) | (with_reducible refine Ext.allocs ?_ _) | (with_reducible refine Ext.sets ?_ ?_ _) | (with_reducible exact Nat.le_refl _) | (exact (by simp)) | (exact (by simp; omega))))
end Go.Proofs.Ytoeknbogaclfdaa

namespace Go.Proofs.Ytoeknbogaclfdaa
open Go.RowKit
set_option linter.unusedVariables false
set_option linter.unusedSimpArgs false
set_option linter.unnecessarySimpa false
set_option maxRecDepth 100000

set_option maxHeartbeats 4000000 in
theorem msg_info {A : Option Addr} {n c : Nat} {b : List UInt8} {a : Int} {w : World} (hb : Sl w A n c b) (hn6 : n ≤ 1000000) {o : Option (List Mk × Int)} (ho : Hid (mksO false b a = o)) :
    Calls Try.prog 87 #[.slice A n c, .int .i64 a] w fun e w' => ∃ A' n' c', e = .returned (.tuple #[.slice A' n' c', .bool o.isSome]) ∧ OwnL TMk 4 mkR w' w.heap.size A' n' c' ((o.map Prod.fst).getD []) ∧ Ext w w' := by
  have h63 := hb.n63
  obtain ⟨i0, hi0, hz0, hz1, hz2⟩ := info_parts info_mk
  have ho1 := ho.out
  unfold mksO at ho1
  obtain ⟨X, hX⟩ : ∃ q, gvA b a = q := ⟨_, rfl⟩
  obtain ⟨Y, hY⟩ : ∃ q, gvB b a = q := ⟨_, rfl⟩
  obtain ⟨Z, hZ⟩ : ∃ q, gvC b a = q := ⟨_, rfl⟩
  have HV := Lib.hid (And.intro hX (And.intro hY hZ))
  have hX0 : 0 ≤ X := by rw [← hX]; exact gvA_pos b a
  rw [hX, hY, hZ] at ho1
  clear hX hY hZ ho
  cases Z with
  | false =>
    obtain rfl : none = o := by rw [← ho1]; rfl
    clear ho1
    go_enter Try.func87, Try.ntmps87
    go_wp2_with fail
    refine (bits_GetVar_h hb HV).mono ?_
    rintro e _ ⟨rfl, rfl⟩
    go_wp2_with fail
    go_ret2
    exact ⟨_, _, _, rfl, OwnL.nil _ _ _ _, Ext.refl _⟩
  | true =>
  obtain ⟨N, rfl⟩ := Int.eq_ofNat_of_zero_le hX0
  by_cases hN : 17 < N
  · have d4 : decide ((17 : Int) < (N : Int)) = true := by simp; omega
    rw [if_neg (by rintro ⟨_, e⟩; omega)] at ho1
    obtain rfl : none = o := ho1
    go_enter Try.func87, Try.ntmps87
    go_wp2_with fail
    refine (bits_GetVar_h hb HV).mono ?_
    rintro e _ ⟨rfl, rfl⟩
    go_wp2_with fail
    go_ret2
    exact ⟨_, _, _, rfl, OwnL.nil _ _ _ _, Ext.refl _⟩
  have d4 : decide ((17 : Int) < (N : Int)) = false := by simp; omega
  rw [if_pos ⟨rfl, by omega⟩, Int.toNat_natCast] at ho1
  have HO : Hid ((mksG false (N - 0) b Y).map (fun q => (([] : List Mk) ++ q.1, q.2)) = o) := by
    unfold Hid
    rw [← ho1]
    simp
  clear ho1 hX0
  go_enter Try.func87, Try.ntmps87
  go_wp2_with fail
  refine (bits_GetVar_h hb HV).mono ?_
  rintro e _ ⟨rfl, rfl⟩
  go_wp2_with fail
  go_loopw [1, 7, 8, 27] (fun av okv v i wr => ∃ (k : Nat) (d : Int) (ok : Bool) (Ao : Option Addr) (co : Nat) (out : List Mk), k ≤ N ∧ av = .int .i64 d ∧ okv = .bool ok ∧ v = .slice Ao k co ∧ i = .int .i64 k ∧ OwnL TMk 4 mkR wr w.heap.size Ao k co out ∧ Hid ((mksG false (N - k) b d).map (fun q => (out ++ q.1, q.2)) = o) ∧ Ext w wr) (fun _ _ _ i _ => N - (intOf i).toNat)
  case atStart => exact ⟨0, Y, true, none, 0, [], by omega, rfl, rfl, rfl, rfl, OwnL.nil _ _ _ _, HO, Ext.refl _⟩
  case round =>
    clear HO
    obtain ⟨k, d, ok, Ao, co, out, hk, rfl, rfl, rfl, rfl, hown, hrk, hxr⟩ := hrel
    by_cases hlt : k < N
    · have hrow := hown.row_lt
      have hbr := hb.ext hxr
      obtain ⟨om, hom⟩ : ∃ q, mkG false b d = q := ⟨_, rfl⟩
      have HOM := Lib.hid hom
      have hnext : ∀ x d', om = some (x, d') → (mksG false (N - (k + 1)) b d').map (fun q => ((out ++ [x]) ++ q.1, q.2)) = o := fun x d' e => mks_next hrk.out hlt (by rw [hom, e])
      have hstop : om = none → o = none := fun e => mks_stop hrk.out hlt (by rw [hom, e])
      have HNX := Lib.hid (And.intro hnext hstop)
      clear hnext hstop hrk hom
      obtain ⟨W, hW⟩ : ∃ W, W = wr := ⟨_, rfl⟩
      rw [← hW] at hown hxr hrow hbr
      have hsr := hxr.size
      go_wp2_with fail
      rw [← hW]
      clear hW
      go_loopw [1, 7, 32] (fun av okv jv ws => ∃ (j : Nat) (d2 y0 y1 y2 : Int) (ok2 : Bool), j ≤ 3 ∧ av = .int .i64 d2 ∧ okv = .bool ok2 ∧ jv = .int .i64 j ∧ ws = (W.alloc (.cells #[.int .i64 y0, .string ⟨#[]⟩, .int .i64 y1, .bool false] TMk)).alloc (.cells #[.int .i64 y2] INT) ∧ Hid (atN b d j = d2) ∧ Hid ((0 < j → y0 = gvA b (atN b d 0) ∧ gvC b (atN b d 0) = true) ∧ (1 < j → y1 = gvA b (atN b d 1) ∧ gvC b (atN b d 1) = true) ∧ (2 < j → y2 = gvA b (atN b d 2) ∧ gvC b (atN b d 2) = true))) (fun _ _ j _ => 3 - (intOf j).toNat)
      case atStart => exact ⟨0, d, 0, 0, 0, ok, by omega, rfl, rfl, rfl, rfl, rfl, by simp [Hid]⟩
      case round =>
        obtain ⟨j, d2, y0, y1, y2, ok2, hj, rfl, rfl, rfl, rfl, hd, hy⟩ := hrel
        have hj5 : j = 0 ∨ j = 1 ∨ j = 2 ∨ j = 3 := by omega
        rcases hj5 with rfl | rfl | rfl | rfl
        · have ix : ∀ w, (Instr.index 135 (.agg #[.pointer (some ⟨W.heap.size, 0, none⟩), .pointer (some ⟨W.heap.size, 2, none⟩), .pointer (some ⟨W.heap.size + 1, 0, none⟩)]) (.int .i64 0)).run Try.prog w = .ok (.pointer (some ⟨W.heap.size, 0, none⟩)) w := fun _ => by kernel_rfl
          obtain ⟨X, hX⟩ : ∃ q, gvA b d2 = q := ⟨_, rfl⟩
          obtain ⟨Y', hY⟩ : ∃ q, gvB b d2 = q := ⟨_, rfl⟩
          obtain ⟨Z, hZ⟩ : ∃ q, gvC b d2 = q := ⟨_, rfl⟩
          have HV2 := Lib.hid (And.intro hX (And.intro hY hZ))
          clear hX hY hZ
          cases Z with
          | false =>
            obtain rfl : none = o := by
              refine (HNX.out.2 ?_).symm
              rw [← HOM.out]
              exact mkG_none (nums3_no (j := 0) (by omega) (by rw [hd.out]; exact HV2.out.2.2))
            clear hd hy HNX
            go_wp2_with fail
            refine (bits_GetVar_h (hbr.ext ((Ext.alloc _ _).allocs _)) HV2).mono ?_
            rintro e _ ⟨rfl, rfl⟩
            go_wp2_with fail
            go_ret2
            refine ⟨_, _, _, rfl, OwnL.nil _ _ _ _, ?_⟩
            (repeat (first | (with_reducible exact Ext.refl _) | (with_reducible assumption) | (with_reducible refine Ext.draws ?_) | (with_reducible refine Ext.allocs ?_ _) | (with_reducible refine Ext.sets ?_ ?_ _) | (with_reducible exact Nat.le_refl _) | (exact (by simp)) | (exact (by simp; omega))))
          | true =>
            have HD : Hid (atN b d 1 = Y') := by
              unfold Hid
              rw [← HV2.out.2.1, ← hd.out]
              rfl
            have hdx := hd.out
            have h1x := HV2.out
            have HY : Hid (X = gvA b (atN b d 0) ∧ gvC b (atN b d 0) = true) := by
              unfold Hid
              rw [hdx, h1x.1]
              exact ⟨rfl, h1x.2.2⟩
            clear hdx h1x
            go_wp2_with fail
            refine (bits_GetVar_h (hbr.ext ((Ext.alloc _ _).allocs _)) HV2).mono ?_
            rintro e _ ⟨rfl, rfl⟩
            go_wp2_with fail
            go_roundw
            case rel => exact ⟨1, Y', X, y1, y2, true, by omega, rfl, rfl, rfl, rfl, HD, ⟨fun _ => HY.out, fun h => by omega, fun h => by omega⟩⟩
            case measure => simp [intOf]
        · have ix : ∀ w, (Instr.index 135 (.agg #[.pointer (some ⟨W.heap.size, 0, none⟩), .pointer (some ⟨W.heap.size, 2, none⟩), .pointer (some ⟨W.heap.size + 1, 0, none⟩)]) (.int .i64 1)).run Try.prog w = .ok (.pointer (some ⟨W.heap.size, 2, none⟩)) w := fun _ => by kernel_rfl
          obtain ⟨X, hX⟩ : ∃ q, gvA b d2 = q := ⟨_, rfl⟩
          obtain ⟨Y', hY⟩ : ∃ q, gvB b d2 = q := ⟨_, rfl⟩
          obtain ⟨Z, hZ⟩ : ∃ q, gvC b d2 = q := ⟨_, rfl⟩
          have HV2 := Lib.hid (And.intro hX (And.intro hY hZ))
          clear hX hY hZ
          cases Z with
          | false =>
            obtain rfl : none = o := by
              refine (HNX.out.2 ?_).symm
              rw [← HOM.out]
              exact mkG_none (nums3_no (j := 1) (by omega) (by rw [hd.out]; exact HV2.out.2.2))
            clear hd hy HNX
            go_wp2_with fail
            refine (bits_GetVar_h (hbr.ext ((Ext.alloc _ _).allocs _)) HV2).mono ?_
            rintro e _ ⟨rfl, rfl⟩
            go_wp2_with fail
            go_ret2
            refine ⟨_, _, _, rfl, OwnL.nil _ _ _ _, ?_⟩
            (repeat (first | (with_reducible exact Ext.refl _) | (with_reducible assumption) | (with_reducible refine Ext.draws ?_) | (with_reducible refine Ext.allocs ?_ _) | (with_reducible refine Ext.sets ?_ ?_ _) | (with_reducible exact Nat.le_refl _) | (exact (by simp)) | (exact (by simp; omega))))
          | true =>
            have HD : Hid (atN b d 2 = Y') := by
              unfold Hid
              rw [← HV2.out.2.1, ← hd.out]
              rfl
            have hdx := hd.out
            have h1x := HV2.out
            have HY : Hid (X = gvA b (atN b d 1) ∧ gvC b (atN b d 1) = true) := by
              unfold Hid
              rw [hdx, h1x.1]
              exact ⟨rfl, h1x.2.2⟩
            clear hdx h1x
            go_wp2_with fail
            refine (bits_GetVar_h (hbr.ext ((Ext.alloc _ _).allocs _)) HV2).mono ?_
            rintro e _ ⟨rfl, rfl⟩
            go_wp2_with fail
            go_roundw
            case rel => exact ⟨2, Y', y0, X, y2, true, by omega, rfl, rfl, rfl, rfl, HD, ⟨fun _ => hy.out.1 (by omega), fun _ => HY.out, fun h => by omega⟩⟩
            case measure => simp [intOf]
        · have ix : ∀ w, (Instr.index 135 (.agg #[.pointer (some ⟨W.heap.size, 0, none⟩), .pointer (some ⟨W.heap.size, 2, none⟩), .pointer (some ⟨W.heap.size + 1, 0, none⟩)]) (.int .i64 2)).run Try.prog w = .ok (.pointer (some ⟨W.heap.size + 1, 0, none⟩)) w := fun _ => by kernel_rfl
          obtain ⟨X, hX⟩ : ∃ q, gvA b d2 = q := ⟨_, rfl⟩
          obtain ⟨Y', hY⟩ : ∃ q, gvB b d2 = q := ⟨_, rfl⟩
          obtain ⟨Z, hZ⟩ : ∃ q, gvC b d2 = q := ⟨_, rfl⟩
          have HV2 := Lib.hid (And.intro hX (And.intro hY hZ))
          clear hX hY hZ
          cases Z with
          | false =>
            obtain rfl : none = o := by
              refine (HNX.out.2 ?_).symm
              rw [← HOM.out]
              exact mkG_none (nums3_no (j := 2) (by omega) (by rw [hd.out]; exact HV2.out.2.2))
            clear hd hy HNX
            go_wp2_with fail
            refine (bits_GetVar_h (hbr.ext ((Ext.alloc _ _).allocs _)) HV2).mono ?_
            rintro e _ ⟨rfl, rfl⟩
            go_wp2_with fail
            go_ret2
            refine ⟨_, _, _, rfl, OwnL.nil _ _ _ _, ?_⟩
            (repeat (first | (with_reducible exact Ext.refl _) | (with_reducible assumption) | (with_reducible refine Ext.draws ?_) | (with_reducible refine Ext.allocs ?_ _) | (with_reducible refine Ext.sets ?_ ?_ _) | (with_reducible exact Nat.le_refl _) | (exact (by simp)) | (exact (by simp; omega))))
          | true =>
            have HD : Hid (atN b d 3 = Y') := by
              unfold Hid
              rw [← HV2.out.2.1, ← hd.out]
              rfl
            have hdx := hd.out
            have h1x := HV2.out
            have HY : Hid (X = gvA b (atN b d 2) ∧ gvC b (atN b d 2) = true) := by
              unfold Hid
              rw [hdx, h1x.1]
              exact ⟨rfl, h1x.2.2⟩
            clear hdx h1x
            go_wp2_with fail
            refine (bits_GetVar_h (hbr.ext ((Ext.alloc _ _).allocs _)) HV2).mono ?_
            rintro e _ ⟨rfl, rfl⟩
            go_wp2_with fail
            go_roundw
            case rel => exact ⟨3, Y', y0, y1, X, true, by omega, rfl, rfl, rfl, rfl, HD, ⟨fun _ => hy.out.1 (by omega), fun _ => hy.out.2.1 (by omega), fun _ => HY.out⟩⟩
            case measure => simp [intOf]
        · have hyx := hy.out
          have hn3 := nums3_yes (hyx.1 (by omega)).2 (hyx.2.1 (by omega)).2 (hyx.2.2 (by omega)).2
          rw [hd.out, ← (hyx.1 (by omega)).1, ← (hyx.2.1 (by omega)).1, ← (hyx.2.2 (by omega)).1] at hn3
          have ho1 := HOM.out
          unfold mkG at ho1
          rw [hn3, Option.bind_some] at ho1
          simp only [Bool.false_eq_true, false_and, if_false] at ho1
          rw [show mostG false = 13 from rfl] at ho1
          obtain ⟨ta, hta⟩ : ∃ q, (⟨(gtA b d2 13).toArray⟩ : ByteArray) = q := ⟨_, rfl⟩
          obtain ⟨tb, htb⟩ : ∃ q, gtB b d2 13 = q := ⟨_, rfl⟩
          obtain ⟨tc, htc⟩ : ∃ q, gtC b d2 13 = q := ⟨_, rfl⟩
          have HG := Lib.hid (And.intro hta (And.intro htb htc))
          obtain ⟨g, hg⟩ : ∃ g, decide (y2 = 1) = g := ⟨_, rfl⟩
          have hgb : (y2 == 1) = g := by rw [← hg]; by_cases h : y2 = 1 <;> simp [h]
          cases tc with
          | false =>
            rw [gtO_none htc] at ho1
            obtain rfl : none = o := (HNX.out.2 ho1.symm).symm
            clear hyx hy hd hn3 ho1 hta htb htc hg HNX
            go_wp2_with fail
            refine (bits_GetText_h (hbr.ext ((Ext.alloc _ _).allocs _)) hn6 HG).mono ?_
            rintro e _ ⟨rfl, rfl⟩
            go_wp2_with fail
            go_ret2
            refine ⟨_, _, _, rfl, OwnL.nil _ _ _ _, ?_⟩
            (repeat (first | (with_reducible exact Ext.refl _) | (with_reducible assumption) | (with_reducible refine Ext.draws ?_) | (with_reducible refine Ext.allocs ?_ _) | (with_reducible refine Ext.sets ?_ ?_ _) | (with_reducible exact Nat.le_refl _) | (exact (by simp)) | (exact (by simp; omega))))
          | true =>
            rw [gtO_some htc] at ho1
            have hom2 : om = some (⟨y0, ta, y1, g⟩, tb) := by
              rw [← ho1]
              simp only [Option.map_some, mkOf, List.getD_cons_zero, List.getD_cons_succ, hta, hg, htb]
            have HN := Lib.hid (HNX.out.1 _ _ hom2)
            clear hyx hy hd hn3 ho1 hta htb htc hg HNX hom2
            go_wp2_with fail
            refine (bits_GetText_h (hbr.ext ((Ext.alloc _ _).allocs _)) hn6 HG).mono ?_
            rintro e _ ⟨rfl, rfl⟩
            have hx5 : Ext w ((W.alloc (.cells #[.int .i64 y0, .string ta, .int .i64 y1, .bool g] TMk)).alloc (.cells #[.int .i64 y2] INT)) := (hxr.allocs _).allocs _
            have hown5 := ((hown.ext mk_rep (Ext.alloc W (.cells #[.int .i64 y0, .string ta, .int .i64 y1, .bool g] TMk))).ext mk_rep (Ext.alloc _ (.cells #[.int .i64 y2] INT)))
            have lit := (mk_lit ((W.alloc (.cells #[.int .i64 y0, .string ta, .int .i64 y1, .bool g] TMk)).alloc (.cells #[.int .i64 y2] INT)) ⟨y0, ta, y1, g⟩).lst
            rw [show ((W.alloc (.cells #[.int .i64 y0, .string ta, .int .i64 y1, .bool g] TMk)).alloc (.cells #[.int .i64 y2] INT)).heap.size = W.heap.size + 2 by simp] at lit
            go_wp2_with (
              at_builtin
              refine wpList_append_flat (w0 := w) mk_rep (fun x cs w h => mk_nop h) rfl _ _ _ _ rfl TMk TMk i0 _ 40 under_mks under_mks hi0 hz0 hz1 hz2 rfl Ao k co out rfl (hown5.ext mk_rep (Ext.alloc _ _)) _ 1 1 [⟨y0, ta, y1, g⟩] rfl lit (k + 1) rfl _ rfl (by simp only [maxLen]; omega) (by omega) (hx5.allocs _) ?_
              intro A6 c6 w6 hb6 hx6)
            go_wp2_with fail
            go_roundw
            case rel => exact ⟨k + 1, tb, true, A6, c6, _, by omega, rfl, rfl, rfl, by go_num, hb6, HN, hx6⟩
            case measure => simp [intOf]; omega
    · obtain rfl : k = N := by omega
      have hr1 := hrk.out
      rw [Nat.sub_self] at hr1
      obtain rfl : some (out, d) = o := by rw [← hr1]; simp [mksG]
      clear hrk hr1
      go_wp2_with fail
      go_ret2
      exact ⟨_, _, _, rfl, hown, hxr⟩
end Go.Proofs.Ytoeknbogaclfdaa
