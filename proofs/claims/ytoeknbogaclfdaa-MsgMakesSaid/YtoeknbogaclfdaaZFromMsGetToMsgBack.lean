/-
  Messages out of bytes: contract of the program's Get.
-/
/-
  Chapter 9: the statements' own Make, known.
-/
/-
  Chapter 9: the statements' own 'known' and 'few'.
-/
/-
  Chapter 9: the statement MsgBack, walked.
-/
import Derived.Test.YtoeknbogaclfdaaZMsParse2
import Derived.Test.YtoeknbogaclfdaaZMsPut
import Derived.Test.YtoeknbogaclfdaaZMake9c
import Derived.Test.YtoeknbogaclfdaaZMsSame
import Derived.Test.YtoeknbogaclfdaaZFromMsPartsToMsRight
import Derived.Test.YtoeknbogaclfdaaZFromChainPlainToGet
import Derived.Test.YtoeknbogaclfdaaZFromFlatToMkSame
import Derived.Test.YtoeknbogaclfdaaZCore
import Derived.Deep.QuietTactic
import Derived.BigQuiet
import Derived.Test.YtoeknbogaclfdaaZFromMksPutToMsParse
import Derived.Test.YtoeknbogaclfdaaZFromSumToFrame
namespace Go.Proofs.Ytoeknbogaclfdaa
open Go.RowKit
set_option linter.unusedVariables false
set_option linter.unusedSimpArgs false
set_option linter.unnecessarySimpa false
set_option maxRecDepth 100000
theorem entsG_fit : ∀ (f : Nat) (b : List UInt8) (a : Int) (l : List En), entsG f b a = some l → EnFit l
  | 0, b, a, l, h => by
    simp [entsG] at h
    subst h
    intro x hx
    simp at hx
  | f + 1, b, a, l, h => by
    rw [entsG] at h
    split at h
    · rename_i h0
      obtain ⟨r, h3, h4⟩ := Option.map_eq_some_iff.1 h
      subst h4
      intro x hx
      rcases List.mem_cons.1 hx with rfl | hx
      · unfold tkA at h0 ⊢
        split at h0
        · simp at h0
        · split at h0
          · rename_i h1 h2
            rw [if_neg h1, if_pos h2]
            unfold tkE at h2
            split at h2
            · cases h2
            · split at h2
              · cases h2
              · split at h2
                · cases h2
                · rename_i hf
                  unfold tkFit at hf
                  have hf2 : rightN (tkT (b.drop a.toNat)) (tkS (b.drop a.toNat)) (tkN (b.drop a.toNat)) = true := by
                    simp only [Bool.and_eq_false_iff, not_or, Bool.not_eq_false] at hf
                    exact hf.1
                  have := rightN_iff.1 hf2
                  simp only
                  omega
          · rename_i h1 h2
            simp only at h0
            exact absurd h0 h2
      · exact entsG_fit f b _ r h3 x hx
    · cases h
theorem parseM_fit {rf : Bool} {b : List UInt8} {m : Ms} (h : parseM rf b = some m) : EnFit m.ents ∧ ∀ x ∈ m.marks, x.nm.size ≤ 20 := by
  unfold parseM at h
  split at h
  · cases h
  · obtain ⟨p, h1, h2⟩ := Option.bind_eq_some_iff.1 h
    obtain ⟨q, h3, h4⟩ := Option.bind_eq_some_iff.1 h2
    obtain ⟨r, h5, h6⟩ := Option.map_eq_some_iff.1 h4
    subst h6
    unfold restO at h5
    split at h5
    · obtain ⟨l, h7, h8⟩ := Option.map_eq_some_iff.1 h5
      subst h8
      unfold entsO at h7
      split at h7
      · exact ⟨entsG_fit _ _ _ _ h7, (by intro x hx; cases hx)⟩
      · cases h7
    · split at h5
      · obtain ⟨l, h7, h8⟩ := Option.map_eq_some_iff.1 h5
        subst h8
        exact ⟨(by intro x hx; cases hx), (mksO_short h7).2⟩
      · split at h5
        · injection h5 with h5
          subst h5
          exact ⟨(by intro x hx; cases hx), (by intro x hx; cases hx)⟩
        · injection h5 with h5
          subst h5
          exact ⟨(by intro x hx; cases hx), (by intro x hx; cases hx)⟩
theorem getM_open {rf : Bool} {b : List UInt8} (h : crcOpen b = none) : getM rf b = none := by unfold getM; rw [h]; rfl
theorem getM_form {rf : Bool} {b c : List UInt8} (h : crcOpen b = some c) (hp : parseM rf c = none) : getM rf b = none := by unfold getM; rw [h, Option.bind_some, hp]; rfl
theorem getM_at {rf : Bool} {b c : List UInt8} {m : Ms} (hc : crcOpen b = some c) (hp : parseM rf c = some m) : getM rf b = if rightM m = true ∧ putM m = b then some m else none := by
  unfold getM
  rw [hc, Option.bind_some, hp, Option.bind_some]
abbrev zeroM : Array Value := nilC 0 0 0 0 0 0
set_option maxHeartbeats 8000000 in
theorem msg_Get {A : Option Addr} {n c : Nat} {b : List UInt8} {w : World} (hb : Sl w A n c b) (hn6 : n ≤ 1000000) {o : Option Ms} (ho : Hid (getM false b = o)) {y : Int} (hy : Hid (whyO (crcOpen b) o.isSome = y)) :
    Calls Try.prog 14 #[.slice A n c] w fun e w' => ∃ B1 Bn1 Bc1 B2 Bn2 Bc2 B3 Bn3 Bc3 B4 Bn4 Bc4, e = .returned (.tuple #[msV (o.getD ms0) B1 Bn1 Bc1 B2 Bn2 Bc2 B3 Bn3 Bc3 B4 Bn4 Bc4, .int .i64 y]) ∧ MsR w' (o.getD ms0) B1 Bn1 Bc1 B2 Bn2 Bc2 B3 Bn3 Bc3 B4 Bn4 Bc4 ∧ Ext w w' := by
  have h63 := hb.n63
  obtain ⟨cb, hcb⟩ : ∃ q, crcOpen b = q := ⟨_, rfl⟩
  have HCB := Lib.hid hcb
  have hy1 := hy.out
  have ho1 := ho.out
  rw [hcb] at hy1
  clear hy ho
  cases cb with
  | none =>
    rw [getM_open hcb] at ho1
    subst ho1
    obtain rfl : 13 = y := hy1
    clear hcb
    go_enter Try.func14, Try.ntmps14
    go_wp2_with fail
    refine (crc_Open_any A n c b _ (hb.ext (Ext.alloc _ _)) (by omega) HCB).mono ?_
    rintro e w2 ⟨A2, n2, c2, rfl, h2, hx2⟩
    have bk2 := blk_ext (heap_alloc_new w (.cells zeroM TMs)) hx2
    have gx2 : Ext w w2 := (Ext.alloc _ _).trans hx2
    have k0 : w2.cell? ⟨w.heap.size, 0, none⟩ = some (.int .i64 0) := blk_cell bk2 0
    have l0 := blk_frozen bk2 0
    have k1 : w2.cell? ⟨w.heap.size, 1, none⟩ = some (.int .i64 0) := blk_cell bk2 1
    have l1 := blk_frozen bk2 1
    have k2 : w2.cell? ⟨w.heap.size, 2, none⟩ = some (.int .i64 0) := blk_cell bk2 2
    have l2 := blk_frozen bk2 2
    have k3 : w2.cell? ⟨w.heap.size, 3, none⟩ = some (.int .i64 0) := blk_cell bk2 3
    have l3 := blk_frozen bk2 3
    have k4 : w2.cell? ⟨w.heap.size, 4, none⟩ = some (.int .i64 0) := blk_cell bk2 4
    have l4 := blk_frozen bk2 4
    have k5 : w2.cell? ⟨w.heap.size, 5, none⟩ = some (.int .i64 0) := blk_cell bk2 5
    have l5 := blk_frozen bk2 5
    have k6 : w2.cell? ⟨w.heap.size, 6, none⟩ = some (.slice none 0 0) := blk_cell bk2 6
    have l6 := blk_frozen bk2 6
    have k7 : w2.cell? ⟨w.heap.size, 7, none⟩ = some (.slice none 0 0) := blk_cell bk2 7
    have l7 := blk_frozen bk2 7
    have k8 : w2.cell? ⟨w.heap.size, 8, none⟩ = some (.slice none 0 0) := blk_cell bk2 8
    have l8 := blk_frozen bk2 8
    have k9 : w2.cell? ⟨w.heap.size, 9, none⟩ = some (.slice none 0 0) := blk_cell bk2 9
    have l9 := blk_frozen bk2 9
    clear hx2
    go_wp2_with fail
    refine bodyPost_ret (v := .tuple #[msV ms0 none 0 0 none 0 0 none 0 0 none 0 0, .int .i64 13]) ?hres rfl ⟨_, _, _, _, _, _, _, _, _, _, _, _, rfl, ?hm, ?hxx⟩
    case hres => simp [results, Try.results14, go_sem, ms0, k0, k1, k2, k3, k4, k5, k6, k7, k8, k9]
    case hm => exact MsR.nil _ _ _ _ _ _ _
    case hxx => (repeat (first | (with_reducible exact Ext.refl _) | (with_reducible assumption) | (with_reducible refine Ext.draws ?_) | (with_reducible refine Ext.allocs ?_ _) | (with_reducible refine Ext.sets ?_ ?_ _) | (with_reducible exact Nat.le_refl _) | (exact (by simp)) | (exact (by simp; omega))))
  | some cb =>
    obtain ⟨op, hop⟩ : ∃ q, parseM false cb = q := ⟨_, rfl⟩
    have HOP := Lib.hid hop
    have hcl : cb.length ≤ n := by
      unfold crcOpen at hcb
      split at hcb
      · injection hcb with hcb
        rw [← hcb, List.length_take, hb.len]
        omega
      · cases hcb
    cases op with
    | none =>
      rw [getM_form hcb hop] at ho1
      subst ho1
      obtain rfl : 2 = y := hy1
      clear hcb hop
      go_enter Try.func14, Try.ntmps14
      go_wp2_with fail
      refine (crc_Open_any A n c b _ (hb.ext (Ext.alloc _ _)) (by omega) HCB).mono ?_
      rintro e w2 ⟨A2, n2, c2, rfl, h2, hx2⟩
      have hn2 : n2 ≤ 1000000 := by rw [← h2.len]; exact Nat.le_trans hcl hn6
      go_wp2_with fail
      have hpc := msg_parse h2.sl hn2 HOP
      simp only [Option.isSome_none] at hpc
      refine hpc.mono ?_
      rintro e w3 ⟨m3, B1, Bn1, Bc1, B2, Bn2, Bc2, B3, Bn3, Bc3, B4, Bn4, Bc4, rfl, hm3, hx3⟩
      clear hpc hm3
      obtain ⟨z1, z2, z3, z4, z5, z6, z7, z8, z9, z10⟩ := m3
      have hx4 := (hx2.trans hx3).allocs (.cells #[.int .i64 z1, .int .i64 z2, .int .i64 z3, .int .i64 z4, .int .i64 z5, .int .i64 z6, .slice B1 Bn1 Bc1, .slice B2 Bn2 Bc2, .slice B3 Bn3 Bc3, .slice B4 Bn4 Bc4] TMs)
      have bk4 := blk_ext (heap_alloc_new w (.cells zeroM TMs)) hx4
      have gx3 : Ext w w3 := (Ext.alloc _ _).trans (hx2.trans hx3)
      have k0 : (w3.alloc (.cells #[.int .i64 z1, .int .i64 z2, .int .i64 z3, .int .i64 z4, .int .i64 z5, .int .i64 z6, .slice B1 Bn1 Bc1, .slice B2 Bn2 Bc2, .slice B3 Bn3 Bc3, .slice B4 Bn4 Bc4] TMs)).cell? ⟨w.heap.size, 0, none⟩ = some (.int .i64 0) := blk_cell bk4 0
      have l0 := blk_frozen bk4 0
      have k1 : (w3.alloc (.cells #[.int .i64 z1, .int .i64 z2, .int .i64 z3, .int .i64 z4, .int .i64 z5, .int .i64 z6, .slice B1 Bn1 Bc1, .slice B2 Bn2 Bc2, .slice B3 Bn3 Bc3, .slice B4 Bn4 Bc4] TMs)).cell? ⟨w.heap.size, 1, none⟩ = some (.int .i64 0) := blk_cell bk4 1
      have l1 := blk_frozen bk4 1
      have k2 : (w3.alloc (.cells #[.int .i64 z1, .int .i64 z2, .int .i64 z3, .int .i64 z4, .int .i64 z5, .int .i64 z6, .slice B1 Bn1 Bc1, .slice B2 Bn2 Bc2, .slice B3 Bn3 Bc3, .slice B4 Bn4 Bc4] TMs)).cell? ⟨w.heap.size, 2, none⟩ = some (.int .i64 0) := blk_cell bk4 2
      have l2 := blk_frozen bk4 2
      have k3 : (w3.alloc (.cells #[.int .i64 z1, .int .i64 z2, .int .i64 z3, .int .i64 z4, .int .i64 z5, .int .i64 z6, .slice B1 Bn1 Bc1, .slice B2 Bn2 Bc2, .slice B3 Bn3 Bc3, .slice B4 Bn4 Bc4] TMs)).cell? ⟨w.heap.size, 3, none⟩ = some (.int .i64 0) := blk_cell bk4 3
      have l3 := blk_frozen bk4 3
      have k4 : (w3.alloc (.cells #[.int .i64 z1, .int .i64 z2, .int .i64 z3, .int .i64 z4, .int .i64 z5, .int .i64 z6, .slice B1 Bn1 Bc1, .slice B2 Bn2 Bc2, .slice B3 Bn3 Bc3, .slice B4 Bn4 Bc4] TMs)).cell? ⟨w.heap.size, 4, none⟩ = some (.int .i64 0) := blk_cell bk4 4
      have l4 := blk_frozen bk4 4
      have k5 : (w3.alloc (.cells #[.int .i64 z1, .int .i64 z2, .int .i64 z3, .int .i64 z4, .int .i64 z5, .int .i64 z6, .slice B1 Bn1 Bc1, .slice B2 Bn2 Bc2, .slice B3 Bn3 Bc3, .slice B4 Bn4 Bc4] TMs)).cell? ⟨w.heap.size, 5, none⟩ = some (.int .i64 0) := blk_cell bk4 5
      have l5 := blk_frozen bk4 5
      have k6 : (w3.alloc (.cells #[.int .i64 z1, .int .i64 z2, .int .i64 z3, .int .i64 z4, .int .i64 z5, .int .i64 z6, .slice B1 Bn1 Bc1, .slice B2 Bn2 Bc2, .slice B3 Bn3 Bc3, .slice B4 Bn4 Bc4] TMs)).cell? ⟨w.heap.size, 6, none⟩ = some (.slice none 0 0) := blk_cell bk4 6
      have l6 := blk_frozen bk4 6
      have k7 : (w3.alloc (.cells #[.int .i64 z1, .int .i64 z2, .int .i64 z3, .int .i64 z4, .int .i64 z5, .int .i64 z6, .slice B1 Bn1 Bc1, .slice B2 Bn2 Bc2, .slice B3 Bn3 Bc3, .slice B4 Bn4 Bc4] TMs)).cell? ⟨w.heap.size, 7, none⟩ = some (.slice none 0 0) := blk_cell bk4 7
      have l7 := blk_frozen bk4 7
      have k8 : (w3.alloc (.cells #[.int .i64 z1, .int .i64 z2, .int .i64 z3, .int .i64 z4, .int .i64 z5, .int .i64 z6, .slice B1 Bn1 Bc1, .slice B2 Bn2 Bc2, .slice B3 Bn3 Bc3, .slice B4 Bn4 Bc4] TMs)).cell? ⟨w.heap.size, 8, none⟩ = some (.slice none 0 0) := blk_cell bk4 8
      have l8 := blk_frozen bk4 8
      have k9 : (w3.alloc (.cells #[.int .i64 z1, .int .i64 z2, .int .i64 z3, .int .i64 z4, .int .i64 z5, .int .i64 z6, .slice B1 Bn1 Bc1, .slice B2 Bn2 Bc2, .slice B3 Bn3 Bc3, .slice B4 Bn4 Bc4] TMs)).cell? ⟨w.heap.size, 9, none⟩ = some (.slice none 0 0) := blk_cell bk4 9
      have l9 := blk_frozen bk4 9
      clear hx2 hx3 hx4 h2
      go_wp2_with fail
      refine bodyPost_ret (v := .tuple #[msV ms0 none 0 0 none 0 0 none 0 0 none 0 0, .int .i64 2]) ?hres rfl ⟨_, _, _, _, _, _, _, _, _, _, _, _, rfl, ?hm, ?hxx⟩
      case hres => simp [results, Try.results14, go_sem, ms0, k0, k1, k2, k3, k4, k5, k6, k7, k8, k9]
      case hm => exact MsR.nil _ _ _ _ _ _ _
      case hxx => (repeat (first | (with_reducible exact Ext.refl _) | (with_reducible assumption) | (with_reducible refine Ext.draws ?_) | (with_reducible refine Ext.allocs ?_ _) | (with_reducible refine Ext.sets ?_ ?_ _) | (with_reducible exact Nat.le_refl _) | (exact (by simp)) | (exact (by simp; omega))))
    | some m =>
      have hsh := parseM_fit hop
      rw [getM_at hcb hop] at ho1
      obtain ⟨r, hr⟩ : ∃ q, rightM m = q := ⟨_, rfl⟩
      have HR := Lib.hid hr
      obtain ⟨L, hL⟩ : ∃ q, putMr m r = q := ⟨_, rfl⟩
      have HL := Lib.hid hL
      have HS : Hid (Shorts m.marks) := fun x hx => by have := hsh.2 x hx; omega
      have HF := Lib.hid hsh.1
      have HO : Hid ((if r = true ∧ putM m = b then some m else none) = o) := by unfold Hid; rw [← ho1, hr]
      clear hcb hop hsh ho1 hr
      go_enter Try.func14, Try.ntmps14
      go_wp2_with fail
      refine (crc_Open_any A n c b _ (hb.ext (Ext.alloc _ _)) (by omega) HCB).mono ?_
      rintro e w2 ⟨A2, n2, c2, rfl, h2, hx2⟩
      have hn2 : n2 ≤ 1000000 := by rw [← h2.len]; exact Nat.le_trans hcl hn6
      go_wp2_with fail
      have hpc := msg_parse h2.sl hn2 HOP
      simp only [Option.isSome_some] at hpc
      refine hpc.mono ?_
      rintro e w3 ⟨m3, B1, Bn1, Bc1, B2, Bn2, Bc2, B3, Bn3, Bc3, B4, Bn4, Bc4, rfl, hm3, hx3⟩
      obtain ⟨rfl, hi3⟩ := hm3 _ rfl
      clear hpc hm3
      have hlt2 : w.heap.size < w2.heap.size := World.block_lt_of_cell? _ _ (hx2.cell (cell_new w zeroM TMs 0))
      have HI3 : Hid (Hi (w.heap.size + 1) (fun u => MsR u m3 B1 Bn1 Bc1 B2 Bn2 Bc2 B3 Bn3 Bc3 B4 Bn4 Bc4) w3) := hi3.low (by omega)
      obtain ⟨z1, z2, z3, z4, z5, z6, z7, z8, z9, z10⟩ := m3
      have hxa := Ext.alloc w3 (.cells #[.int .i64 z1, .int .i64 z2, .int .i64 z3, .int .i64 z4, .int .i64 z5, .int .i64 z6, .slice B1 Bn1 Bc1, .slice B2 Bn2 Bc2, .slice B3 Bn3 Bc3, .slice B4 Bn4 Bc4] TMs)
      have hpu := fun u (hu : Ext w3 u) => msg_Put (HI3.out.out.ext hu) HF HS HR HL
      have gx3 : Ext w w3 := (Ext.alloc _ _).trans (hx2.trans hx3)
      have hlt3 : w.heap.size < w3.heap.size := Nat.lt_of_lt_of_le hlt2 hx3.size
      have bk3 := blk_ext (heap_alloc_new w (.cells zeroM TMs)) (hx2.trans hx3)
      clear hi3 h2 hx2 hx3 HOP
      go_wp2_with fail
      refine (hpu _ hxa).mono ?_
      rintro e w5 ⟨A5, n5, c5, rfl, h5, hx5⟩
      have hxb := hxa.trans hx5
      have bk5 := blk_ext bk3 hxb
      have C5 := blk_ext (heap_alloc_new w3 (.cells #[.int .i64 z1, .int .i64 z2, .int .i64 z3, .int .i64 z4, .int .i64 z5, .int .i64 z6, .slice B1 Bn1 Bc1, .slice B2 Bn2 Bc2, .slice B3 Bn3 Bc3, .slice B4 Bn4 Bc4] TMs)) hx5
      have k0 : w5.cell? ⟨w.heap.size, 0, none⟩ = some (.int .i64 0) := blk_cell bk5 0
      have l0 := blk_frozen bk5 0
      have k1 : w5.cell? ⟨w.heap.size, 1, none⟩ = some (.int .i64 0) := blk_cell bk5 1
      have l1 := blk_frozen bk5 1
      have k2 : w5.cell? ⟨w.heap.size, 2, none⟩ = some (.int .i64 0) := blk_cell bk5 2
      have l2 := blk_frozen bk5 2
      have k3 : w5.cell? ⟨w.heap.size, 3, none⟩ = some (.int .i64 0) := blk_cell bk5 3
      have l3 := blk_frozen bk5 3
      have k4 : w5.cell? ⟨w.heap.size, 4, none⟩ = some (.int .i64 0) := blk_cell bk5 4
      have l4 := blk_frozen bk5 4
      have k5 : w5.cell? ⟨w.heap.size, 5, none⟩ = some (.int .i64 0) := blk_cell bk5 5
      have l5 := blk_frozen bk5 5
      have k6 : w5.cell? ⟨w.heap.size, 6, none⟩ = some (.slice none 0 0) := blk_cell bk5 6
      have l6 := blk_frozen bk5 6
      have k7 : w5.cell? ⟨w.heap.size, 7, none⟩ = some (.slice none 0 0) := blk_cell bk5 7
      have l7 := blk_frozen bk5 7
      have k8 : w5.cell? ⟨w.heap.size, 8, none⟩ = some (.slice none 0 0) := blk_cell bk5 8
      have l8 := blk_frozen bk5 8
      have k9 : w5.cell? ⟨w.heap.size, 9, none⟩ = some (.slice none 0 0) := blk_cell bk5 9
      have l9 := blk_frozen bk5 9
      have p0 := blk_cell C5 0
      have p1 := blk_cell C5 1
      have p2 := blk_cell C5 2
      have p3 := blk_cell C5 3
      have p4 := blk_cell C5 4
      have p5 := blk_cell C5 5
      have p6 := blk_cell C5 6
      have p7 := blk_cell C5 7
      have p8 := blk_cell C5 8
      have p9 := blk_cell C5 9
      have gw5 : Ext w w5 := gx3.trans hxb
      have HI5 := Lib.hid (HI3.out.ext hxb)
      have hne : w.heap.size ≠ w3.heap.size := by omega
      have hb5 := hb.ext gw5
      clear hpu hxa hx5 hxb bk3 bk5 C5 HI3 gx3
      cases r with
      | false =>
        have e1 := HO.out
        rw [if_neg (by simp)] at e1
        subst e1
        obtain rfl : 2 = y := hy1
        clear HO
        rw [show (if false = true then (0 : Int) else 1) = 1 from rfl]
        go_wp2_with fail
        refine bodyPost_ret (v := .tuple #[msV ms0 none 0 0 none 0 0 none 0 0 none 0 0, .int .i64 2]) ?hres rfl ⟨_, _, _, _, _, _, _, _, _, _, _, _, rfl, ?hm, ?hxx⟩
        case hres => simp [results, Try.results14, go_sem, ms0, k0, k1, k2, k3, k4, k5, k6, k7, k8, k9]
        case hm => exact MsR.nil _ _ _ _ _ _ _
        case hxx => (repeat (first | (with_reducible exact Ext.refl _) | (with_reducible assumption) | (with_reducible refine Ext.draws ?_) | (with_reducible refine Ext.allocs ?_ _) | (with_reducible refine Ext.sets ?_ ?_ _) | (with_reducible exact Nat.le_refl _) | (exact (by simp)) | (exact (by simp; omega))))
      | true =>
        obtain rfl : putM ⟨z1, z2, z3, z4, z5, z6, z7, z8, z9, z10⟩ = L := HL.out
        rw [show (if true = true then (0 : Int) else 1) = 0 from rfl]
        obtain ⟨z, hz⟩ : ∃ z, (putM ⟨z1, z2, z3, z4, z5, z6, z7, z8, z9, z10⟩ == b) = z := ⟨_, rfl⟩
        have HZ := Lib.hid hz
        have hbe := bytes_Equal A5 n5 c5 _ A n c b _ h5.sl hb5
        rw [HZ.out] at hbe
        cases z with
        | false =>
          have e1 := HO.out
          rw [if_neg (by rintro ⟨_, e⟩; rw [e] at hz; simp at hz)] at e1
          subst e1
          obtain rfl : 2 = y := hy1
          clear HO hz HL hL
          go_wp2_with fail
          refine hbe.mono ?_
          rintro e _ ⟨rfl, rfl⟩
          go_wp2_with fail
          refine bodyPost_ret (v := .tuple #[msV ms0 none 0 0 none 0 0 none 0 0 none 0 0, .int .i64 2]) ?hres rfl ⟨_, _, _, _, _, _, _, _, _, _, _, _, rfl, ?hm, ?hxx⟩
          case hres => simp [results, Try.results14, go_sem, ms0, k0, k1, k2, k3, k4, k5, k6, k7, k8, k9]
          case hm => exact MsR.nil _ _ _ _ _ _ _
          case hxx => (repeat (first | (with_reducible exact Ext.refl _) | (with_reducible assumption) | (with_reducible refine Ext.draws ?_) | (with_reducible refine Ext.allocs ?_ _) | (with_reducible refine Ext.sets ?_ ?_ _) | (with_reducible exact Nat.le_refl _) | (exact (by simp)) | (exact (by simp; omega))))
        | true =>
          have e1 := HO.out
          rw [if_pos ⟨rfl, eq_of_beq hz⟩] at e1
          subst e1
          obtain rfl : 0 = y := hy1
          clear HO hz HL hL
          go_wp2_with fail
          refine hbe.mono ?_
          rintro e _ ⟨rfl, rfl⟩
          go_wp2_with fail
          refine bodyPost_ret (v := .tuple #[msV ⟨z1, z2, z3, z4, z5, z6, z7, z8, z9, z10⟩ B1 Bn1 Bc1 B2 Bn2 Bc2 B3 Bn3 Bc3 B4 Bn4 Bc4, .int .i64 0]) ?hres rfl ⟨_, _, _, _, _, _, _, _, _, _, _, _, rfl, ?hm, ?hxx⟩
          case hres => simp [results, Try.results14, go_sem, k0, k1, k2, k3, k4, k5, k6, k7, k8, k9]
          case hm =>
            refine Hi.out (B := w.heap.size + 1) (P := fun u => MsR u ⟨z1, z2, z3, z4, z5, z6, z7, z8, z9, z10⟩ B1 Bn1 Bc1 B2 Bn2 Bc2 B3 Bn3 Bc3 B4 Bn4 Bc4) ?_
            have HALL := HI5.out
            (repeat (first | (with_reducible exact HALL) | (refine Hi.setBox ?_ _)))
          case hxx => (repeat (first | (with_reducible exact Ext.refl _) | (with_reducible assumption) | (with_reducible refine Ext.draws ?_) | (with_reducible refine Ext.allocs ?_ _) | (with_reducible refine Ext.sets ?_ ?_ _) | (with_reducible exact Nat.le_refl _) | (exact (by simp)) | (exact (by simp; omega))))
end Go.Proofs.Ytoeknbogaclfdaa

namespace Go.Proofs.Ytoeknbogaclfdaa
open Go.RowKit
set_option linter.unusedVariables false
set_option linter.unusedSimpArgs false
set_option linter.unnecessarySimpa false
set_option maxRecDepth 100000
theorem msk (v m : Int) (k : Nat) (h : bits BinOp.and IntKind.i64 v m = v % ((2 ^ k : Nat) : Int)) : ∃ q : Nat, bits BinOp.and IntKind.i64 v m = (q : Int) ∧ q ≤ 2 ^ k - 1 := by
  have h0 := Nat.two_pow_pos k
  have h1 := Int.emod_nonneg v (show ((2 ^ k : Nat) : Int) ≠ 0 by omega)
  have h2 := Int.emod_lt_of_pos v (show (0 : Int) < ((2 ^ k : Nat) : Int) by omega)
  refine ⟨(v % ((2 ^ k : Nat) : Int)).toNat, by rw [h]; omega, by omega⟩
set_option maxHeartbeats 4000000 in
theorem law9_Make {kind : Int} {A : Option Addr} {n c : Nat} {l : List Int} {A' : Option Addr} {n' c' : Nat} {p : List UInt8} {w : World} (hl : Lst 1 intR w A n c l) (hn : n ≤ 1000) (hp : Sl w A' n' c' p) (hn6 : n' ≤ 1000000) {m : Ms} (hm : Hid (makeM kind l p = m)) :
    Calls Try.prog 12 #[.int .i64 kind, .slice A n c, .slice A' n' c'] w fun e w' => ∃ B1 Bn1 Bc1 B2 Bn2 Bc2 B3 Bn3 Bc3 B4 Bn4 Bc4, e = .returned (msV m B1 Bn1 Bc1 B2 Bn2 Bc2 B3 Bn3 Bc3 B4 Bn4 Bc4) ∧ MsR w' m B1 Bn1 Bc1 B2 Bn2 Bc2 B3 Bn3 Bc3 B4 Bn4 Bc4 ∧ Ext w w' := by
  obtain ⟨s0, hs0⟩ : ∃ z, svI l 0 = z := ⟨_, rfl⟩
  obtain ⟨s1, hs1⟩ : ∃ z, svI l 1 = z := ⟨_, rfl⟩
  obtain ⟨s2, hs2⟩ : ∃ z, svI l 2 = z := ⟨_, rfl⟩
  obtain ⟨s3, hs3⟩ : ∃ z, svI l 3 = z := ⟨_, rfl⟩
  obtain ⟨s4, hs4⟩ : ∃ z, svI l 4 = z := ⟨_, rfl⟩
  have HS : Hid (svI l 0 = s0 ∧ svI l 1 = s1 ∧ svI l 2 = s2 ∧ svI l 3 = s3 ∧ svI l 4 = s4) := ⟨hs0, hs1, hs2, hs3, hs4⟩
  obtain ⟨n0, hn0, hn0b⟩ := msk s0 1048575 20 (i64_low s0 1048575 20 (by omega) (by decide))
  obtain ⟨u0, hu0, hub⟩ := msk kind 255 8 (and255 kind)
  obtain ⟨a1, ha1, ha1b⟩ := msk s1 65535 16 (and65535 s1)
  obtain ⟨a2, ha2, ha2b⟩ := msk s2 65535 16 (and65535 s2)
  obtain ⟨b1, hb1, hb1b⟩ := msk s1 15 4 (and15 s1)
  obtain ⟨b2, hb2, hb2b⟩ := msk s2 511 9 (and511 s2)
  obtain ⟨t0, ht0, ht0b⟩ := msk s4 63 6 (and63 s4)
  obtain ⟨t3, ht3, ht3b⟩ := msk s3 3 2 (and3 s3)
  obtain ⟨m2, hm2, hm2b⟩ := msk s2 7 3 (and7 s2)
  obtain ⟨m3, hm3, hm3b⟩ := msk s3 511 9 (and511 s3)
  obtain ⟨e1, he1, he1b⟩ := msk s1 255 8 (and255 s1)
  have hE : growL l = ((growL l).1, (growL l).2) := rfl
  have hk : kdI kind = 1 + (u0 : Int) % 9 := by
    show 1 + bits BinOp.and IntKind.i64 kind 255 % 9 = _
    rw [hu0]
  have hmm := hm.out
  have hu9 : (u0 : Int) % 9 = 0 ∨ (u0 : Int) % 9 = 1 ∨ (u0 : Int) % 9 = 2 ∨ (u0 : Int) % 9 = 3 ∨ (u0 : Int) % 9 = 4 ∨ (u0 : Int) % 9 = 5 ∨ (u0 : Int) % 9 = 6 ∨ (u0 : Int) % 9 = 7 ∨ (u0 : Int) % 9 = 8 := by omega
  unfold makeM at hmm
  rw [hs0, hs1, hs2, hs3, hs4] at hmm
  unfold bnd at hmm
  rw [hn0, ha1, ha2, hb1, hb2, ht0, ht3, hm2, hm3, he1, Int.toNat_natCast] at hmm
  rcases hu9 with h | h | h | h | h | h | h | h | h
  · have hk2 : kdI kind = 1 := by omega
    rw [hk2] at hmm
    simp at hmm
    subst hmm
    have := law9_Make_1 hl hn hp HS hn0 hn0b hu0 hub h (p1 := a1) (p2 := a2) ha1 ha1b ha2 ha2b
    first | exact this | simpa using this
  · have hk2 : kdI kind = 2 := by omega
    rw [hk2, hp.len] at hmm
    simp at hmm
    subst hmm
    have := law9_Make_2 hl hn hp hn6 HS hn0 hn0b hu0 hub h hE ha1 ha1b ha2 ha2b ht0 ht0b ht3 ht3b rfl
    first | exact this | simpa using this
  · have hk2 : kdI kind = 3 := by omega
    rw [hk2] at hmm
    simp at hmm
    subst hmm
    have := law9_Make_3 hl hn hp HS hn0 hn0b hu0 hub h 
    first | exact this | simpa using this
  · have hk2 : kdI kind = 4 := by omega
    rw [hk2] at hmm
    simp at hmm
    subst hmm
    have := law9_Make_4 hl hn hp HS hn0 hn0b hu0 hub h hE ha1 ha1b hm2 hm2b hm3 hm3b
    first | exact this | simpa using this
  · have hk2 : kdI kind = 5 := by omega
    rw [hk2] at hmm
    simp at hmm
    subst hmm
    have := law9_Make_5 hl hn hp HS hn0 hn0b hu0 hub h (p1 := b1) (p2 := b2) hb1 hb1b hb2 hb2b
    first | exact this | simpa using this
  · have hk2 : kdI kind = 6 := by omega
    rw [hk2] at hmm
    simp at hmm
    subst hmm
    have := law9_Make_6 hl hn hp HS hn0 hn0b hu0 hub h (p1 := b1) (p2 := b2) hb1 hb1b hb2 hb2b rfl
    first | exact this | simpa using this
  · have hk2 : kdI kind = 7 := by omega
    rw [hk2] at hmm
    simp at hmm
    subst hmm
    have := law9_Make_7 hl hn hp HS hn0 hn0b hu0 hub h 
    first | exact this | simpa using this
  · have hk2 : kdI kind = 8 := by omega
    rw [hk2] at hmm
    simp at hmm
    subst hmm
    have := law9_Make_8 hl hn hp HS hn0 hn0b hu0 hub h 
    first | exact this | simpa using this
  · have hk2 : kdI kind = 9 := by omega
    rw [hk2] at hmm
    simp at hmm
    subst hmm
    have := law9_Make_9 hl hn hp HS hn0 hn0b hu0 hub h he1 he1b (p1 := e1 % 13) (by omega) (by omega)
    first | exact this | simpa using this
end Go.Proofs.Ytoeknbogaclfdaa

namespace Go.Proofs.Ytoeknbogaclfdaa
open Go.RowKit
set_option linter.unusedVariables false
set_option linter.unusedSimpArgs false
set_option linter.unnecessarySimpa false
set_option maxRecDepth 100000
abbrev mK : Ms := ⟨3, 1, 0, 0, 0, 0, [], [], [], []⟩
theorem known9_r : rightM mK = true := by decide +kernel
theorem known9_z : rightM ms0 = false := by decide +kernel
theorem known9_len : (putM mK).length = 10 := by decide +kernel
theorem known9_open : crcOpen [] = none := by decide +kernel
theorem known9_none : getM false [] = none := getM_open known9_open
theorem known9_get : getM false (putM mK) = some mK := getM_iff.2 ⟨known9_r, rfl⟩
theorem getM_why {rf : Bool} {b : List UInt8} {m : Ms} (hg : getM rf b = some m) : whyO (crcOpen b) true = 0 := by
  cases hc : crcOpen b with
  | none => rw [getM_open hc] at hg; cases hg
  | some c => rfl
set_option maxHeartbeats 2000000 in
theorem law9_known (w : World) : Calls Try.prog 11 #[] w fun e w' => e = .returned (.bool true) ∧ Ext w w' := by
  have R1 := Lib.hid known9_r
  obtain ⟨F, hF⟩ : ∃ F, putM mK = F := ⟨_, rfl⟩
  have HL : Hid (putMr mK true = F) := hF
  have hg := known9_get
  have hl := known9_len
  rw [hF] at hg hl
  have HG := Lib.hid hg
  have HW : Hid (whyO (crcOpen F) (some mK).isSome = 0) := getM_why hg
  have HG0 := Lib.hid known9_none
  have HW0 : Hid (whyO (crcOpen []) (none : Option Ms).isSome = 13) := by unfold Hid; rw [known9_open]; rfl
  have HLN := Lib.hid hl
  have HE : Hid (EnFit []) := by intro x hx; cases hx
  have HS : Hid (Shorts []) := by intro x hx; cases hx
  have HSA : Hid (sameMs mK mK = true) := by unfold Hid sameMs; simp
  have HZ := Lib.hid known9_z
  clear hF hg hl
  go_enter Try.func11, Try.ntmps11
  go_wp2_with fail
  obtain ⟨w1, hw1⟩ : ∃ q, q = w.alloc (.cells (msC mK none 0 0 none 0 0 none 0 0 none 0 0) TMs) := ⟨_, rfl⟩
  have gx1 : Ext w w1 := by rw [hw1]; exact Ext.alloc _ _
  have b0 : w1.cell? ⟨w.heap.size, 0, none⟩ = some (.int .i64 3) := by rw [hw1]; exact cell_new _ _ _ 0
  have b1 : w1.cell? ⟨w.heap.size, 1, none⟩ = some (.int .i64 1) := by rw [hw1]; exact cell_new _ _ _ 1
  have b2 : w1.cell? ⟨w.heap.size, 2, none⟩ = some (.int .i64 0) := by rw [hw1]; exact cell_new _ _ _ 2
  have b3 : w1.cell? ⟨w.heap.size, 3, none⟩ = some (.int .i64 0) := by rw [hw1]; exact cell_new _ _ _ 3
  have b4 : w1.cell? ⟨w.heap.size, 4, none⟩ = some (.int .i64 0) := by rw [hw1]; exact cell_new _ _ _ 4
  have b5 : w1.cell? ⟨w.heap.size, 5, none⟩ = some (.int .i64 0) := by rw [hw1]; exact cell_new _ _ _ 5
  have b6 : w1.cell? ⟨w.heap.size, 6, none⟩ = some (.slice none 0 0) := by rw [hw1]; exact cell_new _ _ _ 6
  have b7 : w1.cell? ⟨w.heap.size, 7, none⟩ = some (.slice none 0 0) := by rw [hw1]; exact cell_new _ _ _ 7
  have b8 : w1.cell? ⟨w.heap.size, 8, none⟩ = some (.slice none 0 0) := by rw [hw1]; exact cell_new _ _ _ 8
  have b9 : w1.cell? ⟨w.heap.size, 9, none⟩ = some (.slice none 0 0) := by rw [hw1]; exact cell_new _ _ _ 9
  rw [← hw1]
  clear hw1
  refine (msg_Put (m := mK) (MsR.nil w1 _ _ _ _ _ _) HE HS R1 HL).mono ?_
  rintro e w2 ⟨A2, n2, c2, rfl, hb2, hx2⟩
  rw [show (if true = true then (0 : Int) else 1) = 0 from rfl]
  have hn2 : n2 = 10 := by rw [← hb2.len]; exact HLN.out
  subst hn2
  replace b0 := hx2.cell b0
  replace b1 := hx2.cell b1
  replace b2 := hx2.cell b2
  replace b3 := hx2.cell b3
  replace b4 := hx2.cell b4
  replace b5 := hx2.cell b5
  replace b6 := hx2.cell b6
  replace b7 := hx2.cell b7
  replace b8 := hx2.cell b8
  replace b9 := hx2.cell b9
  have gx2 := gx1.trans hx2
  clear gx1 hx2
  go_wp2_with fail
  have hgc := msg_Get hb2.sl (by omega) HG HW
  simp only [Option.getD_some] at hgc
  refine hgc.mono ?_
  rintro e w3 ⟨B1, Bn1, Bc1, B2, Bn2, Bc2, B3, Bn3, Bc3, B4, Bn4, Bc4, rfl, h3, hx3⟩
  clear hgc
  have q3 := h3.n63
  obtain ⟨w4, hw4⟩ : ∃ q, q = w3.alloc (.cells (msC mK B1 Bn1 Bc1 B2 Bn2 Bc2 B3 Bn3 Bc3 B4 Bn4 Bc4) TMs) := ⟨_, rfl⟩
  have hx4 : Ext w3 w4 := by rw [hw4]; exact Ext.alloc _ _
  have d0 : w4.cell? ⟨w3.heap.size, 0, none⟩ = some (.int .i64 3) := by rw [hw4]; exact cell_new _ _ _ 0
  replace b0 := (hx3.trans hx4).cell b0
  have d1 : w4.cell? ⟨w3.heap.size, 1, none⟩ = some (.int .i64 1) := by rw [hw4]; exact cell_new _ _ _ 1
  replace b1 := (hx3.trans hx4).cell b1
  have d2 : w4.cell? ⟨w3.heap.size, 2, none⟩ = some (.int .i64 0) := by rw [hw4]; exact cell_new _ _ _ 2
  replace b2 := (hx3.trans hx4).cell b2
  have d3 : w4.cell? ⟨w3.heap.size, 3, none⟩ = some (.int .i64 0) := by rw [hw4]; exact cell_new _ _ _ 3
  replace b3 := (hx3.trans hx4).cell b3
  have d4 : w4.cell? ⟨w3.heap.size, 4, none⟩ = some (.int .i64 0) := by rw [hw4]; exact cell_new _ _ _ 4
  replace b4 := (hx3.trans hx4).cell b4
  have d5 : w4.cell? ⟨w3.heap.size, 5, none⟩ = some (.int .i64 0) := by rw [hw4]; exact cell_new _ _ _ 5
  replace b5 := (hx3.trans hx4).cell b5
  have d6 : w4.cell? ⟨w3.heap.size, 6, none⟩ = some (.slice B1 Bn1 Bc1) := by rw [hw4]; exact cell_new _ _ _ 6
  replace b6 := (hx3.trans hx4).cell b6
  have d7 : w4.cell? ⟨w3.heap.size, 7, none⟩ = some (.slice B2 Bn2 Bc2) := by rw [hw4]; exact cell_new _ _ _ 7
  replace b7 := (hx3.trans hx4).cell b7
  have d8 : w4.cell? ⟨w3.heap.size, 8, none⟩ = some (.slice B3 Bn3 Bc3) := by rw [hw4]; exact cell_new _ _ _ 8
  replace b8 := (hx3.trans hx4).cell b8
  have d9 : w4.cell? ⟨w3.heap.size, 9, none⟩ = some (.slice B4 Bn4 Bc4) := by rw [hw4]; exact cell_new _ _ _ 9
  replace b9 := (hx3.trans hx4).cell b9
  have gx4 := (gx2.trans hx3).trans hx4
  replace h3 := h3.ext hx4
  clear gx2 hx3 hb2
  go_wp2_with fail
  rw [← hw4]
  clear hw4 hx4
  have hgc := msg_Get (Sl.nil w4) (by omega) HG0 HW0
  simp only [Option.getD_none] at hgc
  refine hgc.mono ?_
  rintro e w5 ⟨C1, Cn1, Cc1, C2, Cn2, Cc2, C3, Cn3, Cc3, C4, Cn4, Cc4, rfl, h5, hx5⟩
  clear hgc
  have q5 := h5.n63
  have hx6 : Ext w4 (w5.alloc (.cells (msC ms0 C1 Cn1 Cc1 C2 Cn2 Cc2 C3 Cn3 Cc3 C4 Cn4 Cc4) TMs)) := hx5.allocs _
  replace d0 := hx6.cell d0
  replace b0 := hx6.cell b0
  replace d1 := hx6.cell d1
  replace b1 := hx6.cell b1
  replace d2 := hx6.cell d2
  replace b2 := hx6.cell b2
  replace d3 := hx6.cell d3
  replace b3 := hx6.cell b3
  replace d4 := hx6.cell d4
  replace b4 := hx6.cell b4
  replace d5 := hx6.cell d5
  replace b5 := hx6.cell b5
  replace d6 := hx6.cell d6
  replace b6 := hx6.cell b6
  replace d7 := hx6.cell d7
  replace b7 := hx6.cell b7
  replace d8 := hx6.cell d8
  replace b8 := hx6.cell b8
  replace d9 := hx6.cell d9
  replace b9 := hx6.cell b9
  have gx6 := gx4.trans hx6
  replace h3 := h3.ext hx6
  clear gx4 hx5 hx6 h5
  go_wp2_with fail
  refine (ref_SameMsg h3 (MsR.nil _ _ _ _ _ _ _) HSA).mono ?_
  rintro e w7 ⟨rfl, hx7⟩
  have gx7 := gx6.trans hx7
  clear gx6 hx7 h3
  go_wp2_with fail
  refine (msg_Right (m := ms0) (MsR.nil _ _ _ _ _ _ _) HE HS HZ).mono ?_
  rintro e w8 ⟨rfl, hx8⟩
  go_wp2_with fail
  go_ret
  exact ⟨rfl, gx7.trans hx8⟩
end Go.Proofs.Ytoeknbogaclfdaa

namespace Go.Proofs.Ytoeknbogaclfdaa
open Go.RowKit
set_option linter.unusedVariables false
set_option linter.unusedSimpArgs false
set_option linter.unnecessarySimpa false
set_option maxRecDepth 100000
theorem rightM_fit {m : Ms} (hr : rightM m = true) : EnFit m.ents ∧ Shorts m.marks := by
  have hg : getM false (putM m) = some m := getM_iff.2 ⟨hr, rfl⟩
  cases hc : crcOpen (putM m) with
  | none => rw [getM_open hc] at hg; cases hg
  | some c =>
    cases hp : parseM false c with
    | none => rw [getM_form hc hp] at hg; cases hg
    | some m' =>
      rw [getM_at hc hp] at hg
      split at hg
      · injection hg with hg
        subst hg
        obtain ⟨a, b⟩ := parseM_fit hp
        exact ⟨a, fun x hx => by have := b x hx; omega⟩
      · cases hg
end Go.Proofs.Ytoeknbogaclfdaa
