/-
  Events: contract of the program's parse.
-/
import Derived.Test.YtkoknleopmlhcaaEvPut
import Derived.Test.YtkoknleopmlhcaaVarG
import Derived.Test.YtkoknleopmlhcaaCut
namespace Go.Proofs.Ytkoknleopmlhcaa
open Go.RowKit
set_option linter.unusedVariables false
set_option linter.unusedSimpArgs false
set_option linter.unnecessarySimpa false
set_option maxRecDepth 100000

theorem parK_bounds (b : List UInt8) : 0 ≤ parK b ∧ parK b ≤ 255 := by
  unfold parK
  have := (b.getD 0 0).toNat_lt
  omega

theorem cell_new2 (w : World) (cs : Array Value) (e : TypeId) (cs2 : Array Value) (e2 : TypeId) (j : Nat) {u : Value} (hu : cs2[j]? = some u := by rfl) : ((w.alloc (.cells cs e)).alloc (.cells cs2 e2)).cell? ⟨w.heap.size + 1, j, none⟩ = some u := by
  have := cell_new (w.alloc (.cells cs e)) cs2 e2 j hu
  simpa using this
theorem fr_new (w : World) (cs : Array Value) (e : TypeId) (j : Nat) : (w.alloc (.cells cs e)).frozen? ⟨w.heap.size, j, none⟩ = false := by
  unfold World.frozen?
  simp only [heap_alloc_new]
  simp
theorem Ext.frozen {a b : World} (h : Ext a b) {p : Addr} (hp : p.block < a.heap.size) : b.frozen? p = a.frozen? p := Below.frozen h hp
theorem fr_new1 (w : World) (cs : Array Value) (e : TypeId) {o : Obj} (j : Nat) {w2 : World} (h : Ext ((w.alloc (.cells cs e)).alloc o) w2) : w2.frozen? ⟨w.heap.size, j, none⟩ = false := by
  rw [h.frozen (by simp; omega), (Ext.alloc (w.alloc (.cells cs e)) o).frozen (by simp), fr_new]
theorem fr_new2 (w : World) (cs : Array Value) (e : TypeId) (cs2 : Array Value) (e2 : TypeId) (j : Nat) {w2 : World} (h : Ext ((w.alloc (.cells cs e)).alloc (.cells cs2 e2)) w2) : w2.frozen? ⟨w.heap.size + 1, j, none⟩ = false := by
  rw [h.frozen (by simp)]
  simp

set_option maxHeartbeats 4000000 in
theorem event_parse (A : Option Addr) (n c : Nat) (b : List UInt8) (w : World) (hb : Sl w A n c b) (hn : 1 ≤ n) (hn6 : n ≤ 1000000) :
    Calls Try.prog 67 #[.slice A n c] w fun e w' => ∃ A' n' c', e = .returned (evV (parK b) (parO b) (parM b) A' n' c' (parS b)) ∧ Byt U8 w' w.heap.size A' n' c' (parL b) ∧ Ext w w' := by
  obtain ⟨ad, rfl, hcell⟩ := hb.atD (k := 0) hn
  have hkb := parK_bounds b
  obtain ⟨k, hk⟩ : ∃ k, parK b = k := ⟨_, rfl⟩
  have hcell : w.cell? ad = some (.int .u8 k) := by rw [← hk]; exact hcell
  have hadl : ad.block < w.heap.size := World.block_lt_of_cell? _ _ hcell
  rw [hk] at hkb
  have HK := Lib.hid hk
  have HO : Hid ((if k = 1 ∨ k = 2 ∨ k = 3 then gvA b 1 else 0) = parO b) := by unfold Hid parO; rw [hk]
  have HM : Hid ((if k = 2 ∨ k = 3 then gvA b (gvB b 1) else if k = 4 then gvA b 1 else 0) = parM b) := by unfold Hid parM; rw [hk]
  have HL : Hid ((if k = 1 then b.drop (gvB b 1).toNat else []) = parL b) := by unfold Hid parL; rw [hk]
  have HS : Hid ((if k = 5 ∨ k = 6 ∨ k = 7 then ⟨(b.drop 1).toArray⟩ else ⟨#[]⟩) = parS b) := by unfold Hid parS; rw [hk]
  rw [hk, ← HO.out, ← HM.out, ← HL.out, ← HS.out]
  obtain ⟨ga, hga⟩ : ∃ q, gvA b 1 = q := ⟨_, rfl⟩
  obtain ⟨gb, hgb⟩ : ∃ q, gvB b 1 = q := ⟨_, rfl⟩
  obtain ⟨gc, hgc⟩ : ∃ q, gvC b 1 = q := ⟨_, rfl⟩
  obtain ⟨g2a, hg2a⟩ : ∃ q, gvA b gb = q := ⟨_, rfl⟩
  obtain ⟨g2b, hg2b⟩ : ∃ q, gvB b gb = q := ⟨_, rfl⟩
  obtain ⟨g2c, hg2c⟩ : ∃ q, gvC b gb = q := ⟨_, rfl⟩
  rw [hga, hgb, hg2a]
  obtain ⟨bt, hbt⟩ : ∃ q, b.drop 1 = q := ⟨_, rfl⟩
  rw [hbt]
  have HB := Lib.hid hbt
  clear hbt
  have HV := Lib.hid (And.intro hga (And.intro hgb hgc))
  have HV2 := Lib.hid (And.intro hg2a (And.intro hg2b hg2c))
  clear hk HK HO HM HL HS hga hgb hgc hg2a hg2b hg2c
  have FIN : ∀ (e : Ending) (w' : World) (K O M : Int) (A' : Option Addr) (n' c' : Nat) (S : ByteArray) (LL : List UInt8), e = .returned (evV K O M A' n' c' S) → Byt U8 w' w.heap.size A' n' c' LL → Ext w w' → ∀ (K2 O2 M2 : Int) (S2 : ByteArray) (L2 : List UInt8), K = K2 → O = O2 → M = M2 → S = S2 → LL = L2 → ∃ A' n' c', e = .returned (evV K2 O2 M2 A' n' c' S2) ∧ Byt U8 w' w.heap.size A' n' c' L2 ∧ Ext w w' := by
    intro e w' K O M A' n' c' S LL he hsl hx K2 O2 M2 S2 L2 h1 h2 h3 h4 h5
    subst h1 h2 h3 h4 h5
    exact ⟨_, _, _, he, hsl, hx⟩
  have HF := Lib.hid FIN
  clear FIN
  by_cases k8 : k = 8
  · subst k8
    go_enter Try.func67, Try.ntmps67
    go_wp2_with fail
    refine bodyPost_ret (v := evV 8 0 0 none 0 0 ⟨#[]⟩) (by simp [results, Try.results67, go_sem]) rfl (HF.out _ _ _ _ _ _ _ _ _ _ rfl (Byt.nil _ _ _ _) ?_ _ _ _ _ _ rfl rfl rfl rfl rfl)
    (repeat (first | (with_reducible exact Ext.refl _) | (with_reducible assumption) | (with_reducible refine Ext.draws ?_) | (with_reducible refine Ext.allocs ?_ _) | (with_reducible refine Ext.sets ?_ ?_ _) | (with_reducible exact Nat.le_refl _) | (exact (by simp)) | (exact (by simp; omega))))
  by_cases k5 : k = 5
  · subst k5
    obtain ⟨A1, c1, hcut, hs1⟩ := cut_from hb 1 (n - 1) 1 rfl (by omega)
    rw [HB.out] at hs1
    go_enter Try.func67, Try.ntmps67
    go_wp2_with fail
    rw [run_text_u8 (hs1.ext ?hx)]
    case hx => (repeat (first | (with_reducible exact Ext.refl _) | (with_reducible assumption) | (with_reducible refine Ext.draws ?_) | (with_reducible refine Ext.allocs ?_ _) | (with_reducible refine Ext.sets ?_ ?_ _) | (with_reducible exact Nat.le_refl _) | (exact (by simp)) | (exact (by simp; omega))))
    go_wp2_with fail
    refine bodyPost_ret (v := evV 5 0 0 none 0 0 ⟨bt.toArray⟩) (by simp [results, Try.results67, go_sem]) rfl (HF.out _ _ _ _ _ _ _ _ _ _ rfl (Byt.nil _ _ _ _) ?_ _ _ _ _ _ rfl rfl rfl rfl rfl)
    (repeat (first | (with_reducible exact Ext.refl _) | (with_reducible assumption) | (with_reducible refine Ext.draws ?_) | (with_reducible refine Ext.allocs ?_ _) | (with_reducible refine Ext.sets ?_ ?_ _) | (with_reducible exact Nat.le_refl _) | (exact (by simp)) | (exact (by simp; omega))))
  by_cases k6 : k = 6
  · subst k6
    obtain ⟨A1, c1, hcut, hs1⟩ := cut_from hb 1 (n - 1) 1 rfl (by omega)
    rw [HB.out] at hs1
    go_enter Try.func67, Try.ntmps67
    go_wp2_with fail
    rw [run_text_u8 (hs1.ext ?hx)]
    case hx => (repeat (first | (with_reducible exact Ext.refl _) | (with_reducible assumption) | (with_reducible refine Ext.draws ?_) | (with_reducible refine Ext.allocs ?_ _) | (with_reducible refine Ext.sets ?_ ?_ _) | (with_reducible exact Nat.le_refl _) | (exact (by simp)) | (exact (by simp; omega))))
    go_wp2_with fail
    refine bodyPost_ret (v := evV 6 0 0 none 0 0 ⟨bt.toArray⟩) (by simp [results, Try.results67, go_sem]) rfl (HF.out _ _ _ _ _ _ _ _ _ _ rfl (Byt.nil _ _ _ _) ?_ _ _ _ _ _ rfl rfl rfl rfl rfl)
    (repeat (first | (with_reducible exact Ext.refl _) | (with_reducible assumption) | (with_reducible refine Ext.draws ?_) | (with_reducible refine Ext.allocs ?_ _) | (with_reducible refine Ext.sets ?_ ?_ _) | (with_reducible exact Nat.le_refl _) | (exact (by simp)) | (exact (by simp; omega))))
  by_cases k7 : k = 7
  · subst k7
    obtain ⟨A1, c1, hcut, hs1⟩ := cut_from hb 1 (n - 1) 1 rfl (by omega)
    rw [HB.out] at hs1
    go_enter Try.func67, Try.ntmps67
    go_wp2_with fail
    rw [run_text_u8 (hs1.ext ?hx)]
    case hx => (repeat (first | (with_reducible exact Ext.refl _) | (with_reducible assumption) | (with_reducible refine Ext.draws ?_) | (with_reducible refine Ext.allocs ?_ _) | (with_reducible refine Ext.sets ?_ ?_ _) | (with_reducible exact Nat.le_refl _) | (exact (by simp)) | (exact (by simp; omega))))
    go_wp2_with fail
    refine bodyPost_ret (v := evV 7 0 0 none 0 0 ⟨bt.toArray⟩) (by simp [results, Try.results67, go_sem]) rfl (HF.out _ _ _ _ _ _ _ _ _ _ rfl (Byt.nil _ _ _ _) ?_ _ _ _ _ _ rfl rfl rfl rfl rfl)
    (repeat (first | (with_reducible exact Ext.refl _) | (with_reducible assumption) | (with_reducible refine Ext.draws ?_) | (with_reducible refine Ext.allocs ?_ _) | (with_reducible refine Ext.sets ?_ ?_ _) | (with_reducible exact Nat.le_refl _) | (exact (by simp)) | (exact (by simp; omega))))
  by_cases k4 : k = 4
  · subst k4
    go_enter Try.func67, Try.ntmps67
    go_wp2_with fail
    refine (bits_GetVar_h (hb.ext ?hx) HV).mono ?_
    case hx => (repeat (first | (with_reducible exact Ext.refl _) | (with_reducible assumption) | (with_reducible refine Ext.draws ?_) | (with_reducible refine Ext.allocs ?_ _) | (with_reducible refine Ext.sets ?_ ?_ _) | (with_reducible exact Nat.le_refl _) | (exact (by simp)) | (exact (by simp; omega))))
    rintro e w1 ⟨rfl, rfl⟩
    go_wp2_with fail
    refine bodyPost_ret (v := evV 4 0 ga none 0 0 ⟨#[]⟩) (by simp [results, Try.results67, go_sem]) rfl (HF.out _ _ _ _ _ _ _ _ _ _ rfl (Byt.nil _ _ _ _) ?_ _ _ _ _ _ rfl rfl rfl rfl rfl)
    (repeat (first | (with_reducible exact Ext.refl _) | (with_reducible assumption) | (with_reducible refine Ext.draws ?_) | (with_reducible refine Ext.allocs ?_ _) | (with_reducible refine Ext.sets ?_ ?_ _) | (with_reducible exact Nat.le_refl _) | (exact (by simp)) | (exact (by simp; omega))))
  by_cases k2 : k = 2
  · subst k2
    go_enter Try.func67, Try.ntmps67
    go_wp2_with fail
    refine (bits_GetVar_h (hb.ext ?hx) HV).mono ?_
    case hx => (repeat (first | (with_reducible exact Ext.refl _) | (with_reducible assumption) | (with_reducible refine Ext.draws ?_) | (with_reducible refine Ext.allocs ?_ _) | (with_reducible refine Ext.sets ?_ ?_ _) | (with_reducible exact Nat.le_refl _) | (exact (by simp)) | (exact (by simp; omega))))
    rintro e w1 ⟨rfl, rfl⟩
    go_wp2_with fail
    refine (bits_GetVar_h (hb.ext ?hx) HV2).mono ?_
    case hx => (repeat (first | (with_reducible exact Ext.refl _) | (with_reducible assumption) | (with_reducible refine Ext.draws ?_) | (with_reducible refine Ext.allocs ?_ _) | (with_reducible refine Ext.sets ?_ ?_ _) | (with_reducible exact Nat.le_refl _) | (exact (by simp)) | (exact (by simp; omega))))
    rintro e w1 ⟨rfl, rfl⟩
    go_wp2_with fail
    refine bodyPost_ret (v := evV 2 ga g2a none 0 0 ⟨#[]⟩) (by simp [results, Try.results67, go_sem]) rfl (HF.out _ _ _ _ _ _ _ _ _ _ rfl (Byt.nil _ _ _ _) ?_ _ _ _ _ _ rfl rfl rfl rfl rfl)
    (repeat (first | (with_reducible exact Ext.refl _) | (with_reducible assumption) | (with_reducible refine Ext.draws ?_) | (with_reducible refine Ext.allocs ?_ _) | (with_reducible refine Ext.sets ?_ ?_ _) | (with_reducible exact Nat.le_refl _) | (exact (by simp)) | (exact (by simp; omega))))
  by_cases k3 : k = 3
  · subst k3
    go_enter Try.func67, Try.ntmps67
    go_wp2_with fail
    refine (bits_GetVar_h (hb.ext ?hx) HV).mono ?_
    case hx => (repeat (first | (with_reducible exact Ext.refl _) | (with_reducible assumption) | (with_reducible refine Ext.draws ?_) | (with_reducible refine Ext.allocs ?_ _) | (with_reducible refine Ext.sets ?_ ?_ _) | (with_reducible exact Nat.le_refl _) | (exact (by simp)) | (exact (by simp; omega))))
    rintro e w1 ⟨rfl, rfl⟩
    go_wp2_with fail
    refine (bits_GetVar_h (hb.ext ?hx) HV2).mono ?_
    case hx => (repeat (first | (with_reducible exact Ext.refl _) | (with_reducible assumption) | (with_reducible refine Ext.draws ?_) | (with_reducible refine Ext.allocs ?_ _) | (with_reducible refine Ext.sets ?_ ?_ _) | (with_reducible exact Nat.le_refl _) | (exact (by simp)) | (exact (by simp; omega))))
    rintro e w1 ⟨rfl, rfl⟩
    go_wp2_with fail
    refine bodyPost_ret (v := evV 3 ga g2a none 0 0 ⟨#[]⟩) (by simp [results, Try.results67, go_sem]) rfl (HF.out _ _ _ _ _ _ _ _ _ _ rfl (Byt.nil _ _ _ _) ?_ _ _ _ _ _ rfl rfl rfl rfl rfl)
    (repeat (first | (with_reducible exact Ext.refl _) | (with_reducible assumption) | (with_reducible refine Ext.draws ?_) | (with_reducible refine Ext.allocs ?_ _) | (with_reducible refine Ext.sets ?_ ?_ _) | (with_reducible exact Nat.le_refl _) | (exact (by simp)) | (exact (by simp; omega))))
  by_cases k1 : k = 1
  · subst k1
    obtain ⟨q, hq, hqn⟩ : ∃ q : Nat, gb = q ∧ q ≤ n := by
      have := gv_small b 1 (by omega)
      rw [HV.out.2.1, hb.len] at this
      exact ⟨gb.toNat, by omega, by omega⟩
    obtain ⟨A1, c1, hcut, hs1⟩ := cut_from hb q (n - q) gb hq (by omega)
    have hgq : gb.toNat = q := by omega
    have HG := Lib.hid hgq
    clear hq hgq
    go_enter Try.func67, Try.ntmps67
    go_wp2_with fail
    refine (bits_GetVar_h (hb.ext ?hx) HV).mono ?_
    case hx => (repeat (first | (with_reducible exact Ext.refl _) | (with_reducible assumption) | (with_reducible refine Ext.draws ?_) | (with_reducible refine Ext.allocs ?_ _) | (with_reducible refine Ext.sets ?_ ?_ _) | (with_reducible exact Nat.le_refl _) | (exact (by simp)) | (exact (by simp; omega))))
    rintro e w1 ⟨rfl, rfl⟩
    go_wp2_with fail
    refine (slices_Clone A1 (n - q) c1 _ _ (hs1.ext ?hx) (by omega)).mono ?_
    case hx => (repeat (first | (with_reducible exact Ext.refl _) | (with_reducible assumption) | (with_reducible refine Ext.draws ?_) | (with_reducible refine Ext.allocs ?_ _) | (with_reducible refine Ext.sets ?_ ?_ _) | (with_reducible exact Nat.le_refl _) | (exact (by simp)) | (exact (by simp; omega))))
    rintro e w2 ⟨A3, c3, rfl, h3, hx3⟩
    have hlt2 : w.heap.size + 1 < w2.heap.size := by have := hx3.size; simp at this; omega
    have d0 : w2.cell? ⟨w.heap.size + 1, 0, none⟩ = some (.int .i64 1) := hx3.cell (cell_new2 w _ _ _ _ 0)
    have f0 : w2.frozen? ⟨w.heap.size + 1, 0, none⟩ = false := fr_new2 w _ _ _ _ 0 hx3
    have g0 : w2.cell? ⟨w.heap.size, 0, none⟩ = some (.int .i64 0) := hx3.cell ((Ext.alloc _ _).cell (cell_new w _ _ 0))
    have e0 : w2.frozen? ⟨w.heap.size, 0, none⟩ = false := fr_new1 w _ _ 0 hx3
    have d1 : w2.cell? ⟨w.heap.size + 1, 1, none⟩ = some (.int .i64 ga) := hx3.cell (cell_new2 w _ _ _ _ 1)
    have f1 : w2.frozen? ⟨w.heap.size + 1, 1, none⟩ = false := fr_new2 w _ _ _ _ 1 hx3
    have g1 : w2.cell? ⟨w.heap.size, 1, none⟩ = some (.int .i64 0) := hx3.cell ((Ext.alloc _ _).cell (cell_new w _ _ 1))
    have e1 : w2.frozen? ⟨w.heap.size, 1, none⟩ = false := fr_new1 w _ _ 1 hx3
    have d2 : w2.cell? ⟨w.heap.size + 1, 2, none⟩ = some (.int .i64 0) := hx3.cell (cell_new2 w _ _ _ _ 2)
    have f2 : w2.frozen? ⟨w.heap.size + 1, 2, none⟩ = false := fr_new2 w _ _ _ _ 2 hx3
    have g2 : w2.cell? ⟨w.heap.size, 2, none⟩ = some (.int .i64 0) := hx3.cell ((Ext.alloc _ _).cell (cell_new w _ _ 2))
    have e2 : w2.frozen? ⟨w.heap.size, 2, none⟩ = false := fr_new1 w _ _ 2 hx3
    have d3 : w2.cell? ⟨w.heap.size + 1, 3, none⟩ = some (.slice none 0 0) := hx3.cell (cell_new2 w _ _ _ _ 3)
    have f3 : w2.frozen? ⟨w.heap.size + 1, 3, none⟩ = false := fr_new2 w _ _ _ _ 3 hx3
    have g3 : w2.cell? ⟨w.heap.size, 3, none⟩ = some (.slice none 0 0) := hx3.cell ((Ext.alloc _ _).cell (cell_new w _ _ 3))
    have e3 : w2.frozen? ⟨w.heap.size, 3, none⟩ = false := fr_new1 w _ _ 3 hx3
    have d4 : w2.cell? ⟨w.heap.size + 1, 4, none⟩ = some (.string ⟨#[]⟩) := hx3.cell (cell_new2 w _ _ _ _ 4)
    have f4 : w2.frozen? ⟨w.heap.size + 1, 4, none⟩ = false := fr_new2 w _ _ _ _ 4 hx3
    have g4 : w2.cell? ⟨w.heap.size, 4, none⟩ = some (.string ⟨#[]⟩) := hx3.cell ((Ext.alloc _ _).cell (cell_new w _ _ 4))
    have e4 : w2.frozen? ⟨w.heap.size, 4, none⟩ = false := fr_new1 w _ _ 4 hx3
    have hx4 : Ext w w2 := Ext.trans (by (repeat (first | (with_reducible exact Ext.refl _) | (with_reducible assumption) | (with_reducible refine Ext.draws ?_) | (with_reducible refine Ext.allocs ?_ _) | (with_reducible refine Ext.sets ?_ ?_ _) | (with_reducible exact Nat.le_refl _) | (exact (by simp)) | (exact (by simp; omega))))) hx3
    clear hx3
    go_wp2_with fail
    refine bodyPost_ret (v := evV 1 ga 0 A3 (n - q) c3 ⟨#[]⟩) (by simp [results, Try.results67, go_sem, g0, g1, g2, g3, g4]) rfl (HF.out _ _ _ _ _ _ _ _ _ _ rfl ?hsl ?hxx _ _ _ _ _ rfl rfl rfl rfl rfl)
    case hsl =>
      have hne : ∀ g, rowOf A3 c3 = some g → g ≠ w.heap.size ∧ g ≠ w.heap.size + 1 := by
        intro g hg
        have := (h3.own.row_ge g hg).1
        simp at this
        omega
      have h4 := ((((((h3.far (p := ⟨w.heap.size + 1, 3, none⟩) (fun g hg => (hne g hg).2) (.slice A3 (n - q) c3)).far (p := ⟨w.heap.size, 0, none⟩) (fun g hg => (hne g hg).1) (.int .i64 1)).far (p := ⟨w.heap.size, 1, none⟩) (fun g hg => (hne g hg).1) (.int .i64 ga)).far (p := ⟨w.heap.size, 2, none⟩) (fun g hg => (hne g hg).1) (.int .i64 0)).far (p := ⟨w.heap.size, 3, none⟩) (fun g hg => (hne g hg).1) (.slice A3 (n - q) c3)).far (p := ⟨w.heap.size, 4, none⟩) (fun g hg => (hne g hg).1) (.string ⟨#[]⟩))
      rw [HG.out]
      exact h4.low (by simp; omega)
    case hxx => (repeat (first | (with_reducible exact Ext.refl _) | (with_reducible assumption) | (with_reducible refine Ext.draws ?_) | (with_reducible refine Ext.allocs ?_ _) | (with_reducible refine Ext.sets ?_ ?_ _) | (with_reducible exact Nat.le_refl _) | (exact (by simp)) | (exact (by simp; omega))))
  have q1 : (k == 1) = false := by simp; omega
  have q2 : (k == 2) = false := by simp; omega
  have q3 : (k == 3) = false := by simp; omega
  have q4 : (k == 4) = false := by simp; omega
  have q5 : (k == 5) = false := by simp; omega
  have q6 : (k == 6) = false := by simp; omega
  have q7 : (k == 7) = false := by simp; omega
  have q8 : (k == 8) = false := by simp; omega
  rw [if_neg (by omega), if_neg (by omega), if_neg (by omega), if_neg (by omega), if_neg (by omega)]
  go_enter Try.func67, Try.ntmps67
  go_wp2_with fail
  refine bodyPost_ret (v := evV k 0 0 none 0 0 ⟨#[]⟩) (by simp [results, Try.results67, go_sem]) rfl (HF.out _ _ _ _ _ _ _ _ _ _ rfl (Byt.nil _ _ _ _) ?_ _ _ _ _ _ rfl rfl rfl rfl rfl)
  (repeat (first | (with_reducible exact Ext.refl _) | (with_reducible assumption) | (with_reducible refine Ext.draws ?_) | (with_reducible refine Ext.allocs ?_ _) | (with_reducible refine Ext.sets ?_ ?_ _) | (with_reducible exact Nat.le_refl _) | (exact (by simp)) | (exact (by simp; omega))))
end Go.Proofs.Ytkoknleopmlhcaa
