/-
  Events: contract of the program's Get.
-/
import Derived.Test.YtkoknleopmlhcaaEvParse
namespace Go.Proofs.Ytkoknleopmlhcaa
open Go.RowKit
set_option linter.unusedVariables false
set_option linter.unusedSimpArgs false
set_option linter.unnecessarySimpa false
set_option maxRecDepth 100000

def gotE (b : List UInt8) : Int × Int × Int × List UInt8 × ByteArray := if evOk b then (parK b, parO b, parM b, parL b, parS b) else (0, 0, 0, [], ⟨#[]⟩)
theorem gotE_no {b : List UInt8} (h : evOk b = false) : gotE b = (0, 0, 0, [], ⟨#[]⟩) := by unfold gotE; rw [h]; rfl
theorem gotE_yes {b : List UInt8} (h : evOk b = true) : gotE b = (parK b, parO b, parM b, parL b, parS b) := by unfold gotE; rw [h]; rfl
theorem parS_size (b : List UInt8) : (parS b).size ≤ b.length := by
  unfold parS
  split
  · show (b.drop 1).toArray.size ≤ b.length
    simp
  · exact Nat.zero_le _
theorem evOk_nil {b : List UInt8} (h : b.length = 0) : evOk b = false := by unfold evOk; rw [h]; rfl
theorem Ext.frozenF {a b : World} (h : Ext a b) {p : Addr} {u : Value} (hc : a.cell? p = some u) (hf : a.frozen? p = false) : b.frozen? p = false := by
  rw [h.frozen (World.block_lt_of_cell? a p hc)]
  exact hf

set_option maxHeartbeats 4000000 in
theorem event_Get {A : Option Addr} {n c : Nat} {b : List UInt8} {w : World} (hb : Sl w A n c b) (hn6 : n ≤ 1000000) {r : Bool} (hr : Hid (evOk b = r)) {K O M : Int} {L : List UInt8} {S : ByteArray} (hg : Hid (gotE b = (K, O, M, L, S))) :
    Calls Try.prog 51 #[.slice A n c] w fun e w' => ∃ A' n' c', e = .returned (.tuple #[evV K O M A' n' c' S, .int .i64 (if r then 0 else 2)]) ∧ Byt U8 w' w.heap.size A' n' c' L ∧ Ext w w' := by
  have hbl := hb.len
  have h63 := hb.n63
  by_cases h0 : n = 0
  · subst h0
    have hf := evOk_nil hbl
    have h1 := gotE_no hf
    rw [hg.out] at h1
    rw [hr.out] at hf
    subst hf
    simp only [Prod.mk.injEq] at h1
    obtain ⟨rfl, rfl, rfl, rfl, rfl⟩ := h1
    clear hr hg
    go_enter Try.func51, Try.ntmps51
    go_wp2_with fail
    refine bodyPost_ret (v := .tuple #[evV 0 0 0 none 0 0 ⟨#[]⟩, .int .i64 2]) (by simp [results, Try.results51, go_sem]) rfl ⟨_, _, _, rfl, Byt.nil _ _ _ _, ?_⟩
    (repeat (first | (with_reducible exact Ext.refl _) | (with_reducible assumption) | (with_reducible refine Ext.draws ?_) | (with_reducible refine Ext.allocs ?_ _) | (with_reducible refine Ext.sets ?_ ?_ _) | (with_reducible exact Nat.le_refl _) | (exact (by simp)) | (exact (by simp; omega))))
  · have hss := parS_size b
    have hkb := parK_bounds b
    have hnc := hb.cap
    obtain ⟨r1, hr1⟩ : ∃ q, rightE (parK b) (parO b) (parM b) (parL b).length (parS b) = q := ⟨_, rfl⟩
    obtain ⟨L2, hL2⟩ : ∃ q, (if r1 then putE (parK b) (parO b) (parM b) (parL b) (parS b) else []) = q := ⟨_, rfl⟩
    obtain ⟨eq, heq⟩ : ∃ q, (L2 == b) = q := ⟨_, rfl⟩
    have hev : r = (r1 && eq) := by
      rw [← hr.out, ← heq, ← hL2]
      unfold evOk
      rw [hr1]
      cases r1
      · simp
      · simp; omega
    obtain ⟨k1, hk1⟩ : ∃ q, parK b = q := ⟨_, rfl⟩
    obtain ⟨o1, ho1⟩ : ∃ q, parO b = q := ⟨_, rfl⟩
    obtain ⟨m1, hm1⟩ : ∃ q, parM b = q := ⟨_, rfl⟩
    obtain ⟨l1, hl1⟩ : ∃ q, parL b = q := ⟨_, rfl⟩
    obtain ⟨s1, hs1⟩ : ∃ q, parS b = q := ⟨_, rfl⟩
    have hgy : r = true → K = k1 ∧ O = o1 ∧ M = m1 ∧ L = l1 ∧ S = s1 := by
      intro h
      have h1 := gotE_yes (hr.out.trans h)
      rw [hg.out, hk1, ho1, hm1, hl1, hs1] at h1
      simpa only [Prod.mk.injEq] using h1
    have hgn : r = false → K = 0 ∧ O = 0 ∧ M = 0 ∧ L = [] ∧ S = ⟨#[]⟩ := by
      intro h
      have h1 := gotE_no (hr.out.trans h)
      rw [hg.out] at h1
      simpa only [Prod.mk.injEq] using h1
    have HP := event_parse A n c b (w.alloc (.cells #[.int .i64 0, .int .i64 0, .int .i64 0, .slice none 0 0, .string ⟨#[]⟩] 63)) (hb.ext (Ext.alloc _ _)) (by omega) hn6
    rw [hk1, ho1, hm1, hl1, hs1] at HP
    rw [hk1, ho1, hm1, hl1, hs1] at hr1 hL2
    rw [hs1] at hss
    have HR1 := Lib.hid hr1
    have HL2 := Lib.hid hL2
    have HEQ := Lib.hid heq
    have HHP := Lib.hid HP
    have HEV := Lib.hid hev
    have HGY := Lib.hid hgy
    have HGN := Lib.hid hgn
    have hn1 : ((n : Int) < 1) = False := by simp; omega
    have hss2 : s1.size ≤ maxLen := by unfold maxLen; omega
    clear hr hg hr1 hL2 heq HP hev hgy hgn hk1 ho1 hm1 hl1 hs1 hkb hss
    go_enter Try.func51, Try.ntmps51
    go_wp2_with fail
    refine HHP.out.mono ?_
    rintro e w1 ⟨A1, n1, c1, rfl, hby1, hx1⟩
    have hsl1 := hby1.sl
    have hp0 := hx1.size
    simp at hp0
    go_wp2_with fail
    have hl1n := hsl1.len
    have HR2 : Hid (rightE k1 o1 m1 n1 s1 = r1) := by rw [← hl1n]; exact HR1
    refine (event_Put k1 o1 m1 A1 n1 c1 l1 s1 _ (hsl1.ext (Ext.alloc _ _)) hss2 HR2 HL2).mono ?_
    rintro e w2 ⟨A2, n2, c2, rfl, hb2, hx2⟩
    have hlt : w1.heap.size < w2.heap.size := by have := hx2.size; simp at this; omega
    have hlt0 : w.heap.size < w1.heap.size := by omega
    have d0 : w2.cell? ⟨w1.heap.size, 0, none⟩ = some (.int .i64 k1) := hx2.cell (cell_new w1 _ _ 0)
    have gg0 : w1.cell? ⟨w.heap.size, 0, none⟩ = some (.int .i64 0) := hx1.cell (cell_new w _ _ 0)
    have g0 : w2.cell? ⟨w.heap.size, 0, none⟩ = some (.int .i64 0) := hx2.cell ((Ext.alloc _ _).cell gg0)
    have e0 : w2.frozen? ⟨w.heap.size, 0, none⟩ = false := hx2.frozenF ((Ext.alloc _ _).cell gg0) ((Ext.alloc _ _).frozenF gg0 (hx1.frozenF (cell_new w _ _ 0) (fr_new w _ _ 0)))
    clear gg0
    have d1 : w2.cell? ⟨w1.heap.size, 1, none⟩ = some (.int .i64 o1) := hx2.cell (cell_new w1 _ _ 1)
    have gg1 : w1.cell? ⟨w.heap.size, 1, none⟩ = some (.int .i64 0) := hx1.cell (cell_new w _ _ 1)
    have g1 : w2.cell? ⟨w.heap.size, 1, none⟩ = some (.int .i64 0) := hx2.cell ((Ext.alloc _ _).cell gg1)
    have e1 : w2.frozen? ⟨w.heap.size, 1, none⟩ = false := hx2.frozenF ((Ext.alloc _ _).cell gg1) ((Ext.alloc _ _).frozenF gg1 (hx1.frozenF (cell_new w _ _ 1) (fr_new w _ _ 1)))
    clear gg1
    have d2 : w2.cell? ⟨w1.heap.size, 2, none⟩ = some (.int .i64 m1) := hx2.cell (cell_new w1 _ _ 2)
    have gg2 : w1.cell? ⟨w.heap.size, 2, none⟩ = some (.int .i64 0) := hx1.cell (cell_new w _ _ 2)
    have g2 : w2.cell? ⟨w.heap.size, 2, none⟩ = some (.int .i64 0) := hx2.cell ((Ext.alloc _ _).cell gg2)
    have e2 : w2.frozen? ⟨w.heap.size, 2, none⟩ = false := hx2.frozenF ((Ext.alloc _ _).cell gg2) ((Ext.alloc _ _).frozenF gg2 (hx1.frozenF (cell_new w _ _ 2) (fr_new w _ _ 2)))
    clear gg2
    have d3 : w2.cell? ⟨w1.heap.size, 3, none⟩ = some (.slice A1 n1 c1) := hx2.cell (cell_new w1 _ _ 3)
    have gg3 : w1.cell? ⟨w.heap.size, 3, none⟩ = some (.slice none 0 0) := hx1.cell (cell_new w _ _ 3)
    have g3 : w2.cell? ⟨w.heap.size, 3, none⟩ = some (.slice none 0 0) := hx2.cell ((Ext.alloc _ _).cell gg3)
    have e3 : w2.frozen? ⟨w.heap.size, 3, none⟩ = false := hx2.frozenF ((Ext.alloc _ _).cell gg3) ((Ext.alloc _ _).frozenF gg3 (hx1.frozenF (cell_new w _ _ 3) (fr_new w _ _ 3)))
    clear gg3
    have d4 : w2.cell? ⟨w1.heap.size, 4, none⟩ = some (.string s1) := hx2.cell (cell_new w1 _ _ 4)
    have gg4 : w1.cell? ⟨w.heap.size, 4, none⟩ = some (.string ⟨#[]⟩) := hx1.cell (cell_new w _ _ 4)
    have g4 : w2.cell? ⟨w.heap.size, 4, none⟩ = some (.string ⟨#[]⟩) := hx2.cell ((Ext.alloc _ _).cell gg4)
    have e4 : w2.frozen? ⟨w.heap.size, 4, none⟩ = false := hx2.frozenF ((Ext.alloc _ _).cell gg4) ((Ext.alloc _ _).frozenF gg4 (hx1.frozenF (cell_new w _ _ 4) (fr_new w _ _ 4)))
    clear gg4
    have hx3 : Ext w w2 := ((Ext.alloc w _).trans hx1).trans ((Ext.alloc w1 _).trans hx2)
    have hby2 := hby1.ext ((Ext.alloc w1 (.cells #[.int .i64 k1, .int .i64 o1, .int .i64 m1, .slice A1 n1 c1, .string s1] 63)).trans hx2)
    clear hx1 hx2
    cases r1 with
    | false =>
      obtain rfl : r = false := by rw [HEV.out]; rfl
      obtain ⟨rfl, rfl, rfl, rfl, rfl⟩ := HGN.out rfl
      go_wp2_with fail
      refine bodyPost_ret (v := .tuple #[evV 0 0 0 none 0 0 ⟨#[]⟩, .int .i64 2]) (by simp [results, Try.results51, go_sem, g0, g1, g2, g3, g4]) rfl ⟨_, _, _, rfl, Byt.nil _ _ _ _, ?_⟩
      (repeat (first | (with_reducible exact Ext.refl _) | (with_reducible assumption) | (with_reducible refine Ext.draws ?_) | (with_reducible refine Ext.allocs ?_ _) | (with_reducible refine Ext.sets ?_ ?_ _) | (with_reducible exact Nat.le_refl _) | (exact (by simp)) | (exact (by simp; omega))))
    | true =>
      have hbE := hb.ext hx3
      go_wp2_with fail
      refine (bytes_Equal _ _ _ _ _ _ _ _ _ hb2.sl hbE).mono ?_
      rintro e w3 ⟨rfl, rfl⟩
      rw [HEQ.out]
      cases eq with
      | false =>
        obtain rfl : r = false := by rw [HEV.out]; rfl
        obtain ⟨rfl, rfl, rfl, rfl, rfl⟩ := HGN.out rfl
        go_wp2_with fail
        refine bodyPost_ret (v := .tuple #[evV 0 0 0 none 0 0 ⟨#[]⟩, .int .i64 2]) (by simp [results, Try.results51, go_sem, g0, g1, g2, g3, g4]) rfl ⟨_, _, _, rfl, Byt.nil _ _ _ _, ?_⟩
        (repeat (first | (with_reducible exact Ext.refl _) | (with_reducible assumption) | (with_reducible refine Ext.draws ?_) | (with_reducible refine Ext.allocs ?_ _) | (with_reducible refine Ext.sets ?_ ?_ _) | (with_reducible exact Nat.le_refl _) | (exact (by simp)) | (exact (by simp; omega))))
      | true =>
        obtain rfl : r = true := by rw [HEV.out]; rfl
        obtain ⟨rfl, rfl, rfl, rfl, rfl⟩ := HGY.out rfl
        go_wp2_with fail
        refine bodyPost_ret (v := .tuple #[evV K O M A1 n1 c1 S, .int .i64 0]) (by simp [results, Try.results51, go_sem, g0, g1, g2, g3, g4]) rfl ⟨_, _, _, rfl, ?hsl, ?hxx⟩
        case hsl =>
          have hne : ∀ g, rowOf A1 c1 = some g → g ≠ w.heap.size := by
            intro g hg
            have := (hby2.own.row_ge g hg).1
            simp at this
            omega
          have h4 := (((((hby2.far (p := ⟨w.heap.size, 0, none⟩) (fun g hg => (hne g hg)) (.int .i64 K)).far (p := ⟨w.heap.size, 1, none⟩) (fun g hg => (hne g hg)) (.int .i64 O)).far (p := ⟨w.heap.size, 2, none⟩) (fun g hg => (hne g hg)) (.int .i64 M)).far (p := ⟨w.heap.size, 3, none⟩) (fun g hg => (hne g hg)) (.slice A1 n1 c1)).far (p := ⟨w.heap.size, 4, none⟩) (fun g hg => (hne g hg)) (.string S))
          exact h4.low (by simp)
        case hxx => (repeat (first | (with_reducible exact Ext.refl _) | (with_reducible assumption) | (with_reducible refine Ext.draws ?_) | (with_reducible refine Ext.allocs ?_ _) | (with_reducible refine Ext.sets ?_ ?_ _) | (with_reducible exact Nat.le_refl _) | (exact (by simp)) | (exact (by simp; omega))))
end Go.Proofs.Ytkoknleopmlhcaa
