/-
  Events: contract of the reference's GetEvent.
-/
import Derived.Test.YtkoknleopmlhcaaEvGet
import Derived.Test.YtkoknleopmlhcaaEvPutRef
namespace Go.Proofs.Ytkoknleopmlhcaa
open Go.RowKit
set_option linter.unusedVariables false
set_option linter.unusedSimpArgs false
set_option linter.unnecessarySimpa false
set_option maxRecDepth 100000


theorem cell_new3 (w : World) (cs : Array Value) (e : TypeId) (cs2 : Array Value) (e2 : TypeId) (cs3 : Array Value) (e3 : TypeId) (j : Nat) {u : Value} (hu : cs3[j]? = some u := by rfl) : (((w.alloc (.cells cs e)).alloc (.cells cs2 e2)).alloc (.cells cs3 e3)).cell? ⟨w.heap.size + 1 + 1, j, none⟩ = some u := by
  have := cell_new ((w.alloc (.cells cs e)).alloc (.cells cs2 e2)) cs3 e3 j hu
  simpa using this

theorem cell_set_ne (w : World) (b o b' o' : Nat) (v : Value) (h : b ≠ b' ∨ o ≠ o') : (w.setCell ⟨b, o, none⟩ v).cell? ⟨b', o', none⟩ = w.cell? ⟨b', o', none⟩ :=
  World.cell?_setCell_other _ _ _ _ (fun e => by injection e; omega)
theorem fr_new3 (w : World) (cs : Array Value) (e : TypeId) (cs2 : Array Value) (e2 : TypeId) (cs3 : Array Value) (e3 : TypeId) (j : Nat) : (((w.alloc (.cells cs e)).alloc (.cells cs2 e2)).alloc (.cells cs3 e3)).frozen? ⟨w.heap.size + 1 + 1, j, none⟩ = false := by
  have := fr_new ((w.alloc (.cells cs e)).alloc (.cells cs2 e2)) cs3 e3 j
  rw [show ((w.alloc (.cells cs e)).alloc (.cells cs2 e2)).heap.size = w.heap.size + 1 + 1 by simp] at this
  exact this
set_option maxHeartbeats 16000000 in
theorem ref_GetEvent {A : Option Addr} {n c : Nat} {b : List UInt8} {w : World} (hb : Sl w A n c b) (hn6 : n ≤ 1000000) {r : Bool} (hr : Hid (evOk b = r)) {K O M : Int} {L : List UInt8} {S : ByteArray} (hg : Hid (gotE b = (K, O, M, L, S))) :
    Calls Try.prog 64 #[.slice A n c] w fun e w' => ∃ A' n' c', e = .returned (.tuple #[evV K O M A' n' c' S, .int .i64 (if r then 0 else 2)]) ∧ Byt U8 w' w.heap.size A' n' c' L ∧ Ext w w' := by
  have hbl := hb.len
  have h63 := hb.n63
  have hgn : r = false → K = 0 ∧ O = 0 ∧ M = 0 ∧ L = [] ∧ S = ⟨#[]⟩ := by
    intro h
    have h1 := gotE_no (hr.out.trans h)
    rw [hg.out] at h1
    simpa only [Prod.mk.injEq] using h1
  by_cases h0 : n = 0
  · subst h0
    have hf := evOk_nil hbl
    rw [hr.out] at hf
    subst hf
    obtain ⟨rfl, rfl, rfl, rfl, rfl⟩ := hgn rfl
    clear hr hg hgn
    go_enter Try.func64, Try.ntmps64
    go_wp2_with fail
    refine bodyPost_ret (v := .tuple #[evV 0 0 0 none 0 0 ⟨#[]⟩, .int .i64 2]) (by simp [results, Try.results64, go_sem]) rfl ⟨_, _, _, rfl, Byt.nil _ _ _ _, ?_⟩
    (repeat (first | (with_reducible exact Ext.refl _) | (with_reducible assumption) | (with_reducible refine Ext.draws ?_) | (with_reducible refine Ext.allocs ?_ _) | (with_reducible refine Ext.sets ?_ ?_ _) | (with_reducible exact Nat.le_refl _) | (exact (by simp)) | (exact (by simp; omega))))
  by_cases h90 : 90 < n
  · have hf : evOk b = false := by
      cases h : evOk b with
      | false => rfl
      | true => have := evOk_len h; omega
    rw [hr.out] at hf
    subst hf
    obtain ⟨rfl, rfl, rfl, rfl, rfl⟩ := hgn rfl
    have hnz : ((n : Int) == 0) = false := by simp; omega
    have hng : decide ((90 : Int) < n) = true := by simp; omega
    clear hr hg hgn
    go_enter Try.func64, Try.ntmps64
    go_wp2_with fail
    refine bodyPost_ret (v := .tuple #[evV 0 0 0 none 0 0 ⟨#[]⟩, .int .i64 2]) (by simp [results, Try.results64, go_sem]) rfl ⟨_, _, _, rfl, Byt.nil _ _ _ _, ?_⟩
    (repeat (first | (with_reducible exact Ext.refl _) | (with_reducible assumption) | (with_reducible refine Ext.draws ?_) | (with_reducible refine Ext.allocs ?_ _) | (with_reducible refine Ext.sets ?_ ?_ _) | (with_reducible exact Nat.le_refl _) | (exact (by simp)) | (exact (by simp; omega))))
  obtain ⟨ad, rfl, hcell⟩ := hb.atD (k := 0) (by omega)
  have hkb := parK_bounds b
  obtain ⟨k, hk⟩ : ∃ k, parK b = k := ⟨_, rfl⟩
  have hcell : w.cell? ad = some (.int .u8 k) := by rw [← hk]; exact hcell
  have hadl : ad.block < w.heap.size := World.block_lt_of_cell? _ _ hcell
  rw [hk] at hkb
  have hnz : ((n : Int) == 0) = false := by simp; omega
  have hng : decide ((90 : Int) < n) = false := by simp; omega
  have HGN := Lib.hid hgn
  have hgy : r = true → K = parK b ∧ O = parO b ∧ M = parM2 b ∧ L = parL2 b ∧ S = parS b := by
    intro h
    have h0 := hr.out.trans h
    have h1 := gotE_yes h0
    obtain ⟨e1, e2⟩ := parL2_of (parR_of h0)
    rw [hg.out] at h1
    rw [e1, e2]
    simpa only [Prod.mk.injEq] using h1
  have hev2 : r = (parR b && (rightE (parK b) (parO b) (parM2 b) (parL2 b).length (parS b) && (putE (parK b) (parO b) (parM2 b) (parL2 b) (parS b) == b))) := by
    rw [← hr.out, ← evOk2_eq (by omega)]
    rfl
  obtain ⟨pr, hpr⟩ : ∃ q, parR b = q := ⟨_, rfl⟩
  obtain ⟨oe, hoe⟩ : ∃ q, parO b = q := ⟨_, rfl⟩
  obtain ⟨me, hme⟩ : ∃ q, parM2 b = q := ⟨_, rfl⟩
  obtain ⟨le, hle⟩ : ∃ q, parL2 b = q := ⟨_, rfl⟩
  obtain ⟨se, hse⟩ : ∃ q, parS b = q := ⟨_, rfl⟩
  have hss : se.size ≤ maxLen := by have := parS_size b; rw [hse] at this; unfold maxLen; omega
  rw [hpr, hk, hoe, hme, hle, hse] at hev2
  rw [hk, hoe, hme, hle, hse] at hgy
  have HEV2 := Lib.hid hev2
  have HGY := Lib.hid hgy
  have HR : Hid ((if k = 1 ∨ k = 4 then gvC b 1 else if k = 2 ∨ k = 3 then (gvC b 1 && gvC b (gvB b 1)) else true) = pr) := by unfold Hid; rw [← hpr]; unfold parR; rw [hk]
  have HO : Hid ((if k = 1 ∨ k = 2 ∨ k = 3 then gvA b 1 else 0) = oe) := by unfold Hid; rw [← hoe]; unfold parO; rw [hk]
  have HM : Hid ((if k = 2 ∨ k = 3 then (if gvC b 1 then gvA b (gvB b 1) else 0) else if k = 4 then gvA b 1 else 0) = me) := by unfold Hid; rw [← hme]; unfold parM2; rw [hk]
  have HL : Hid ((if k = 1 ∧ gvC b 1 = true then b.drop (gvB b 1).toNat else []) = le) := by unfold Hid; rw [← hle]; unfold parL2; rw [hk]
  have HS : Hid ((if k = 5 ∨ k = 6 ∨ k = 7 then ⟨(b.drop 1).toArray⟩ else ⟨#[]⟩) = se) := by unfold Hid; rw [← hse]; unfold parS; rw [hk]
  obtain ⟨ga, hga⟩ : ∃ q, gvA b 1 = q := ⟨_, rfl⟩
  obtain ⟨gb, hgb⟩ : ∃ q, gvB b 1 = q := ⟨_, rfl⟩
  obtain ⟨gc, hgc⟩ : ∃ q, gvC b 1 = q := ⟨_, rfl⟩
  obtain ⟨g2a, hg2a⟩ : ∃ q, gvA b gb = q := ⟨_, rfl⟩
  obtain ⟨g2b, hg2b⟩ : ∃ q, gvB b gb = q := ⟨_, rfl⟩
  obtain ⟨g2c, hg2c⟩ : ∃ q, gvC b gb = q := ⟨_, rfl⟩
  rw [hga] at HO
  rw [hgb, hgc, hg2c] at HR
  rw [hga, hgb, hgc, hg2a] at HM
  rw [hgb, hgc] at HL
  obtain ⟨bt, hbt⟩ : ∃ q, b.drop 1 = q := ⟨_, rfl⟩
  rw [hbt] at HS
  have HV := Lib.hid (And.intro hga (And.intro hgb hgc))
  have HV2 := Lib.hid (And.intro hg2a (And.intro hg2b hg2c))
  have HB := Lib.hid hbt
  clear hr hg hgn hgy hev2 hpr hoe hme hle hse hk hga hgb hgc hg2a hg2b hg2c hbt
  by_cases k8 : k = 8
  · subst k8
    obtain rfl : pr = true := by rw [← HR.out]; simp
    obtain rfl : oe = 0 := by rw [← HO.out]; simp
    obtain rfl : se = ⟨#[]⟩ := by rw [← HS.out]; simp
    obtain rfl : me = 0 := by rw [← HM.out]; simp
    obtain rfl : le = [] := by rw [← HL.out]; simp
    clear HR HO HM HL HS
    go_enter Try.func64, Try.ntmps64
    go_wp2_with fail
    -- the world under one name; #[.int .i64 8, .int .i64 0, .int .i64 0, .slice none 0 0, .string ⟨#[]⟩]: the event's cells
    obtain ⟨W, hW⟩ : ∃ W, W = ((w.alloc (.cells #[.int .i64 0, .int .i64 0, .int .i64 0, .slice none 0 0, .string ⟨#[]⟩] 63)).alloc (.cells #[.int .i64 0, .int .i64 0, .int .i64 0, .slice none 0 0, .string ⟨#[]⟩] 63)).alloc (.cells #[.int .i64 8, .int .i64 0, .int .i64 0, .slice none 0 0, .string ⟨#[]⟩] 63) := ⟨_, rfl⟩
    rw [← hW]
    have hWs : W.heap.size = w.heap.size + 3 := by rw [hW]; simp
    have hxW : Ext w W := by rw [hW]; (repeat (first | (with_reducible exact Ext.refl _) | (with_reducible assumption) | (with_reducible refine Ext.draws ?_) | (with_reducible refine Ext.allocs ?_ _) | (with_reducible refine Ext.sets ?_ ?_ _) | (with_reducible exact Nat.le_refl _) | (exact (by simp)) | (exact (by simp; omega))))
    have g0 : W.cell? ⟨w.heap.size, 0, none⟩ = some (.int .i64 0) := by rw [hW]; exact ((Ext.alloc _ _).trans (Ext.alloc _ _)).cell (cell_new w _ _ 0)
    have e0 : W.frozen? ⟨w.heap.size, 0, none⟩ = false := by rw [hW]; exact ((Ext.alloc _ _).trans (Ext.alloc _ _)).frozenF (cell_new w _ _ 0) (fr_new w _ _ 0)
    have p0 : W.cell? ⟨w.heap.size + 1, 0, none⟩ = some (.int .i64 0) := by rw [hW]; exact (Ext.alloc _ _).cell (cell_new2 w _ _ _ _ 0)
    have g1 : W.cell? ⟨w.heap.size, 1, none⟩ = some (.int .i64 0) := by rw [hW]; exact ((Ext.alloc _ _).trans (Ext.alloc _ _)).cell (cell_new w _ _ 1)
    have e1 : W.frozen? ⟨w.heap.size, 1, none⟩ = false := by rw [hW]; exact ((Ext.alloc _ _).trans (Ext.alloc _ _)).frozenF (cell_new w _ _ 1) (fr_new w _ _ 1)
    have p1 : W.cell? ⟨w.heap.size + 1, 1, none⟩ = some (.int .i64 0) := by rw [hW]; exact (Ext.alloc _ _).cell (cell_new2 w _ _ _ _ 1)
    have g2 : W.cell? ⟨w.heap.size, 2, none⟩ = some (.int .i64 0) := by rw [hW]; exact ((Ext.alloc _ _).trans (Ext.alloc _ _)).cell (cell_new w _ _ 2)
    have e2 : W.frozen? ⟨w.heap.size, 2, none⟩ = false := by rw [hW]; exact ((Ext.alloc _ _).trans (Ext.alloc _ _)).frozenF (cell_new w _ _ 2) (fr_new w _ _ 2)
    have p2 : W.cell? ⟨w.heap.size + 1, 2, none⟩ = some (.int .i64 0) := by rw [hW]; exact (Ext.alloc _ _).cell (cell_new2 w _ _ _ _ 2)
    have g3 : W.cell? ⟨w.heap.size, 3, none⟩ = some (.slice none 0 0) := by rw [hW]; exact ((Ext.alloc _ _).trans (Ext.alloc _ _)).cell (cell_new w _ _ 3)
    have e3 : W.frozen? ⟨w.heap.size, 3, none⟩ = false := by rw [hW]; exact ((Ext.alloc _ _).trans (Ext.alloc _ _)).frozenF (cell_new w _ _ 3) (fr_new w _ _ 3)
    have p3 : W.cell? ⟨w.heap.size + 1, 3, none⟩ = some (.slice none 0 0) := by rw [hW]; exact (Ext.alloc _ _).cell (cell_new2 w _ _ _ _ 3)
    have g4 : W.cell? ⟨w.heap.size, 4, none⟩ = some (.string ⟨#[]⟩) := by rw [hW]; exact ((Ext.alloc _ _).trans (Ext.alloc _ _)).cell (cell_new w _ _ 4)
    have e4 : W.frozen? ⟨w.heap.size, 4, none⟩ = false := by rw [hW]; exact ((Ext.alloc _ _).trans (Ext.alloc _ _)).frozenF (cell_new w _ _ 4) (fr_new w _ _ 4)
    have p4 : W.cell? ⟨w.heap.size + 1, 4, none⟩ = some (.string ⟨#[]⟩) := by rw [hW]; exact (Ext.alloc _ _).cell (cell_new2 w _ _ _ _ 4)
    have d0 : W.cell? ⟨w.heap.size + 1 + 1, 0, none⟩ = some (.int .i64 8) := by rw [hW]; exact cell_new3 w _ _ _ _ _ _ 0
    have d1 : W.cell? ⟨w.heap.size + 1 + 1, 1, none⟩ = some (.int .i64 0) := by rw [hW]; exact cell_new3 w _ _ _ _ _ _ 1
    have d2 : W.cell? ⟨w.heap.size + 1 + 1, 2, none⟩ = some (.int .i64 0) := by rw [hW]; exact cell_new3 w _ _ _ _ _ _ 2
    have d3 : W.cell? ⟨w.heap.size + 1 + 1, 3, none⟩ = some (.slice none 0 0) := by rw [hW]; exact cell_new3 w _ _ _ _ _ _ 3
    have d4 : W.cell? ⟨w.heap.size + 1 + 1, 4, none⟩ = some (.string ⟨#[]⟩) := by rw [hW]; exact cell_new3 w _ _ _ _ _ _ 4
    clear hW
    -- the event has no bytes
    have hbyE : Byt U8 W (w.heap.size + 1) none 0 0 [] := Byt.nil _ _ _ _
    have hslE := hbyE.sl
    -- world W: the event's block at w.heap.size + 2; 8: k, o, m, its bytes A1 n1 c1 le, its text
    obtain ⟨r1, hr1⟩ : ∃ q, rightE 8 0 0 (([] : List UInt8)).length ⟨#[]⟩ = q := ⟨_, rfl⟩
    obtain ⟨L2, hL2⟩ : ∃ q, (if r1 then putE 8 0 0 ([] : List UInt8) ⟨#[]⟩ else []) = q := ⟨_, rfl⟩
    rw [hslE.len] at hr1
    have HR1 := Lib.hid hr1
    have HL2 := Lib.hid hL2
    clear hr1 hL2
    refine (ref_PutEvent 8 0 0 _ _ _ ([] : List UInt8) ⟨#[]⟩ _ hslE hss HR1 HL2).mono ?_
    rintro e w3 ⟨A2, n2, c2, rfl, hb2, hx2⟩
    have hlt3 : w.heap.size + 1 + 1 < w3.heap.size := by have := hx2.size; omega
    have hx3 : Ext w w3 := hxW.trans hx2
    have hbE := hb.ext hx3
    replace d0 := hx2.cell d0
    replace e0 := hx2.frozenF g0 e0
    replace g0 := hx2.cell g0
    replace p0 := hx2.cell p0
    replace d1 := hx2.cell d1
    replace e1 := hx2.frozenF g1 e1
    replace g1 := hx2.cell g1
    replace p1 := hx2.cell p1
    replace d2 := hx2.cell d2
    replace e2 := hx2.frozenF g2 e2
    replace g2 := hx2.cell g2
    replace p2 := hx2.cell p2
    replace d3 := hx2.cell d3
    replace e3 := hx2.frozenF g3 e3
    replace g3 := hx2.cell g3
    replace p3 := hx2.cell p3
    replace d4 := hx2.cell d4
    replace e4 := hx2.frozenF g4 e4
    replace g4 := hx2.cell g4
    replace p4 := hx2.cell p4
    have HEV : Hid (r = (r1 && (L2 == b))) := by
      have h1 := HEV2.out
      rw [Bool.true_and, hslE.len, HR1.out] at h1
      have h2 := HL2.out
      unfold Hid
      rw [h1, ← h2]
      cases r1 <;> rfl
    have hbyW := hbyE.ext hx2
    clear hx2
    cases r1 with
    | false =>
      obtain rfl : r = false := by rw [HEV.out]; rfl
      obtain ⟨rfl, rfl, rfl, rfl, rfl⟩ := HGN.out rfl
      go_wp2_with fail
      refine bodyPost_ret (v := .tuple #[evV 0 0 0 none 0 0 ⟨#[]⟩, .int .i64 2]) (by simp [results, Try.results64, go_sem, g0, g1, g2, g3, g4]) rfl ⟨_, _, _, rfl, Byt.nil _ _ _ _, ?_⟩
      (repeat (first | (with_reducible exact Ext.refl _) | (with_reducible assumption) | (with_reducible refine Ext.draws ?_) | (with_reducible refine Ext.allocs ?_ _) | (with_reducible refine Ext.sets ?_ ?_ _) | (with_reducible exact Nat.le_refl _) | (exact (by simp)) | (exact (by simp; omega))))
    | true =>
      have t1 := run_text_u8 hb2.sl
      have t2 := run_text_u8 hbE
      by_cases hq : L2 = b
      · subst hq
        obtain rfl : r = true := by rw [HEV.out]; simp
        obtain ⟨jK, jO, jM, jL, jS⟩ := HGY.out rfl
        replace jK := jK.symm
        replace jO := jO.symm
        replace jM := jM.symm
        replace jL := jL.symm
        replace jS := jS.symm
        subst jK jO jM jL jS
        go_wp2_with fail
        refine bodyPost_ret (v := .tuple #[evV 8 0 0 none 0 0 ⟨#[]⟩, .int .i64 0]) (by simp [results, Try.results64, go_sem, g0, g1, g2, g3, g4]) rfl ⟨_, _, _, rfl, ?hsl, ?hxx⟩
        case hsl =>
          have hne : ∀ g, rowOf none 0 = some g → g ≠ w.heap.size := by
            intro g hg
            have := (hbyW.own.row_ge g hg).1
            omega
          have h4 := (((((hbyW.far (p := ⟨w.heap.size, 0, none⟩) (fun g hg => (hne g hg)) (.int .i64 8)).far (p := ⟨w.heap.size, 1, none⟩) (fun g hg => (hne g hg)) (.int .i64 0)).far (p := ⟨w.heap.size, 2, none⟩) (fun g hg => (hne g hg)) (.int .i64 0)).far (p := ⟨w.heap.size, 3, none⟩) (fun g hg => (hne g hg)) (.slice none 0 0)).far (p := ⟨w.heap.size, 4, none⟩) (fun g hg => (hne g hg)) (.string ⟨#[]⟩))
          exact h4.low (by omega)
        case hxx => (repeat (first | (with_reducible exact Ext.refl _) | (with_reducible assumption) | (with_reducible refine Ext.draws ?_) | (with_reducible refine Ext.allocs ?_ _) | (with_reducible refine Ext.sets ?_ ?_ _) | (with_reducible exact Nat.le_refl _) | (exact (by simp)) | (exact (by simp; omega))))
      · obtain rfl : r = false := by rw [HEV.out]; simpa using hq
        obtain ⟨rfl, rfl, rfl, rfl, rfl⟩ := HGN.out rfl
        have hq2 : (L2 == b) = false := by simpa using hq
        go_wp2_with fail
        refine bodyPost_ret (v := .tuple #[evV 0 0 0 none 0 0 ⟨#[]⟩, .int .i64 2]) (by simp [results, Try.results64, go_sem, g0, g1, g2, g3, g4]) rfl ⟨_, _, _, rfl, Byt.nil _ _ _ _, ?_⟩
        (repeat (first | (with_reducible exact Ext.refl _) | (with_reducible assumption) | (with_reducible refine Ext.draws ?_) | (with_reducible refine Ext.allocs ?_ _) | (with_reducible refine Ext.sets ?_ ?_ _) | (with_reducible exact Nat.le_refl _) | (exact (by simp)) | (exact (by simp; omega))))
  by_cases k5 : k = 5
  · subst k5
    obtain rfl : pr = true := by rw [← HR.out]; simp
    obtain rfl : oe = 0 := by rw [← HO.out]; simp
    obtain rfl : se = ⟨bt.toArray⟩ := by rw [← HS.out]; simp
    obtain rfl : me = 0 := by rw [← HM.out]; simp
    obtain rfl : le = [] := by rw [← HL.out]; simp
    clear HR HO HM HL HS
    obtain ⟨AA, cc, hcut, hs1⟩ := cut_from hb 1 (n - 1) 1 rfl (by omega)
    rw [HB.out] at hs1
    go_enter Try.func64, Try.ntmps64
    go_wp2_with fail
    rw [run_text_u8 (hs1.ext ?hx)]
    case hx => (repeat (first | (with_reducible exact Ext.refl _) | (with_reducible assumption) | (with_reducible refine Ext.draws ?_) | (with_reducible refine Ext.allocs ?_ _) | (with_reducible refine Ext.sets ?_ ?_ _) | (with_reducible exact Nat.le_refl _) | (exact (by simp)) | (exact (by simp; omega))))
    go_wp2_with fail
    -- the world under one name; #[.int .i64 5, .int .i64 0, .int .i64 0, .slice none 0 0, .string ⟨bt.toArray⟩]: the event's cells
    obtain ⟨W, hW⟩ : ∃ W, W = ((w.alloc (.cells #[.int .i64 0, .int .i64 0, .int .i64 0, .slice none 0 0, .string ⟨#[]⟩] 63)).alloc (.cells #[.int .i64 0, .int .i64 0, .int .i64 0, .slice none 0 0, .string ⟨#[]⟩] 63)).alloc (.cells #[.int .i64 5, .int .i64 0, .int .i64 0, .slice none 0 0, .string ⟨bt.toArray⟩] 63) := ⟨_, rfl⟩
    rw [← hW]
    have hWs : W.heap.size = w.heap.size + 3 := by rw [hW]; simp
    have hxW : Ext w W := by rw [hW]; (repeat (first | (with_reducible exact Ext.refl _) | (with_reducible assumption) | (with_reducible refine Ext.draws ?_) | (with_reducible refine Ext.allocs ?_ _) | (with_reducible refine Ext.sets ?_ ?_ _) | (with_reducible exact Nat.le_refl _) | (exact (by simp)) | (exact (by simp; omega))))
    have g0 : W.cell? ⟨w.heap.size, 0, none⟩ = some (.int .i64 0) := by rw [hW]; exact ((Ext.alloc _ _).trans (Ext.alloc _ _)).cell (cell_new w _ _ 0)
    have e0 : W.frozen? ⟨w.heap.size, 0, none⟩ = false := by rw [hW]; exact ((Ext.alloc _ _).trans (Ext.alloc _ _)).frozenF (cell_new w _ _ 0) (fr_new w _ _ 0)
    have p0 : W.cell? ⟨w.heap.size + 1, 0, none⟩ = some (.int .i64 0) := by rw [hW]; exact (Ext.alloc _ _).cell (cell_new2 w _ _ _ _ 0)
    have g1 : W.cell? ⟨w.heap.size, 1, none⟩ = some (.int .i64 0) := by rw [hW]; exact ((Ext.alloc _ _).trans (Ext.alloc _ _)).cell (cell_new w _ _ 1)
    have e1 : W.frozen? ⟨w.heap.size, 1, none⟩ = false := by rw [hW]; exact ((Ext.alloc _ _).trans (Ext.alloc _ _)).frozenF (cell_new w _ _ 1) (fr_new w _ _ 1)
    have p1 : W.cell? ⟨w.heap.size + 1, 1, none⟩ = some (.int .i64 0) := by rw [hW]; exact (Ext.alloc _ _).cell (cell_new2 w _ _ _ _ 1)
    have g2 : W.cell? ⟨w.heap.size, 2, none⟩ = some (.int .i64 0) := by rw [hW]; exact ((Ext.alloc _ _).trans (Ext.alloc _ _)).cell (cell_new w _ _ 2)
    have e2 : W.frozen? ⟨w.heap.size, 2, none⟩ = false := by rw [hW]; exact ((Ext.alloc _ _).trans (Ext.alloc _ _)).frozenF (cell_new w _ _ 2) (fr_new w _ _ 2)
    have p2 : W.cell? ⟨w.heap.size + 1, 2, none⟩ = some (.int .i64 0) := by rw [hW]; exact (Ext.alloc _ _).cell (cell_new2 w _ _ _ _ 2)
    have g3 : W.cell? ⟨w.heap.size, 3, none⟩ = some (.slice none 0 0) := by rw [hW]; exact ((Ext.alloc _ _).trans (Ext.alloc _ _)).cell (cell_new w _ _ 3)
    have e3 : W.frozen? ⟨w.heap.size, 3, none⟩ = false := by rw [hW]; exact ((Ext.alloc _ _).trans (Ext.alloc _ _)).frozenF (cell_new w _ _ 3) (fr_new w _ _ 3)
    have p3 : W.cell? ⟨w.heap.size + 1, 3, none⟩ = some (.slice none 0 0) := by rw [hW]; exact (Ext.alloc _ _).cell (cell_new2 w _ _ _ _ 3)
    have g4 : W.cell? ⟨w.heap.size, 4, none⟩ = some (.string ⟨#[]⟩) := by rw [hW]; exact ((Ext.alloc _ _).trans (Ext.alloc _ _)).cell (cell_new w _ _ 4)
    have e4 : W.frozen? ⟨w.heap.size, 4, none⟩ = false := by rw [hW]; exact ((Ext.alloc _ _).trans (Ext.alloc _ _)).frozenF (cell_new w _ _ 4) (fr_new w _ _ 4)
    have p4 : W.cell? ⟨w.heap.size + 1, 4, none⟩ = some (.string ⟨#[]⟩) := by rw [hW]; exact (Ext.alloc _ _).cell (cell_new2 w _ _ _ _ 4)
    have d0 : W.cell? ⟨w.heap.size + 1 + 1, 0, none⟩ = some (.int .i64 5) := by rw [hW]; exact cell_new3 w _ _ _ _ _ _ 0
    have d1 : W.cell? ⟨w.heap.size + 1 + 1, 1, none⟩ = some (.int .i64 0) := by rw [hW]; exact cell_new3 w _ _ _ _ _ _ 1
    have d2 : W.cell? ⟨w.heap.size + 1 + 1, 2, none⟩ = some (.int .i64 0) := by rw [hW]; exact cell_new3 w _ _ _ _ _ _ 2
    have d3 : W.cell? ⟨w.heap.size + 1 + 1, 3, none⟩ = some (.slice none 0 0) := by rw [hW]; exact cell_new3 w _ _ _ _ _ _ 3
    have d4 : W.cell? ⟨w.heap.size + 1 + 1, 4, none⟩ = some (.string ⟨bt.toArray⟩) := by rw [hW]; exact cell_new3 w _ _ _ _ _ _ 4
    clear hW
    -- the event has no bytes
    have hbyE : Byt U8 W (w.heap.size + 1) none 0 0 [] := Byt.nil _ _ _ _
    have hslE := hbyE.sl
    -- world W: the event's block at w.heap.size + 2; 5: k, o, m, its bytes A1 n1 c1 le, its text
    obtain ⟨r1, hr1⟩ : ∃ q, rightE 5 0 0 (([] : List UInt8)).length ⟨bt.toArray⟩ = q := ⟨_, rfl⟩
    obtain ⟨L2, hL2⟩ : ∃ q, (if r1 then putE 5 0 0 ([] : List UInt8) ⟨bt.toArray⟩ else []) = q := ⟨_, rfl⟩
    rw [hslE.len] at hr1
    have HR1 := Lib.hid hr1
    have HL2 := Lib.hid hL2
    clear hr1 hL2
    refine (ref_PutEvent 5 0 0 _ _ _ ([] : List UInt8) ⟨bt.toArray⟩ _ hslE hss HR1 HL2).mono ?_
    rintro e w3 ⟨A2, n2, c2, rfl, hb2, hx2⟩
    have hlt3 : w.heap.size + 1 + 1 < w3.heap.size := by have := hx2.size; omega
    have hx3 : Ext w w3 := hxW.trans hx2
    have hbE := hb.ext hx3
    replace d0 := hx2.cell d0
    replace e0 := hx2.frozenF g0 e0
    replace g0 := hx2.cell g0
    replace p0 := hx2.cell p0
    replace d1 := hx2.cell d1
    replace e1 := hx2.frozenF g1 e1
    replace g1 := hx2.cell g1
    replace p1 := hx2.cell p1
    replace d2 := hx2.cell d2
    replace e2 := hx2.frozenF g2 e2
    replace g2 := hx2.cell g2
    replace p2 := hx2.cell p2
    replace d3 := hx2.cell d3
    replace e3 := hx2.frozenF g3 e3
    replace g3 := hx2.cell g3
    replace p3 := hx2.cell p3
    replace d4 := hx2.cell d4
    replace e4 := hx2.frozenF g4 e4
    replace g4 := hx2.cell g4
    replace p4 := hx2.cell p4
    have HEV : Hid (r = (r1 && (L2 == b))) := by
      have h1 := HEV2.out
      rw [Bool.true_and, hslE.len, HR1.out] at h1
      have h2 := HL2.out
      unfold Hid
      rw [h1, ← h2]
      cases r1 <;> rfl
    have hbyW := hbyE.ext hx2
    clear hx2
    cases r1 with
    | false =>
      obtain rfl : r = false := by rw [HEV.out]; rfl
      obtain ⟨rfl, rfl, rfl, rfl, rfl⟩ := HGN.out rfl
      go_wp2_with fail
      refine bodyPost_ret (v := .tuple #[evV 0 0 0 none 0 0 ⟨#[]⟩, .int .i64 2]) (by simp [results, Try.results64, go_sem, g0, g1, g2, g3, g4]) rfl ⟨_, _, _, rfl, Byt.nil _ _ _ _, ?_⟩
      (repeat (first | (with_reducible exact Ext.refl _) | (with_reducible assumption) | (with_reducible refine Ext.draws ?_) | (with_reducible refine Ext.allocs ?_ _) | (with_reducible refine Ext.sets ?_ ?_ _) | (with_reducible exact Nat.le_refl _) | (exact (by simp)) | (exact (by simp; omega))))
    | true =>
      have t1 := run_text_u8 hb2.sl
      have t2 := run_text_u8 hbE
      by_cases hq : L2 = b
      · subst hq
        obtain rfl : r = true := by rw [HEV.out]; simp
        obtain ⟨jK, jO, jM, jL, jS⟩ := HGY.out rfl
        replace jK := jK.symm
        replace jO := jO.symm
        replace jM := jM.symm
        replace jL := jL.symm
        replace jS := jS.symm
        subst jK jO jM jL jS
        go_wp2_with fail
        refine bodyPost_ret (v := .tuple #[evV 5 0 0 none 0 0 ⟨bt.toArray⟩, .int .i64 0]) (by simp [results, Try.results64, go_sem, g0, g1, g2, g3, g4]) rfl ⟨_, _, _, rfl, ?hsl, ?hxx⟩
        case hsl =>
          have hne : ∀ g, rowOf none 0 = some g → g ≠ w.heap.size := by
            intro g hg
            have := (hbyW.own.row_ge g hg).1
            omega
          have h4 := (((((hbyW.far (p := ⟨w.heap.size, 0, none⟩) (fun g hg => (hne g hg)) (.int .i64 5)).far (p := ⟨w.heap.size, 1, none⟩) (fun g hg => (hne g hg)) (.int .i64 0)).far (p := ⟨w.heap.size, 2, none⟩) (fun g hg => (hne g hg)) (.int .i64 0)).far (p := ⟨w.heap.size, 3, none⟩) (fun g hg => (hne g hg)) (.slice none 0 0)).far (p := ⟨w.heap.size, 4, none⟩) (fun g hg => (hne g hg)) (.string ⟨bt.toArray⟩))
          exact h4.low (by omega)
        case hxx => (repeat (first | (with_reducible exact Ext.refl _) | (with_reducible assumption) | (with_reducible refine Ext.draws ?_) | (with_reducible refine Ext.allocs ?_ _) | (with_reducible refine Ext.sets ?_ ?_ _) | (with_reducible exact Nat.le_refl _) | (exact (by simp)) | (exact (by simp; omega))))
      · obtain rfl : r = false := by rw [HEV.out]; simpa using hq
        obtain ⟨rfl, rfl, rfl, rfl, rfl⟩ := HGN.out rfl
        have hq2 : (L2 == b) = false := by simpa using hq
        go_wp2_with fail
        refine bodyPost_ret (v := .tuple #[evV 0 0 0 none 0 0 ⟨#[]⟩, .int .i64 2]) (by simp [results, Try.results64, go_sem, g0, g1, g2, g3, g4]) rfl ⟨_, _, _, rfl, Byt.nil _ _ _ _, ?_⟩
        (repeat (first | (with_reducible exact Ext.refl _) | (with_reducible assumption) | (with_reducible refine Ext.draws ?_) | (with_reducible refine Ext.allocs ?_ _) | (with_reducible refine Ext.sets ?_ ?_ _) | (with_reducible exact Nat.le_refl _) | (exact (by simp)) | (exact (by simp; omega))))
  by_cases k6 : k = 6
  · subst k6
    obtain rfl : pr = true := by rw [← HR.out]; simp
    obtain rfl : oe = 0 := by rw [← HO.out]; simp
    obtain rfl : se = ⟨bt.toArray⟩ := by rw [← HS.out]; simp
    obtain rfl : me = 0 := by rw [← HM.out]; simp
    obtain rfl : le = [] := by rw [← HL.out]; simp
    clear HR HO HM HL HS
    obtain ⟨AA, cc, hcut, hs1⟩ := cut_from hb 1 (n - 1) 1 rfl (by omega)
    rw [HB.out] at hs1
    go_enter Try.func64, Try.ntmps64
    go_wp2_with fail
    rw [run_text_u8 (hs1.ext ?hx)]
    case hx => (repeat (first | (with_reducible exact Ext.refl _) | (with_reducible assumption) | (with_reducible refine Ext.draws ?_) | (with_reducible refine Ext.allocs ?_ _) | (with_reducible refine Ext.sets ?_ ?_ _) | (with_reducible exact Nat.le_refl _) | (exact (by simp)) | (exact (by simp; omega))))
    go_wp2_with fail
    -- the world under one name; #[.int .i64 6, .int .i64 0, .int .i64 0, .slice none 0 0, .string ⟨bt.toArray⟩]: the event's cells
    obtain ⟨W, hW⟩ : ∃ W, W = ((w.alloc (.cells #[.int .i64 0, .int .i64 0, .int .i64 0, .slice none 0 0, .string ⟨#[]⟩] 63)).alloc (.cells #[.int .i64 0, .int .i64 0, .int .i64 0, .slice none 0 0, .string ⟨#[]⟩] 63)).alloc (.cells #[.int .i64 6, .int .i64 0, .int .i64 0, .slice none 0 0, .string ⟨bt.toArray⟩] 63) := ⟨_, rfl⟩
    rw [← hW]
    have hWs : W.heap.size = w.heap.size + 3 := by rw [hW]; simp
    have hxW : Ext w W := by rw [hW]; (repeat (first | (with_reducible exact Ext.refl _) | (with_reducible assumption) | (with_reducible refine Ext.draws ?_) | (with_reducible refine Ext.allocs ?_ _) | (with_reducible refine Ext.sets ?_ ?_ _) | (with_reducible exact Nat.le_refl _) | (exact (by simp)) | (exact (by simp; omega))))
    have g0 : W.cell? ⟨w.heap.size, 0, none⟩ = some (.int .i64 0) := by rw [hW]; exact ((Ext.alloc _ _).trans (Ext.alloc _ _)).cell (cell_new w _ _ 0)
    have e0 : W.frozen? ⟨w.heap.size, 0, none⟩ = false := by rw [hW]; exact ((Ext.alloc _ _).trans (Ext.alloc _ _)).frozenF (cell_new w _ _ 0) (fr_new w _ _ 0)
    have p0 : W.cell? ⟨w.heap.size + 1, 0, none⟩ = some (.int .i64 0) := by rw [hW]; exact (Ext.alloc _ _).cell (cell_new2 w _ _ _ _ 0)
    have g1 : W.cell? ⟨w.heap.size, 1, none⟩ = some (.int .i64 0) := by rw [hW]; exact ((Ext.alloc _ _).trans (Ext.alloc _ _)).cell (cell_new w _ _ 1)
    have e1 : W.frozen? ⟨w.heap.size, 1, none⟩ = false := by rw [hW]; exact ((Ext.alloc _ _).trans (Ext.alloc _ _)).frozenF (cell_new w _ _ 1) (fr_new w _ _ 1)
    have p1 : W.cell? ⟨w.heap.size + 1, 1, none⟩ = some (.int .i64 0) := by rw [hW]; exact (Ext.alloc _ _).cell (cell_new2 w _ _ _ _ 1)
    have g2 : W.cell? ⟨w.heap.size, 2, none⟩ = some (.int .i64 0) := by rw [hW]; exact ((Ext.alloc _ _).trans (Ext.alloc _ _)).cell (cell_new w _ _ 2)
    have e2 : W.frozen? ⟨w.heap.size, 2, none⟩ = false := by rw [hW]; exact ((Ext.alloc _ _).trans (Ext.alloc _ _)).frozenF (cell_new w _ _ 2) (fr_new w _ _ 2)
    have p2 : W.cell? ⟨w.heap.size + 1, 2, none⟩ = some (.int .i64 0) := by rw [hW]; exact (Ext.alloc _ _).cell (cell_new2 w _ _ _ _ 2)
    have g3 : W.cell? ⟨w.heap.size, 3, none⟩ = some (.slice none 0 0) := by rw [hW]; exact ((Ext.alloc _ _).trans (Ext.alloc _ _)).cell (cell_new w _ _ 3)
    have e3 : W.frozen? ⟨w.heap.size, 3, none⟩ = false := by rw [hW]; exact ((Ext.alloc _ _).trans (Ext.alloc _ _)).frozenF (cell_new w _ _ 3) (fr_new w _ _ 3)
    have p3 : W.cell? ⟨w.heap.size + 1, 3, none⟩ = some (.slice none 0 0) := by rw [hW]; exact (Ext.alloc _ _).cell (cell_new2 w _ _ _ _ 3)
    have g4 : W.cell? ⟨w.heap.size, 4, none⟩ = some (.string ⟨#[]⟩) := by rw [hW]; exact ((Ext.alloc _ _).trans (Ext.alloc _ _)).cell (cell_new w _ _ 4)
    have e4 : W.frozen? ⟨w.heap.size, 4, none⟩ = false := by rw [hW]; exact ((Ext.alloc _ _).trans (Ext.alloc _ _)).frozenF (cell_new w _ _ 4) (fr_new w _ _ 4)
    have p4 : W.cell? ⟨w.heap.size + 1, 4, none⟩ = some (.string ⟨#[]⟩) := by rw [hW]; exact (Ext.alloc _ _).cell (cell_new2 w _ _ _ _ 4)
    have d0 : W.cell? ⟨w.heap.size + 1 + 1, 0, none⟩ = some (.int .i64 6) := by rw [hW]; exact cell_new3 w _ _ _ _ _ _ 0
    have d1 : W.cell? ⟨w.heap.size + 1 + 1, 1, none⟩ = some (.int .i64 0) := by rw [hW]; exact cell_new3 w _ _ _ _ _ _ 1
    have d2 : W.cell? ⟨w.heap.size + 1 + 1, 2, none⟩ = some (.int .i64 0) := by rw [hW]; exact cell_new3 w _ _ _ _ _ _ 2
    have d3 : W.cell? ⟨w.heap.size + 1 + 1, 3, none⟩ = some (.slice none 0 0) := by rw [hW]; exact cell_new3 w _ _ _ _ _ _ 3
    have d4 : W.cell? ⟨w.heap.size + 1 + 1, 4, none⟩ = some (.string ⟨bt.toArray⟩) := by rw [hW]; exact cell_new3 w _ _ _ _ _ _ 4
    clear hW
    -- the event has no bytes
    have hbyE : Byt U8 W (w.heap.size + 1) none 0 0 [] := Byt.nil _ _ _ _
    have hslE := hbyE.sl
    -- world W: the event's block at w.heap.size + 2; 6: k, o, m, its bytes A1 n1 c1 le, its text
    obtain ⟨r1, hr1⟩ : ∃ q, rightE 6 0 0 (([] : List UInt8)).length ⟨bt.toArray⟩ = q := ⟨_, rfl⟩
    obtain ⟨L2, hL2⟩ : ∃ q, (if r1 then putE 6 0 0 ([] : List UInt8) ⟨bt.toArray⟩ else []) = q := ⟨_, rfl⟩
    rw [hslE.len] at hr1
    have HR1 := Lib.hid hr1
    have HL2 := Lib.hid hL2
    clear hr1 hL2
    refine (ref_PutEvent 6 0 0 _ _ _ ([] : List UInt8) ⟨bt.toArray⟩ _ hslE hss HR1 HL2).mono ?_
    rintro e w3 ⟨A2, n2, c2, rfl, hb2, hx2⟩
    have hlt3 : w.heap.size + 1 + 1 < w3.heap.size := by have := hx2.size; omega
    have hx3 : Ext w w3 := hxW.trans hx2
    have hbE := hb.ext hx3
    replace d0 := hx2.cell d0
    replace e0 := hx2.frozenF g0 e0
    replace g0 := hx2.cell g0
    replace p0 := hx2.cell p0
    replace d1 := hx2.cell d1
    replace e1 := hx2.frozenF g1 e1
    replace g1 := hx2.cell g1
    replace p1 := hx2.cell p1
    replace d2 := hx2.cell d2
    replace e2 := hx2.frozenF g2 e2
    replace g2 := hx2.cell g2
    replace p2 := hx2.cell p2
    replace d3 := hx2.cell d3
    replace e3 := hx2.frozenF g3 e3
    replace g3 := hx2.cell g3
    replace p3 := hx2.cell p3
    replace d4 := hx2.cell d4
    replace e4 := hx2.frozenF g4 e4
    replace g4 := hx2.cell g4
    replace p4 := hx2.cell p4
    have HEV : Hid (r = (r1 && (L2 == b))) := by
      have h1 := HEV2.out
      rw [Bool.true_and, hslE.len, HR1.out] at h1
      have h2 := HL2.out
      unfold Hid
      rw [h1, ← h2]
      cases r1 <;> rfl
    have hbyW := hbyE.ext hx2
    clear hx2
    cases r1 with
    | false =>
      obtain rfl : r = false := by rw [HEV.out]; rfl
      obtain ⟨rfl, rfl, rfl, rfl, rfl⟩ := HGN.out rfl
      go_wp2_with fail
      refine bodyPost_ret (v := .tuple #[evV 0 0 0 none 0 0 ⟨#[]⟩, .int .i64 2]) (by simp [results, Try.results64, go_sem, g0, g1, g2, g3, g4]) rfl ⟨_, _, _, rfl, Byt.nil _ _ _ _, ?_⟩
      (repeat (first | (with_reducible exact Ext.refl _) | (with_reducible assumption) | (with_reducible refine Ext.draws ?_) | (with_reducible refine Ext.allocs ?_ _) | (with_reducible refine Ext.sets ?_ ?_ _) | (with_reducible exact Nat.le_refl _) | (exact (by simp)) | (exact (by simp; omega))))
    | true =>
      have t1 := run_text_u8 hb2.sl
      have t2 := run_text_u8 hbE
      by_cases hq : L2 = b
      · subst hq
        obtain rfl : r = true := by rw [HEV.out]; simp
        obtain ⟨jK, jO, jM, jL, jS⟩ := HGY.out rfl
        replace jK := jK.symm
        replace jO := jO.symm
        replace jM := jM.symm
        replace jL := jL.symm
        replace jS := jS.symm
        subst jK jO jM jL jS
        go_wp2_with fail
        refine bodyPost_ret (v := .tuple #[evV 6 0 0 none 0 0 ⟨bt.toArray⟩, .int .i64 0]) (by simp [results, Try.results64, go_sem, g0, g1, g2, g3, g4]) rfl ⟨_, _, _, rfl, ?hsl, ?hxx⟩
        case hsl =>
          have hne : ∀ g, rowOf none 0 = some g → g ≠ w.heap.size := by
            intro g hg
            have := (hbyW.own.row_ge g hg).1
            omega
          have h4 := (((((hbyW.far (p := ⟨w.heap.size, 0, none⟩) (fun g hg => (hne g hg)) (.int .i64 6)).far (p := ⟨w.heap.size, 1, none⟩) (fun g hg => (hne g hg)) (.int .i64 0)).far (p := ⟨w.heap.size, 2, none⟩) (fun g hg => (hne g hg)) (.int .i64 0)).far (p := ⟨w.heap.size, 3, none⟩) (fun g hg => (hne g hg)) (.slice none 0 0)).far (p := ⟨w.heap.size, 4, none⟩) (fun g hg => (hne g hg)) (.string ⟨bt.toArray⟩))
          exact h4.low (by omega)
        case hxx => (repeat (first | (with_reducible exact Ext.refl _) | (with_reducible assumption) | (with_reducible refine Ext.draws ?_) | (with_reducible refine Ext.allocs ?_ _) | (with_reducible refine Ext.sets ?_ ?_ _) | (with_reducible exact Nat.le_refl _) | (exact (by simp)) | (exact (by simp; omega))))
      · obtain rfl : r = false := by rw [HEV.out]; simpa using hq
        obtain ⟨rfl, rfl, rfl, rfl, rfl⟩ := HGN.out rfl
        have hq2 : (L2 == b) = false := by simpa using hq
        go_wp2_with fail
        refine bodyPost_ret (v := .tuple #[evV 0 0 0 none 0 0 ⟨#[]⟩, .int .i64 2]) (by simp [results, Try.results64, go_sem, g0, g1, g2, g3, g4]) rfl ⟨_, _, _, rfl, Byt.nil _ _ _ _, ?_⟩
        (repeat (first | (with_reducible exact Ext.refl _) | (with_reducible assumption) | (with_reducible refine Ext.draws ?_) | (with_reducible refine Ext.allocs ?_ _) | (with_reducible refine Ext.sets ?_ ?_ _) | (with_reducible exact Nat.le_refl _) | (exact (by simp)) | (exact (by simp; omega))))
  by_cases k7 : k = 7
  · subst k7
    obtain rfl : pr = true := by rw [← HR.out]; simp
    obtain rfl : oe = 0 := by rw [← HO.out]; simp
    obtain rfl : se = ⟨bt.toArray⟩ := by rw [← HS.out]; simp
    obtain rfl : me = 0 := by rw [← HM.out]; simp
    obtain rfl : le = [] := by rw [← HL.out]; simp
    clear HR HO HM HL HS
    obtain ⟨AA, cc, hcut, hs1⟩ := cut_from hb 1 (n - 1) 1 rfl (by omega)
    rw [HB.out] at hs1
    go_enter Try.func64, Try.ntmps64
    go_wp2_with fail
    rw [run_text_u8 (hs1.ext ?hx)]
    case hx => (repeat (first | (with_reducible exact Ext.refl _) | (with_reducible assumption) | (with_reducible refine Ext.draws ?_) | (with_reducible refine Ext.allocs ?_ _) | (with_reducible refine Ext.sets ?_ ?_ _) | (with_reducible exact Nat.le_refl _) | (exact (by simp)) | (exact (by simp; omega))))
    go_wp2_with fail
    -- the world under one name; #[.int .i64 7, .int .i64 0, .int .i64 0, .slice none 0 0, .string ⟨bt.toArray⟩]: the event's cells
    obtain ⟨W, hW⟩ : ∃ W, W = ((w.alloc (.cells #[.int .i64 0, .int .i64 0, .int .i64 0, .slice none 0 0, .string ⟨#[]⟩] 63)).alloc (.cells #[.int .i64 0, .int .i64 0, .int .i64 0, .slice none 0 0, .string ⟨#[]⟩] 63)).alloc (.cells #[.int .i64 7, .int .i64 0, .int .i64 0, .slice none 0 0, .string ⟨bt.toArray⟩] 63) := ⟨_, rfl⟩
    rw [← hW]
    have hWs : W.heap.size = w.heap.size + 3 := by rw [hW]; simp
    have hxW : Ext w W := by rw [hW]; (repeat (first | (with_reducible exact Ext.refl _) | (with_reducible assumption) | (with_reducible refine Ext.draws ?_) | (with_reducible refine Ext.allocs ?_ _) | (with_reducible refine Ext.sets ?_ ?_ _) | (with_reducible exact Nat.le_refl _) | (exact (by simp)) | (exact (by simp; omega))))
    have g0 : W.cell? ⟨w.heap.size, 0, none⟩ = some (.int .i64 0) := by rw [hW]; exact ((Ext.alloc _ _).trans (Ext.alloc _ _)).cell (cell_new w _ _ 0)
    have e0 : W.frozen? ⟨w.heap.size, 0, none⟩ = false := by rw [hW]; exact ((Ext.alloc _ _).trans (Ext.alloc _ _)).frozenF (cell_new w _ _ 0) (fr_new w _ _ 0)
    have p0 : W.cell? ⟨w.heap.size + 1, 0, none⟩ = some (.int .i64 0) := by rw [hW]; exact (Ext.alloc _ _).cell (cell_new2 w _ _ _ _ 0)
    have g1 : W.cell? ⟨w.heap.size, 1, none⟩ = some (.int .i64 0) := by rw [hW]; exact ((Ext.alloc _ _).trans (Ext.alloc _ _)).cell (cell_new w _ _ 1)
    have e1 : W.frozen? ⟨w.heap.size, 1, none⟩ = false := by rw [hW]; exact ((Ext.alloc _ _).trans (Ext.alloc _ _)).frozenF (cell_new w _ _ 1) (fr_new w _ _ 1)
    have p1 : W.cell? ⟨w.heap.size + 1, 1, none⟩ = some (.int .i64 0) := by rw [hW]; exact (Ext.alloc _ _).cell (cell_new2 w _ _ _ _ 1)
    have g2 : W.cell? ⟨w.heap.size, 2, none⟩ = some (.int .i64 0) := by rw [hW]; exact ((Ext.alloc _ _).trans (Ext.alloc _ _)).cell (cell_new w _ _ 2)
    have e2 : W.frozen? ⟨w.heap.size, 2, none⟩ = false := by rw [hW]; exact ((Ext.alloc _ _).trans (Ext.alloc _ _)).frozenF (cell_new w _ _ 2) (fr_new w _ _ 2)
    have p2 : W.cell? ⟨w.heap.size + 1, 2, none⟩ = some (.int .i64 0) := by rw [hW]; exact (Ext.alloc _ _).cell (cell_new2 w _ _ _ _ 2)
    have g3 : W.cell? ⟨w.heap.size, 3, none⟩ = some (.slice none 0 0) := by rw [hW]; exact ((Ext.alloc _ _).trans (Ext.alloc _ _)).cell (cell_new w _ _ 3)
    have e3 : W.frozen? ⟨w.heap.size, 3, none⟩ = false := by rw [hW]; exact ((Ext.alloc _ _).trans (Ext.alloc _ _)).frozenF (cell_new w _ _ 3) (fr_new w _ _ 3)
    have p3 : W.cell? ⟨w.heap.size + 1, 3, none⟩ = some (.slice none 0 0) := by rw [hW]; exact (Ext.alloc _ _).cell (cell_new2 w _ _ _ _ 3)
    have g4 : W.cell? ⟨w.heap.size, 4, none⟩ = some (.string ⟨#[]⟩) := by rw [hW]; exact ((Ext.alloc _ _).trans (Ext.alloc _ _)).cell (cell_new w _ _ 4)
    have e4 : W.frozen? ⟨w.heap.size, 4, none⟩ = false := by rw [hW]; exact ((Ext.alloc _ _).trans (Ext.alloc _ _)).frozenF (cell_new w _ _ 4) (fr_new w _ _ 4)
    have p4 : W.cell? ⟨w.heap.size + 1, 4, none⟩ = some (.string ⟨#[]⟩) := by rw [hW]; exact (Ext.alloc _ _).cell (cell_new2 w _ _ _ _ 4)
    have d0 : W.cell? ⟨w.heap.size + 1 + 1, 0, none⟩ = some (.int .i64 7) := by rw [hW]; exact cell_new3 w _ _ _ _ _ _ 0
    have d1 : W.cell? ⟨w.heap.size + 1 + 1, 1, none⟩ = some (.int .i64 0) := by rw [hW]; exact cell_new3 w _ _ _ _ _ _ 1
    have d2 : W.cell? ⟨w.heap.size + 1 + 1, 2, none⟩ = some (.int .i64 0) := by rw [hW]; exact cell_new3 w _ _ _ _ _ _ 2
    have d3 : W.cell? ⟨w.heap.size + 1 + 1, 3, none⟩ = some (.slice none 0 0) := by rw [hW]; exact cell_new3 w _ _ _ _ _ _ 3
    have d4 : W.cell? ⟨w.heap.size + 1 + 1, 4, none⟩ = some (.string ⟨bt.toArray⟩) := by rw [hW]; exact cell_new3 w _ _ _ _ _ _ 4
    clear hW
    -- the event has no bytes
    have hbyE : Byt U8 W (w.heap.size + 1) none 0 0 [] := Byt.nil _ _ _ _
    have hslE := hbyE.sl
    -- world W: the event's block at w.heap.size + 2; 7: k, o, m, its bytes A1 n1 c1 le, its text
    obtain ⟨r1, hr1⟩ : ∃ q, rightE 7 0 0 (([] : List UInt8)).length ⟨bt.toArray⟩ = q := ⟨_, rfl⟩
    obtain ⟨L2, hL2⟩ : ∃ q, (if r1 then putE 7 0 0 ([] : List UInt8) ⟨bt.toArray⟩ else []) = q := ⟨_, rfl⟩
    rw [hslE.len] at hr1
    have HR1 := Lib.hid hr1
    have HL2 := Lib.hid hL2
    clear hr1 hL2
    refine (ref_PutEvent 7 0 0 _ _ _ ([] : List UInt8) ⟨bt.toArray⟩ _ hslE hss HR1 HL2).mono ?_
    rintro e w3 ⟨A2, n2, c2, rfl, hb2, hx2⟩
    have hlt3 : w.heap.size + 1 + 1 < w3.heap.size := by have := hx2.size; omega
    have hx3 : Ext w w3 := hxW.trans hx2
    have hbE := hb.ext hx3
    replace d0 := hx2.cell d0
    replace e0 := hx2.frozenF g0 e0
    replace g0 := hx2.cell g0
    replace p0 := hx2.cell p0
    replace d1 := hx2.cell d1
    replace e1 := hx2.frozenF g1 e1
    replace g1 := hx2.cell g1
    replace p1 := hx2.cell p1
    replace d2 := hx2.cell d2
    replace e2 := hx2.frozenF g2 e2
    replace g2 := hx2.cell g2
    replace p2 := hx2.cell p2
    replace d3 := hx2.cell d3
    replace e3 := hx2.frozenF g3 e3
    replace g3 := hx2.cell g3
    replace p3 := hx2.cell p3
    replace d4 := hx2.cell d4
    replace e4 := hx2.frozenF g4 e4
    replace g4 := hx2.cell g4
    replace p4 := hx2.cell p4
    have HEV : Hid (r = (r1 && (L2 == b))) := by
      have h1 := HEV2.out
      rw [Bool.true_and, hslE.len, HR1.out] at h1
      have h2 := HL2.out
      unfold Hid
      rw [h1, ← h2]
      cases r1 <;> rfl
    have hbyW := hbyE.ext hx2
    clear hx2
    cases r1 with
    | false =>
      obtain rfl : r = false := by rw [HEV.out]; rfl
      obtain ⟨rfl, rfl, rfl, rfl, rfl⟩ := HGN.out rfl
      go_wp2_with fail
      refine bodyPost_ret (v := .tuple #[evV 0 0 0 none 0 0 ⟨#[]⟩, .int .i64 2]) (by simp [results, Try.results64, go_sem, g0, g1, g2, g3, g4]) rfl ⟨_, _, _, rfl, Byt.nil _ _ _ _, ?_⟩
      (repeat (first | (with_reducible exact Ext.refl _) | (with_reducible assumption) | (with_reducible refine Ext.draws ?_) | (with_reducible refine Ext.allocs ?_ _) | (with_reducible refine Ext.sets ?_ ?_ _) | (with_reducible exact Nat.le_refl _) | (exact (by simp)) | (exact (by simp; omega))))
    | true =>
      have t1 := run_text_u8 hb2.sl
      have t2 := run_text_u8 hbE
      by_cases hq : L2 = b
      · subst hq
        obtain rfl : r = true := by rw [HEV.out]; simp
        obtain ⟨jK, jO, jM, jL, jS⟩ := HGY.out rfl
        replace jK := jK.symm
        replace jO := jO.symm
        replace jM := jM.symm
        replace jL := jL.symm
        replace jS := jS.symm
        subst jK jO jM jL jS
        go_wp2_with fail
        refine bodyPost_ret (v := .tuple #[evV 7 0 0 none 0 0 ⟨bt.toArray⟩, .int .i64 0]) (by simp [results, Try.results64, go_sem, g0, g1, g2, g3, g4]) rfl ⟨_, _, _, rfl, ?hsl, ?hxx⟩
        case hsl =>
          have hne : ∀ g, rowOf none 0 = some g → g ≠ w.heap.size := by
            intro g hg
            have := (hbyW.own.row_ge g hg).1
            omega
          have h4 := (((((hbyW.far (p := ⟨w.heap.size, 0, none⟩) (fun g hg => (hne g hg)) (.int .i64 7)).far (p := ⟨w.heap.size, 1, none⟩) (fun g hg => (hne g hg)) (.int .i64 0)).far (p := ⟨w.heap.size, 2, none⟩) (fun g hg => (hne g hg)) (.int .i64 0)).far (p := ⟨w.heap.size, 3, none⟩) (fun g hg => (hne g hg)) (.slice none 0 0)).far (p := ⟨w.heap.size, 4, none⟩) (fun g hg => (hne g hg)) (.string ⟨bt.toArray⟩))
          exact h4.low (by omega)
        case hxx => (repeat (first | (with_reducible exact Ext.refl _) | (with_reducible assumption) | (with_reducible refine Ext.draws ?_) | (with_reducible refine Ext.allocs ?_ _) | (with_reducible refine Ext.sets ?_ ?_ _) | (with_reducible exact Nat.le_refl _) | (exact (by simp)) | (exact (by simp; omega))))
      · obtain rfl : r = false := by rw [HEV.out]; simpa using hq
        obtain ⟨rfl, rfl, rfl, rfl, rfl⟩ := HGN.out rfl
        have hq2 : (L2 == b) = false := by simpa using hq
        go_wp2_with fail
        refine bodyPost_ret (v := .tuple #[evV 0 0 0 none 0 0 ⟨#[]⟩, .int .i64 2]) (by simp [results, Try.results64, go_sem, g0, g1, g2, g3, g4]) rfl ⟨_, _, _, rfl, Byt.nil _ _ _ _, ?_⟩
        (repeat (first | (with_reducible exact Ext.refl _) | (with_reducible assumption) | (with_reducible refine Ext.draws ?_) | (with_reducible refine Ext.allocs ?_ _) | (with_reducible refine Ext.sets ?_ ?_ _) | (with_reducible exact Nat.le_refl _) | (exact (by simp)) | (exact (by simp; omega))))
  by_cases k4 : k = 4
  · subst k4
    obtain rfl : pr = gc := by rw [← HR.out]; simp
    obtain rfl : oe = 0 := by rw [← HO.out]; simp
    obtain rfl : se = ⟨#[]⟩ := by rw [← HS.out]; simp
    obtain rfl : me = ga := by rw [← HM.out]; simp
    obtain rfl : le = [] := by rw [← HL.out]; simp
    clear HR HO HM HL HS
    go_enter Try.func64, Try.ntmps64
    go_wp2_with fail
    refine (ref_GetVar_h (hb.ext ?hx) hn6 HV).mono ?_
    case hx => (repeat (first | (with_reducible exact Ext.refl _) | (with_reducible assumption) | (with_reducible refine Ext.draws ?_) | (with_reducible refine Ext.allocs ?_ _) | (with_reducible refine Ext.sets ?_ ?_ _) | (with_reducible exact Nat.le_refl _) | (exact (by simp)) | (exact (by simp; omega))))
    rintro e w1 ⟨rfl, rfl⟩
    go_wp2_with fail
    -- the world under one name; #[.int .i64 4, .int .i64 0, .int .i64 me, .slice none 0 0, .string ⟨#[]⟩]: the event's cells
    obtain ⟨W, hW⟩ : ∃ W, W = ((w.alloc (.cells #[.int .i64 0, .int .i64 0, .int .i64 0, .slice none 0 0, .string ⟨#[]⟩] 63)).alloc (.cells #[.int .i64 0, .int .i64 0, .int .i64 0, .slice none 0 0, .string ⟨#[]⟩] 63)).alloc (.cells #[.int .i64 4, .int .i64 0, .int .i64 me, .slice none 0 0, .string ⟨#[]⟩] 63) := ⟨_, rfl⟩
    rw [← hW]
    have hWs : W.heap.size = w.heap.size + 3 := by rw [hW]; simp
    have hxW : Ext w W := by rw [hW]; (repeat (first | (with_reducible exact Ext.refl _) | (with_reducible assumption) | (with_reducible refine Ext.draws ?_) | (with_reducible refine Ext.allocs ?_ _) | (with_reducible refine Ext.sets ?_ ?_ _) | (with_reducible exact Nat.le_refl _) | (exact (by simp)) | (exact (by simp; omega))))
    have g0 : W.cell? ⟨w.heap.size, 0, none⟩ = some (.int .i64 0) := by rw [hW]; exact ((Ext.alloc _ _).trans (Ext.alloc _ _)).cell (cell_new w _ _ 0)
    have e0 : W.frozen? ⟨w.heap.size, 0, none⟩ = false := by rw [hW]; exact ((Ext.alloc _ _).trans (Ext.alloc _ _)).frozenF (cell_new w _ _ 0) (fr_new w _ _ 0)
    have p0 : W.cell? ⟨w.heap.size + 1, 0, none⟩ = some (.int .i64 0) := by rw [hW]; exact (Ext.alloc _ _).cell (cell_new2 w _ _ _ _ 0)
    have g1 : W.cell? ⟨w.heap.size, 1, none⟩ = some (.int .i64 0) := by rw [hW]; exact ((Ext.alloc _ _).trans (Ext.alloc _ _)).cell (cell_new w _ _ 1)
    have e1 : W.frozen? ⟨w.heap.size, 1, none⟩ = false := by rw [hW]; exact ((Ext.alloc _ _).trans (Ext.alloc _ _)).frozenF (cell_new w _ _ 1) (fr_new w _ _ 1)
    have p1 : W.cell? ⟨w.heap.size + 1, 1, none⟩ = some (.int .i64 0) := by rw [hW]; exact (Ext.alloc _ _).cell (cell_new2 w _ _ _ _ 1)
    have g2 : W.cell? ⟨w.heap.size, 2, none⟩ = some (.int .i64 0) := by rw [hW]; exact ((Ext.alloc _ _).trans (Ext.alloc _ _)).cell (cell_new w _ _ 2)
    have e2 : W.frozen? ⟨w.heap.size, 2, none⟩ = false := by rw [hW]; exact ((Ext.alloc _ _).trans (Ext.alloc _ _)).frozenF (cell_new w _ _ 2) (fr_new w _ _ 2)
    have p2 : W.cell? ⟨w.heap.size + 1, 2, none⟩ = some (.int .i64 0) := by rw [hW]; exact (Ext.alloc _ _).cell (cell_new2 w _ _ _ _ 2)
    have g3 : W.cell? ⟨w.heap.size, 3, none⟩ = some (.slice none 0 0) := by rw [hW]; exact ((Ext.alloc _ _).trans (Ext.alloc _ _)).cell (cell_new w _ _ 3)
    have e3 : W.frozen? ⟨w.heap.size, 3, none⟩ = false := by rw [hW]; exact ((Ext.alloc _ _).trans (Ext.alloc _ _)).frozenF (cell_new w _ _ 3) (fr_new w _ _ 3)
    have p3 : W.cell? ⟨w.heap.size + 1, 3, none⟩ = some (.slice none 0 0) := by rw [hW]; exact (Ext.alloc _ _).cell (cell_new2 w _ _ _ _ 3)
    have g4 : W.cell? ⟨w.heap.size, 4, none⟩ = some (.string ⟨#[]⟩) := by rw [hW]; exact ((Ext.alloc _ _).trans (Ext.alloc _ _)).cell (cell_new w _ _ 4)
    have e4 : W.frozen? ⟨w.heap.size, 4, none⟩ = false := by rw [hW]; exact ((Ext.alloc _ _).trans (Ext.alloc _ _)).frozenF (cell_new w _ _ 4) (fr_new w _ _ 4)
    have p4 : W.cell? ⟨w.heap.size + 1, 4, none⟩ = some (.string ⟨#[]⟩) := by rw [hW]; exact (Ext.alloc _ _).cell (cell_new2 w _ _ _ _ 4)
    have d0 : W.cell? ⟨w.heap.size + 1 + 1, 0, none⟩ = some (.int .i64 4) := by rw [hW]; exact cell_new3 w _ _ _ _ _ _ 0
    have d1 : W.cell? ⟨w.heap.size + 1 + 1, 1, none⟩ = some (.int .i64 0) := by rw [hW]; exact cell_new3 w _ _ _ _ _ _ 1
    have d2 : W.cell? ⟨w.heap.size + 1 + 1, 2, none⟩ = some (.int .i64 me) := by rw [hW]; exact cell_new3 w _ _ _ _ _ _ 2
    have d3 : W.cell? ⟨w.heap.size + 1 + 1, 3, none⟩ = some (.slice none 0 0) := by rw [hW]; exact cell_new3 w _ _ _ _ _ _ 3
    have d4 : W.cell? ⟨w.heap.size + 1 + 1, 4, none⟩ = some (.string ⟨#[]⟩) := by rw [hW]; exact cell_new3 w _ _ _ _ _ _ 4
    clear hW
    -- the event has no bytes
    have hbyE : Byt U8 W (w.heap.size + 1) none 0 0 [] := Byt.nil _ _ _ _
    have hslE := hbyE.sl
    cases pr with
    | false =>
      -- world W: the event's block at w.heap.size + 2; 4: k, o, m, its bytes A1 n1 c1 le, its text
      obtain ⟨r1, hr1⟩ : ∃ q, rightE 4 0 me (([] : List UInt8)).length ⟨#[]⟩ = q := ⟨_, rfl⟩
      obtain ⟨L2, hL2⟩ : ∃ q, (if r1 then putE 4 0 me ([] : List UInt8) ⟨#[]⟩ else []) = q := ⟨_, rfl⟩
      rw [hslE.len] at hr1
      have HR1 := Lib.hid hr1
      have HL2 := Lib.hid hL2
      clear hr1 hL2
      refine (ref_PutEvent 4 0 me _ _ _ ([] : List UInt8) ⟨#[]⟩ _ hslE hss HR1 HL2).mono ?_
      rintro e w3 ⟨A2, n2, c2, rfl, hb2, hx2⟩
      have hlt3 : w.heap.size + 1 + 1 < w3.heap.size := by have := hx2.size; omega
      have hx3 : Ext w w3 := hxW.trans hx2
      have hbE := hb.ext hx3
      replace d0 := hx2.cell d0
      replace e0 := hx2.frozenF g0 e0
      replace g0 := hx2.cell g0
      replace p0 := hx2.cell p0
      replace d1 := hx2.cell d1
      replace e1 := hx2.frozenF g1 e1
      replace g1 := hx2.cell g1
      replace p1 := hx2.cell p1
      replace d2 := hx2.cell d2
      replace e2 := hx2.frozenF g2 e2
      replace g2 := hx2.cell g2
      replace p2 := hx2.cell p2
      replace d3 := hx2.cell d3
      replace e3 := hx2.frozenF g3 e3
      replace g3 := hx2.cell g3
      replace p3 := hx2.cell p3
      replace d4 := hx2.cell d4
      replace e4 := hx2.frozenF g4 e4
      replace g4 := hx2.cell g4
      replace p4 := hx2.cell p4
      obtain rfl : r = false := by rw [HEV2.out]; rfl
      obtain ⟨rfl, rfl, rfl, rfl, rfl⟩ := HGN.out rfl
      clear hx2
      cases r1
      all_goals
        go_wp2_with fail
        refine bodyPost_ret (v := .tuple #[evV 0 0 0 none 0 0 ⟨#[]⟩, .int .i64 2]) (by simp [results, Try.results64, go_sem, g0, g1, g2, g3, g4]) rfl ⟨_, _, _, rfl, Byt.nil _ _ _ _, ?_⟩
        (repeat (first | (with_reducible exact Ext.refl _) | (with_reducible assumption) | (with_reducible refine Ext.draws ?_) | (with_reducible refine Ext.allocs ?_ _) | (with_reducible refine Ext.sets ?_ ?_ _) | (with_reducible exact Nat.le_refl _) | (exact (by simp)) | (exact (by simp; omega))))
    | true =>
      -- world W: the event's block at w.heap.size + 2; 4: k, o, m, its bytes A1 n1 c1 le, its text
      obtain ⟨r1, hr1⟩ : ∃ q, rightE 4 0 me (([] : List UInt8)).length ⟨#[]⟩ = q := ⟨_, rfl⟩
      obtain ⟨L2, hL2⟩ : ∃ q, (if r1 then putE 4 0 me ([] : List UInt8) ⟨#[]⟩ else []) = q := ⟨_, rfl⟩
      rw [hslE.len] at hr1
      have HR1 := Lib.hid hr1
      have HL2 := Lib.hid hL2
      clear hr1 hL2
      refine (ref_PutEvent 4 0 me _ _ _ ([] : List UInt8) ⟨#[]⟩ _ hslE hss HR1 HL2).mono ?_
      rintro e w3 ⟨A2, n2, c2, rfl, hb2, hx2⟩
      have hlt3 : w.heap.size + 1 + 1 < w3.heap.size := by have := hx2.size; omega
      have hx3 : Ext w w3 := hxW.trans hx2
      have hbE := hb.ext hx3
      replace d0 := hx2.cell d0
      replace e0 := hx2.frozenF g0 e0
      replace g0 := hx2.cell g0
      replace p0 := hx2.cell p0
      replace d1 := hx2.cell d1
      replace e1 := hx2.frozenF g1 e1
      replace g1 := hx2.cell g1
      replace p1 := hx2.cell p1
      replace d2 := hx2.cell d2
      replace e2 := hx2.frozenF g2 e2
      replace g2 := hx2.cell g2
      replace p2 := hx2.cell p2
      replace d3 := hx2.cell d3
      replace e3 := hx2.frozenF g3 e3
      replace g3 := hx2.cell g3
      replace p3 := hx2.cell p3
      replace d4 := hx2.cell d4
      replace e4 := hx2.frozenF g4 e4
      replace g4 := hx2.cell g4
      replace p4 := hx2.cell p4
      have HEV : Hid (r = (r1 && (L2 == b))) := by
        have h1 := HEV2.out
        rw [Bool.true_and, hslE.len, HR1.out] at h1
        have h2 := HL2.out
        unfold Hid
        rw [h1, ← h2]
        cases r1 <;> rfl
      have hbyW := hbyE.ext hx2
      clear hx2
      cases r1 with
      | false =>
        obtain rfl : r = false := by rw [HEV.out]; rfl
        obtain ⟨rfl, rfl, rfl, rfl, rfl⟩ := HGN.out rfl
        go_wp2_with fail
        refine bodyPost_ret (v := .tuple #[evV 0 0 0 none 0 0 ⟨#[]⟩, .int .i64 2]) (by simp [results, Try.results64, go_sem, g0, g1, g2, g3, g4]) rfl ⟨_, _, _, rfl, Byt.nil _ _ _ _, ?_⟩
        (repeat (first | (with_reducible exact Ext.refl _) | (with_reducible assumption) | (with_reducible refine Ext.draws ?_) | (with_reducible refine Ext.allocs ?_ _) | (with_reducible refine Ext.sets ?_ ?_ _) | (with_reducible exact Nat.le_refl _) | (exact (by simp)) | (exact (by simp; omega))))
      | true =>
        have t1 := run_text_u8 hb2.sl
        have t2 := run_text_u8 hbE
        by_cases hq : L2 = b
        · subst hq
          obtain rfl : r = true := by rw [HEV.out]; simp
          obtain ⟨jK, jO, jM, jL, jS⟩ := HGY.out rfl
          replace jK := jK.symm
          replace jO := jO.symm
          replace jM := jM.symm
          replace jL := jL.symm
          replace jS := jS.symm
          subst jK jO jM jL jS
          go_wp2_with fail
          refine bodyPost_ret (v := .tuple #[evV 4 0 me none 0 0 ⟨#[]⟩, .int .i64 0]) (by simp [results, Try.results64, go_sem, g0, g1, g2, g3, g4]) rfl ⟨_, _, _, rfl, ?hsl, ?hxx⟩
          case hsl =>
            have hne : ∀ g, rowOf none 0 = some g → g ≠ w.heap.size := by
              intro g hg
              have := (hbyW.own.row_ge g hg).1
              omega
            have h4 := (((((hbyW.far (p := ⟨w.heap.size, 0, none⟩) (fun g hg => (hne g hg)) (.int .i64 4)).far (p := ⟨w.heap.size, 1, none⟩) (fun g hg => (hne g hg)) (.int .i64 0)).far (p := ⟨w.heap.size, 2, none⟩) (fun g hg => (hne g hg)) (.int .i64 me)).far (p := ⟨w.heap.size, 3, none⟩) (fun g hg => (hne g hg)) (.slice none 0 0)).far (p := ⟨w.heap.size, 4, none⟩) (fun g hg => (hne g hg)) (.string ⟨#[]⟩))
            exact h4.low (by omega)
          case hxx => (repeat (first | (with_reducible exact Ext.refl _) | (with_reducible assumption) | (with_reducible refine Ext.draws ?_) | (with_reducible refine Ext.allocs ?_ _) | (with_reducible refine Ext.sets ?_ ?_ _) | (with_reducible exact Nat.le_refl _) | (exact (by simp)) | (exact (by simp; omega))))
        · obtain rfl : r = false := by rw [HEV.out]; simpa using hq
          obtain ⟨rfl, rfl, rfl, rfl, rfl⟩ := HGN.out rfl
          have hq2 : (L2 == b) = false := by simpa using hq
          go_wp2_with fail
          refine bodyPost_ret (v := .tuple #[evV 0 0 0 none 0 0 ⟨#[]⟩, .int .i64 2]) (by simp [results, Try.results64, go_sem, g0, g1, g2, g3, g4]) rfl ⟨_, _, _, rfl, Byt.nil _ _ _ _, ?_⟩
          (repeat (first | (with_reducible exact Ext.refl _) | (with_reducible assumption) | (with_reducible refine Ext.draws ?_) | (with_reducible refine Ext.allocs ?_ _) | (with_reducible refine Ext.sets ?_ ?_ _) | (with_reducible exact Nat.le_refl _) | (exact (by simp)) | (exact (by simp; omega))))
  by_cases k2 : k = 2
  · subst k2
    obtain rfl : pr = (gc && g2c) := by rw [← HR.out]; simp
    obtain rfl : oe = ga := by rw [← HO.out]; simp
    obtain rfl : se = ⟨#[]⟩ := by rw [← HS.out]; simp
    obtain rfl : le = [] := by rw [← HL.out]; simp
    cases gc with
    | false =>
      obtain rfl : me = 0 := by rw [← HM.out]; simp
      clear HR HO HM HL HS
      go_enter Try.func64, Try.ntmps64
      go_wp2_with fail
      refine (ref_GetVar_h (hb.ext ?hx) hn6 HV).mono ?_
      case hx => (repeat (first | (with_reducible exact Ext.refl _) | (with_reducible assumption) | (with_reducible refine Ext.draws ?_) | (with_reducible refine Ext.allocs ?_ _) | (with_reducible refine Ext.sets ?_ ?_ _) | (with_reducible exact Nat.le_refl _) | (exact (by simp)) | (exact (by simp; omega))))
      rintro e w1 ⟨rfl, rfl⟩
      go_wp2_with fail
      -- the world under one name; #[.int .i64 2, .int .i64 oe, .int .i64 0, .slice none 0 0, .string ⟨#[]⟩]: the event's cells
      obtain ⟨W, hW⟩ : ∃ W, W = ((w.alloc (.cells #[.int .i64 0, .int .i64 0, .int .i64 0, .slice none 0 0, .string ⟨#[]⟩] 63)).alloc (.cells #[.int .i64 0, .int .i64 0, .int .i64 0, .slice none 0 0, .string ⟨#[]⟩] 63)).alloc (.cells #[.int .i64 2, .int .i64 oe, .int .i64 0, .slice none 0 0, .string ⟨#[]⟩] 63) := ⟨_, rfl⟩
      rw [← hW]
      have hWs : W.heap.size = w.heap.size + 3 := by rw [hW]; simp
      have hxW : Ext w W := by rw [hW]; (repeat (first | (with_reducible exact Ext.refl _) | (with_reducible assumption) | (with_reducible refine Ext.draws ?_) | (with_reducible refine Ext.allocs ?_ _) | (with_reducible refine Ext.sets ?_ ?_ _) | (with_reducible exact Nat.le_refl _) | (exact (by simp)) | (exact (by simp; omega))))
      have g0 : W.cell? ⟨w.heap.size, 0, none⟩ = some (.int .i64 0) := by rw [hW]; exact ((Ext.alloc _ _).trans (Ext.alloc _ _)).cell (cell_new w _ _ 0)
      have e0 : W.frozen? ⟨w.heap.size, 0, none⟩ = false := by rw [hW]; exact ((Ext.alloc _ _).trans (Ext.alloc _ _)).frozenF (cell_new w _ _ 0) (fr_new w _ _ 0)
      have p0 : W.cell? ⟨w.heap.size + 1, 0, none⟩ = some (.int .i64 0) := by rw [hW]; exact (Ext.alloc _ _).cell (cell_new2 w _ _ _ _ 0)
      have g1 : W.cell? ⟨w.heap.size, 1, none⟩ = some (.int .i64 0) := by rw [hW]; exact ((Ext.alloc _ _).trans (Ext.alloc _ _)).cell (cell_new w _ _ 1)
      have e1 : W.frozen? ⟨w.heap.size, 1, none⟩ = false := by rw [hW]; exact ((Ext.alloc _ _).trans (Ext.alloc _ _)).frozenF (cell_new w _ _ 1) (fr_new w _ _ 1)
      have p1 : W.cell? ⟨w.heap.size + 1, 1, none⟩ = some (.int .i64 0) := by rw [hW]; exact (Ext.alloc _ _).cell (cell_new2 w _ _ _ _ 1)
      have g2 : W.cell? ⟨w.heap.size, 2, none⟩ = some (.int .i64 0) := by rw [hW]; exact ((Ext.alloc _ _).trans (Ext.alloc _ _)).cell (cell_new w _ _ 2)
      have e2 : W.frozen? ⟨w.heap.size, 2, none⟩ = false := by rw [hW]; exact ((Ext.alloc _ _).trans (Ext.alloc _ _)).frozenF (cell_new w _ _ 2) (fr_new w _ _ 2)
      have p2 : W.cell? ⟨w.heap.size + 1, 2, none⟩ = some (.int .i64 0) := by rw [hW]; exact (Ext.alloc _ _).cell (cell_new2 w _ _ _ _ 2)
      have g3 : W.cell? ⟨w.heap.size, 3, none⟩ = some (.slice none 0 0) := by rw [hW]; exact ((Ext.alloc _ _).trans (Ext.alloc _ _)).cell (cell_new w _ _ 3)
      have e3 : W.frozen? ⟨w.heap.size, 3, none⟩ = false := by rw [hW]; exact ((Ext.alloc _ _).trans (Ext.alloc _ _)).frozenF (cell_new w _ _ 3) (fr_new w _ _ 3)
      have p3 : W.cell? ⟨w.heap.size + 1, 3, none⟩ = some (.slice none 0 0) := by rw [hW]; exact (Ext.alloc _ _).cell (cell_new2 w _ _ _ _ 3)
      have g4 : W.cell? ⟨w.heap.size, 4, none⟩ = some (.string ⟨#[]⟩) := by rw [hW]; exact ((Ext.alloc _ _).trans (Ext.alloc _ _)).cell (cell_new w _ _ 4)
      have e4 : W.frozen? ⟨w.heap.size, 4, none⟩ = false := by rw [hW]; exact ((Ext.alloc _ _).trans (Ext.alloc _ _)).frozenF (cell_new w _ _ 4) (fr_new w _ _ 4)
      have p4 : W.cell? ⟨w.heap.size + 1, 4, none⟩ = some (.string ⟨#[]⟩) := by rw [hW]; exact (Ext.alloc _ _).cell (cell_new2 w _ _ _ _ 4)
      have d0 : W.cell? ⟨w.heap.size + 1 + 1, 0, none⟩ = some (.int .i64 2) := by rw [hW]; exact cell_new3 w _ _ _ _ _ _ 0
      have d1 : W.cell? ⟨w.heap.size + 1 + 1, 1, none⟩ = some (.int .i64 oe) := by rw [hW]; exact cell_new3 w _ _ _ _ _ _ 1
      have d2 : W.cell? ⟨w.heap.size + 1 + 1, 2, none⟩ = some (.int .i64 0) := by rw [hW]; exact cell_new3 w _ _ _ _ _ _ 2
      have d3 : W.cell? ⟨w.heap.size + 1 + 1, 3, none⟩ = some (.slice none 0 0) := by rw [hW]; exact cell_new3 w _ _ _ _ _ _ 3
      have d4 : W.cell? ⟨w.heap.size + 1 + 1, 4, none⟩ = some (.string ⟨#[]⟩) := by rw [hW]; exact cell_new3 w _ _ _ _ _ _ 4
      clear hW
      -- the event has no bytes
      have hbyE : Byt U8 W (w.heap.size + 1) none 0 0 [] := Byt.nil _ _ _ _
      have hslE := hbyE.sl
      -- world W: the event's block at w.heap.size + 2; 2: k, o, m, its bytes A1 n1 c1 le, its text
      obtain ⟨r1, hr1⟩ : ∃ q, rightE 2 oe 0 (([] : List UInt8)).length ⟨#[]⟩ = q := ⟨_, rfl⟩
      obtain ⟨L2, hL2⟩ : ∃ q, (if r1 then putE 2 oe 0 ([] : List UInt8) ⟨#[]⟩ else []) = q := ⟨_, rfl⟩
      rw [hslE.len] at hr1
      have HR1 := Lib.hid hr1
      have HL2 := Lib.hid hL2
      clear hr1 hL2
      refine (ref_PutEvent 2 oe 0 _ _ _ ([] : List UInt8) ⟨#[]⟩ _ hslE hss HR1 HL2).mono ?_
      rintro e w3 ⟨A2, n2, c2, rfl, hb2, hx2⟩
      have hlt3 : w.heap.size + 1 + 1 < w3.heap.size := by have := hx2.size; omega
      have hx3 : Ext w w3 := hxW.trans hx2
      have hbE := hb.ext hx3
      replace d0 := hx2.cell d0
      replace e0 := hx2.frozenF g0 e0
      replace g0 := hx2.cell g0
      replace p0 := hx2.cell p0
      replace d1 := hx2.cell d1
      replace e1 := hx2.frozenF g1 e1
      replace g1 := hx2.cell g1
      replace p1 := hx2.cell p1
      replace d2 := hx2.cell d2
      replace e2 := hx2.frozenF g2 e2
      replace g2 := hx2.cell g2
      replace p2 := hx2.cell p2
      replace d3 := hx2.cell d3
      replace e3 := hx2.frozenF g3 e3
      replace g3 := hx2.cell g3
      replace p3 := hx2.cell p3
      replace d4 := hx2.cell d4
      replace e4 := hx2.frozenF g4 e4
      replace g4 := hx2.cell g4
      replace p4 := hx2.cell p4
      obtain rfl : r = false := by rw [HEV2.out]; rfl
      obtain ⟨rfl, rfl, rfl, rfl, rfl⟩ := HGN.out rfl
      clear hx2
      cases r1
      all_goals
        go_wp2_with fail
        refine bodyPost_ret (v := .tuple #[evV 0 0 0 none 0 0 ⟨#[]⟩, .int .i64 2]) (by simp [results, Try.results64, go_sem, g0, g1, g2, g3, g4]) rfl ⟨_, _, _, rfl, Byt.nil _ _ _ _, ?_⟩
        (repeat (first | (with_reducible exact Ext.refl _) | (with_reducible assumption) | (with_reducible refine Ext.draws ?_) | (with_reducible refine Ext.allocs ?_ _) | (with_reducible refine Ext.sets ?_ ?_ _) | (with_reducible exact Nat.le_refl _) | (exact (by simp)) | (exact (by simp; omega))))
    | true =>
      obtain rfl : me = g2a := by rw [← HM.out]; simp
      clear HR HO HM HL HS
      go_enter Try.func64, Try.ntmps64
      go_wp2_with fail
      refine (ref_GetVar_h (hb.ext ?hx) hn6 HV).mono ?_
      case hx => (repeat (first | (with_reducible exact Ext.refl _) | (with_reducible assumption) | (with_reducible refine Ext.draws ?_) | (with_reducible refine Ext.allocs ?_ _) | (with_reducible refine Ext.sets ?_ ?_ _) | (with_reducible exact Nat.le_refl _) | (exact (by simp)) | (exact (by simp; omega))))
      rintro e w1 ⟨rfl, rfl⟩
      go_wp2_with fail
      refine (ref_GetVar_h (hb.ext ?hx) hn6 HV2).mono ?_
      case hx => (repeat (first | (with_reducible exact Ext.refl _) | (with_reducible assumption) | (with_reducible refine Ext.draws ?_) | (with_reducible refine Ext.allocs ?_ _) | (with_reducible refine Ext.sets ?_ ?_ _) | (with_reducible exact Nat.le_refl _) | (exact (by simp)) | (exact (by simp; omega))))
      rintro e w1 ⟨rfl, rfl⟩
      go_wp2_with fail
      -- the world under one name; #[.int .i64 2, .int .i64 oe, .int .i64 me, .slice none 0 0, .string ⟨#[]⟩]: the event's cells
      obtain ⟨W, hW⟩ : ∃ W, W = ((w.alloc (.cells #[.int .i64 0, .int .i64 0, .int .i64 0, .slice none 0 0, .string ⟨#[]⟩] 63)).alloc (.cells #[.int .i64 0, .int .i64 0, .int .i64 0, .slice none 0 0, .string ⟨#[]⟩] 63)).alloc (.cells #[.int .i64 2, .int .i64 oe, .int .i64 me, .slice none 0 0, .string ⟨#[]⟩] 63) := ⟨_, rfl⟩
      rw [← hW]
      have hWs : W.heap.size = w.heap.size + 3 := by rw [hW]; simp
      have hxW : Ext w W := by rw [hW]; (repeat (first | (with_reducible exact Ext.refl _) | (with_reducible assumption) | (with_reducible refine Ext.draws ?_) | (with_reducible refine Ext.allocs ?_ _) | (with_reducible refine Ext.sets ?_ ?_ _) | (with_reducible exact Nat.le_refl _) | (exact (by simp)) | (exact (by simp; omega))))
      have g0 : W.cell? ⟨w.heap.size, 0, none⟩ = some (.int .i64 0) := by rw [hW]; exact ((Ext.alloc _ _).trans (Ext.alloc _ _)).cell (cell_new w _ _ 0)
      have e0 : W.frozen? ⟨w.heap.size, 0, none⟩ = false := by rw [hW]; exact ((Ext.alloc _ _).trans (Ext.alloc _ _)).frozenF (cell_new w _ _ 0) (fr_new w _ _ 0)
      have p0 : W.cell? ⟨w.heap.size + 1, 0, none⟩ = some (.int .i64 0) := by rw [hW]; exact (Ext.alloc _ _).cell (cell_new2 w _ _ _ _ 0)
      have g1 : W.cell? ⟨w.heap.size, 1, none⟩ = some (.int .i64 0) := by rw [hW]; exact ((Ext.alloc _ _).trans (Ext.alloc _ _)).cell (cell_new w _ _ 1)
      have e1 : W.frozen? ⟨w.heap.size, 1, none⟩ = false := by rw [hW]; exact ((Ext.alloc _ _).trans (Ext.alloc _ _)).frozenF (cell_new w _ _ 1) (fr_new w _ _ 1)
      have p1 : W.cell? ⟨w.heap.size + 1, 1, none⟩ = some (.int .i64 0) := by rw [hW]; exact (Ext.alloc _ _).cell (cell_new2 w _ _ _ _ 1)
      have g2 : W.cell? ⟨w.heap.size, 2, none⟩ = some (.int .i64 0) := by rw [hW]; exact ((Ext.alloc _ _).trans (Ext.alloc _ _)).cell (cell_new w _ _ 2)
      have e2 : W.frozen? ⟨w.heap.size, 2, none⟩ = false := by rw [hW]; exact ((Ext.alloc _ _).trans (Ext.alloc _ _)).frozenF (cell_new w _ _ 2) (fr_new w _ _ 2)
      have p2 : W.cell? ⟨w.heap.size + 1, 2, none⟩ = some (.int .i64 0) := by rw [hW]; exact (Ext.alloc _ _).cell (cell_new2 w _ _ _ _ 2)
      have g3 : W.cell? ⟨w.heap.size, 3, none⟩ = some (.slice none 0 0) := by rw [hW]; exact ((Ext.alloc _ _).trans (Ext.alloc _ _)).cell (cell_new w _ _ 3)
      have e3 : W.frozen? ⟨w.heap.size, 3, none⟩ = false := by rw [hW]; exact ((Ext.alloc _ _).trans (Ext.alloc _ _)).frozenF (cell_new w _ _ 3) (fr_new w _ _ 3)
      have p3 : W.cell? ⟨w.heap.size + 1, 3, none⟩ = some (.slice none 0 0) := by rw [hW]; exact (Ext.alloc _ _).cell (cell_new2 w _ _ _ _ 3)
      have g4 : W.cell? ⟨w.heap.size, 4, none⟩ = some (.string ⟨#[]⟩) := by rw [hW]; exact ((Ext.alloc _ _).trans (Ext.alloc _ _)).cell (cell_new w _ _ 4)
      have e4 : W.frozen? ⟨w.heap.size, 4, none⟩ = false := by rw [hW]; exact ((Ext.alloc _ _).trans (Ext.alloc _ _)).frozenF (cell_new w _ _ 4) (fr_new w _ _ 4)
      have p4 : W.cell? ⟨w.heap.size + 1, 4, none⟩ = some (.string ⟨#[]⟩) := by rw [hW]; exact (Ext.alloc _ _).cell (cell_new2 w _ _ _ _ 4)
      have d0 : W.cell? ⟨w.heap.size + 1 + 1, 0, none⟩ = some (.int .i64 2) := by rw [hW]; exact cell_new3 w _ _ _ _ _ _ 0
      have d1 : W.cell? ⟨w.heap.size + 1 + 1, 1, none⟩ = some (.int .i64 oe) := by rw [hW]; exact cell_new3 w _ _ _ _ _ _ 1
      have d2 : W.cell? ⟨w.heap.size + 1 + 1, 2, none⟩ = some (.int .i64 me) := by rw [hW]; exact cell_new3 w _ _ _ _ _ _ 2
      have d3 : W.cell? ⟨w.heap.size + 1 + 1, 3, none⟩ = some (.slice none 0 0) := by rw [hW]; exact cell_new3 w _ _ _ _ _ _ 3
      have d4 : W.cell? ⟨w.heap.size + 1 + 1, 4, none⟩ = some (.string ⟨#[]⟩) := by rw [hW]; exact cell_new3 w _ _ _ _ _ _ 4
      clear hW
      -- the event has no bytes
      have hbyE : Byt U8 W (w.heap.size + 1) none 0 0 [] := Byt.nil _ _ _ _
      have hslE := hbyE.sl
      cases g2c with
      | false =>
        -- world W: the event's block at w.heap.size + 2; 2: k, o, m, its bytes A1 n1 c1 le, its text
        obtain ⟨r1, hr1⟩ : ∃ q, rightE 2 oe me (([] : List UInt8)).length ⟨#[]⟩ = q := ⟨_, rfl⟩
        obtain ⟨L2, hL2⟩ : ∃ q, (if r1 then putE 2 oe me ([] : List UInt8) ⟨#[]⟩ else []) = q := ⟨_, rfl⟩
        rw [hslE.len] at hr1
        have HR1 := Lib.hid hr1
        have HL2 := Lib.hid hL2
        clear hr1 hL2
        refine (ref_PutEvent 2 oe me _ _ _ ([] : List UInt8) ⟨#[]⟩ _ hslE hss HR1 HL2).mono ?_
        rintro e w3 ⟨A2, n2, c2, rfl, hb2, hx2⟩
        have hlt3 : w.heap.size + 1 + 1 < w3.heap.size := by have := hx2.size; omega
        have hx3 : Ext w w3 := hxW.trans hx2
        have hbE := hb.ext hx3
        replace d0 := hx2.cell d0
        replace e0 := hx2.frozenF g0 e0
        replace g0 := hx2.cell g0
        replace p0 := hx2.cell p0
        replace d1 := hx2.cell d1
        replace e1 := hx2.frozenF g1 e1
        replace g1 := hx2.cell g1
        replace p1 := hx2.cell p1
        replace d2 := hx2.cell d2
        replace e2 := hx2.frozenF g2 e2
        replace g2 := hx2.cell g2
        replace p2 := hx2.cell p2
        replace d3 := hx2.cell d3
        replace e3 := hx2.frozenF g3 e3
        replace g3 := hx2.cell g3
        replace p3 := hx2.cell p3
        replace d4 := hx2.cell d4
        replace e4 := hx2.frozenF g4 e4
        replace g4 := hx2.cell g4
        replace p4 := hx2.cell p4
        obtain rfl : r = false := by rw [HEV2.out]; rfl
        obtain ⟨rfl, rfl, rfl, rfl, rfl⟩ := HGN.out rfl
        clear hx2
        cases r1
        all_goals
          go_wp2_with fail
          refine bodyPost_ret (v := .tuple #[evV 0 0 0 none 0 0 ⟨#[]⟩, .int .i64 2]) (by simp [results, Try.results64, go_sem, g0, g1, g2, g3, g4]) rfl ⟨_, _, _, rfl, Byt.nil _ _ _ _, ?_⟩
          (repeat (first | (with_reducible exact Ext.refl _) | (with_reducible assumption) | (with_reducible refine Ext.draws ?_) | (with_reducible refine Ext.allocs ?_ _) | (with_reducible refine Ext.sets ?_ ?_ _) | (with_reducible exact Nat.le_refl _) | (exact (by simp)) | (exact (by simp; omega))))
      | true =>
        -- world W: the event's block at w.heap.size + 2; 2: k, o, m, its bytes A1 n1 c1 le, its text
        obtain ⟨r1, hr1⟩ : ∃ q, rightE 2 oe me (([] : List UInt8)).length ⟨#[]⟩ = q := ⟨_, rfl⟩
        obtain ⟨L2, hL2⟩ : ∃ q, (if r1 then putE 2 oe me ([] : List UInt8) ⟨#[]⟩ else []) = q := ⟨_, rfl⟩
        rw [hslE.len] at hr1
        have HR1 := Lib.hid hr1
        have HL2 := Lib.hid hL2
        clear hr1 hL2
        refine (ref_PutEvent 2 oe me _ _ _ ([] : List UInt8) ⟨#[]⟩ _ hslE hss HR1 HL2).mono ?_
        rintro e w3 ⟨A2, n2, c2, rfl, hb2, hx2⟩
        have hlt3 : w.heap.size + 1 + 1 < w3.heap.size := by have := hx2.size; omega
        have hx3 : Ext w w3 := hxW.trans hx2
        have hbE := hb.ext hx3
        replace d0 := hx2.cell d0
        replace e0 := hx2.frozenF g0 e0
        replace g0 := hx2.cell g0
        replace p0 := hx2.cell p0
        replace d1 := hx2.cell d1
        replace e1 := hx2.frozenF g1 e1
        replace g1 := hx2.cell g1
        replace p1 := hx2.cell p1
        replace d2 := hx2.cell d2
        replace e2 := hx2.frozenF g2 e2
        replace g2 := hx2.cell g2
        replace p2 := hx2.cell p2
        replace d3 := hx2.cell d3
        replace e3 := hx2.frozenF g3 e3
        replace g3 := hx2.cell g3
        replace p3 := hx2.cell p3
        replace d4 := hx2.cell d4
        replace e4 := hx2.frozenF g4 e4
        replace g4 := hx2.cell g4
        replace p4 := hx2.cell p4
        have HEV : Hid (r = (r1 && (L2 == b))) := by
          have h1 := HEV2.out
          rw [Bool.true_and, hslE.len, HR1.out] at h1
          have h2 := HL2.out
          unfold Hid
          rw [h1, ← h2]
          cases r1 <;> rfl
        have hbyW := hbyE.ext hx2
        clear hx2
        cases r1 with
        | false =>
          obtain rfl : r = false := by rw [HEV.out]; rfl
          obtain ⟨rfl, rfl, rfl, rfl, rfl⟩ := HGN.out rfl
          go_wp2_with fail
          refine bodyPost_ret (v := .tuple #[evV 0 0 0 none 0 0 ⟨#[]⟩, .int .i64 2]) (by simp [results, Try.results64, go_sem, g0, g1, g2, g3, g4]) rfl ⟨_, _, _, rfl, Byt.nil _ _ _ _, ?_⟩
          (repeat (first | (with_reducible exact Ext.refl _) | (with_reducible assumption) | (with_reducible refine Ext.draws ?_) | (with_reducible refine Ext.allocs ?_ _) | (with_reducible refine Ext.sets ?_ ?_ _) | (with_reducible exact Nat.le_refl _) | (exact (by simp)) | (exact (by simp; omega))))
        | true =>
          have t1 := run_text_u8 hb2.sl
          have t2 := run_text_u8 hbE
          by_cases hq : L2 = b
          · subst hq
            obtain rfl : r = true := by rw [HEV.out]; simp
            obtain ⟨jK, jO, jM, jL, jS⟩ := HGY.out rfl
            replace jK := jK.symm
            replace jO := jO.symm
            replace jM := jM.symm
            replace jL := jL.symm
            replace jS := jS.symm
            subst jK jO jM jL jS
            go_wp2_with fail
            refine bodyPost_ret (v := .tuple #[evV 2 oe me none 0 0 ⟨#[]⟩, .int .i64 0]) (by simp [results, Try.results64, go_sem, g0, g1, g2, g3, g4]) rfl ⟨_, _, _, rfl, ?hsl, ?hxx⟩
            case hsl =>
              have hne : ∀ g, rowOf none 0 = some g → g ≠ w.heap.size := by
                intro g hg
                have := (hbyW.own.row_ge g hg).1
                omega
              have h4 := (((((hbyW.far (p := ⟨w.heap.size, 0, none⟩) (fun g hg => (hne g hg)) (.int .i64 2)).far (p := ⟨w.heap.size, 1, none⟩) (fun g hg => (hne g hg)) (.int .i64 oe)).far (p := ⟨w.heap.size, 2, none⟩) (fun g hg => (hne g hg)) (.int .i64 me)).far (p := ⟨w.heap.size, 3, none⟩) (fun g hg => (hne g hg)) (.slice none 0 0)).far (p := ⟨w.heap.size, 4, none⟩) (fun g hg => (hne g hg)) (.string ⟨#[]⟩))
              exact h4.low (by omega)
            case hxx => (repeat (first | (with_reducible exact Ext.refl _) | (with_reducible assumption) | (with_reducible refine Ext.draws ?_) | (with_reducible refine Ext.allocs ?_ _) | (with_reducible refine Ext.sets ?_ ?_ _) | (with_reducible exact Nat.le_refl _) | (exact (by simp)) | (exact (by simp; omega))))
          · obtain rfl : r = false := by rw [HEV.out]; simpa using hq
            obtain ⟨rfl, rfl, rfl, rfl, rfl⟩ := HGN.out rfl
            have hq2 : (L2 == b) = false := by simpa using hq
            go_wp2_with fail
            refine bodyPost_ret (v := .tuple #[evV 0 0 0 none 0 0 ⟨#[]⟩, .int .i64 2]) (by simp [results, Try.results64, go_sem, g0, g1, g2, g3, g4]) rfl ⟨_, _, _, rfl, Byt.nil _ _ _ _, ?_⟩
            (repeat (first | (with_reducible exact Ext.refl _) | (with_reducible assumption) | (with_reducible refine Ext.draws ?_) | (with_reducible refine Ext.allocs ?_ _) | (with_reducible refine Ext.sets ?_ ?_ _) | (with_reducible exact Nat.le_refl _) | (exact (by simp)) | (exact (by simp; omega))))
  by_cases k3 : k = 3
  · subst k3
    obtain rfl : pr = (gc && g2c) := by rw [← HR.out]; simp
    obtain rfl : oe = ga := by rw [← HO.out]; simp
    obtain rfl : se = ⟨#[]⟩ := by rw [← HS.out]; simp
    obtain rfl : le = [] := by rw [← HL.out]; simp
    cases gc with
    | false =>
      obtain rfl : me = 0 := by rw [← HM.out]; simp
      clear HR HO HM HL HS
      go_enter Try.func64, Try.ntmps64
      go_wp2_with fail
      refine (ref_GetVar_h (hb.ext ?hx) hn6 HV).mono ?_
      case hx => (repeat (first | (with_reducible exact Ext.refl _) | (with_reducible assumption) | (with_reducible refine Ext.draws ?_) | (with_reducible refine Ext.allocs ?_ _) | (with_reducible refine Ext.sets ?_ ?_ _) | (with_reducible exact Nat.le_refl _) | (exact (by simp)) | (exact (by simp; omega))))
      rintro e w1 ⟨rfl, rfl⟩
      go_wp2_with fail
      -- the world under one name; #[.int .i64 3, .int .i64 oe, .int .i64 0, .slice none 0 0, .string ⟨#[]⟩]: the event's cells
      obtain ⟨W, hW⟩ : ∃ W, W = ((w.alloc (.cells #[.int .i64 0, .int .i64 0, .int .i64 0, .slice none 0 0, .string ⟨#[]⟩] 63)).alloc (.cells #[.int .i64 0, .int .i64 0, .int .i64 0, .slice none 0 0, .string ⟨#[]⟩] 63)).alloc (.cells #[.int .i64 3, .int .i64 oe, .int .i64 0, .slice none 0 0, .string ⟨#[]⟩] 63) := ⟨_, rfl⟩
      rw [← hW]
      have hWs : W.heap.size = w.heap.size + 3 := by rw [hW]; simp
      have hxW : Ext w W := by rw [hW]; (repeat (first | (with_reducible exact Ext.refl _) | (with_reducible assumption) | (with_reducible refine Ext.draws ?_) | (with_reducible refine Ext.allocs ?_ _) | (with_reducible refine Ext.sets ?_ ?_ _) | (with_reducible exact Nat.le_refl _) | (exact (by simp)) | (exact (by simp; omega))))
      have g0 : W.cell? ⟨w.heap.size, 0, none⟩ = some (.int .i64 0) := by rw [hW]; exact ((Ext.alloc _ _).trans (Ext.alloc _ _)).cell (cell_new w _ _ 0)
      have e0 : W.frozen? ⟨w.heap.size, 0, none⟩ = false := by rw [hW]; exact ((Ext.alloc _ _).trans (Ext.alloc _ _)).frozenF (cell_new w _ _ 0) (fr_new w _ _ 0)
      have p0 : W.cell? ⟨w.heap.size + 1, 0, none⟩ = some (.int .i64 0) := by rw [hW]; exact (Ext.alloc _ _).cell (cell_new2 w _ _ _ _ 0)
      have g1 : W.cell? ⟨w.heap.size, 1, none⟩ = some (.int .i64 0) := by rw [hW]; exact ((Ext.alloc _ _).trans (Ext.alloc _ _)).cell (cell_new w _ _ 1)
      have e1 : W.frozen? ⟨w.heap.size, 1, none⟩ = false := by rw [hW]; exact ((Ext.alloc _ _).trans (Ext.alloc _ _)).frozenF (cell_new w _ _ 1) (fr_new w _ _ 1)
      have p1 : W.cell? ⟨w.heap.size + 1, 1, none⟩ = some (.int .i64 0) := by rw [hW]; exact (Ext.alloc _ _).cell (cell_new2 w _ _ _ _ 1)
      have g2 : W.cell? ⟨w.heap.size, 2, none⟩ = some (.int .i64 0) := by rw [hW]; exact ((Ext.alloc _ _).trans (Ext.alloc _ _)).cell (cell_new w _ _ 2)
      have e2 : W.frozen? ⟨w.heap.size, 2, none⟩ = false := by rw [hW]; exact ((Ext.alloc _ _).trans (Ext.alloc _ _)).frozenF (cell_new w _ _ 2) (fr_new w _ _ 2)
      have p2 : W.cell? ⟨w.heap.size + 1, 2, none⟩ = some (.int .i64 0) := by rw [hW]; exact (Ext.alloc _ _).cell (cell_new2 w _ _ _ _ 2)
      have g3 : W.cell? ⟨w.heap.size, 3, none⟩ = some (.slice none 0 0) := by rw [hW]; exact ((Ext.alloc _ _).trans (Ext.alloc _ _)).cell (cell_new w _ _ 3)
      have e3 : W.frozen? ⟨w.heap.size, 3, none⟩ = false := by rw [hW]; exact ((Ext.alloc _ _).trans (Ext.alloc _ _)).frozenF (cell_new w _ _ 3) (fr_new w _ _ 3)
      have p3 : W.cell? ⟨w.heap.size + 1, 3, none⟩ = some (.slice none 0 0) := by rw [hW]; exact (Ext.alloc _ _).cell (cell_new2 w _ _ _ _ 3)
      have g4 : W.cell? ⟨w.heap.size, 4, none⟩ = some (.string ⟨#[]⟩) := by rw [hW]; exact ((Ext.alloc _ _).trans (Ext.alloc _ _)).cell (cell_new w _ _ 4)
      have e4 : W.frozen? ⟨w.heap.size, 4, none⟩ = false := by rw [hW]; exact ((Ext.alloc _ _).trans (Ext.alloc _ _)).frozenF (cell_new w _ _ 4) (fr_new w _ _ 4)
      have p4 : W.cell? ⟨w.heap.size + 1, 4, none⟩ = some (.string ⟨#[]⟩) := by rw [hW]; exact (Ext.alloc _ _).cell (cell_new2 w _ _ _ _ 4)
      have d0 : W.cell? ⟨w.heap.size + 1 + 1, 0, none⟩ = some (.int .i64 3) := by rw [hW]; exact cell_new3 w _ _ _ _ _ _ 0
      have d1 : W.cell? ⟨w.heap.size + 1 + 1, 1, none⟩ = some (.int .i64 oe) := by rw [hW]; exact cell_new3 w _ _ _ _ _ _ 1
      have d2 : W.cell? ⟨w.heap.size + 1 + 1, 2, none⟩ = some (.int .i64 0) := by rw [hW]; exact cell_new3 w _ _ _ _ _ _ 2
      have d3 : W.cell? ⟨w.heap.size + 1 + 1, 3, none⟩ = some (.slice none 0 0) := by rw [hW]; exact cell_new3 w _ _ _ _ _ _ 3
      have d4 : W.cell? ⟨w.heap.size + 1 + 1, 4, none⟩ = some (.string ⟨#[]⟩) := by rw [hW]; exact cell_new3 w _ _ _ _ _ _ 4
      clear hW
      -- the event has no bytes
      have hbyE : Byt U8 W (w.heap.size + 1) none 0 0 [] := Byt.nil _ _ _ _
      have hslE := hbyE.sl
      -- world W: the event's block at w.heap.size + 2; 3: k, o, m, its bytes A1 n1 c1 le, its text
      obtain ⟨r1, hr1⟩ : ∃ q, rightE 3 oe 0 (([] : List UInt8)).length ⟨#[]⟩ = q := ⟨_, rfl⟩
      obtain ⟨L2, hL2⟩ : ∃ q, (if r1 then putE 3 oe 0 ([] : List UInt8) ⟨#[]⟩ else []) = q := ⟨_, rfl⟩
      rw [hslE.len] at hr1
      have HR1 := Lib.hid hr1
      have HL2 := Lib.hid hL2
      clear hr1 hL2
      refine (ref_PutEvent 3 oe 0 _ _ _ ([] : List UInt8) ⟨#[]⟩ _ hslE hss HR1 HL2).mono ?_
      rintro e w3 ⟨A2, n2, c2, rfl, hb2, hx2⟩
      have hlt3 : w.heap.size + 1 + 1 < w3.heap.size := by have := hx2.size; omega
      have hx3 : Ext w w3 := hxW.trans hx2
      have hbE := hb.ext hx3
      replace d0 := hx2.cell d0
      replace e0 := hx2.frozenF g0 e0
      replace g0 := hx2.cell g0
      replace p0 := hx2.cell p0
      replace d1 := hx2.cell d1
      replace e1 := hx2.frozenF g1 e1
      replace g1 := hx2.cell g1
      replace p1 := hx2.cell p1
      replace d2 := hx2.cell d2
      replace e2 := hx2.frozenF g2 e2
      replace g2 := hx2.cell g2
      replace p2 := hx2.cell p2
      replace d3 := hx2.cell d3
      replace e3 := hx2.frozenF g3 e3
      replace g3 := hx2.cell g3
      replace p3 := hx2.cell p3
      replace d4 := hx2.cell d4
      replace e4 := hx2.frozenF g4 e4
      replace g4 := hx2.cell g4
      replace p4 := hx2.cell p4
      obtain rfl : r = false := by rw [HEV2.out]; rfl
      obtain ⟨rfl, rfl, rfl, rfl, rfl⟩ := HGN.out rfl
      clear hx2
      cases r1
      all_goals
        go_wp2_with fail
        refine bodyPost_ret (v := .tuple #[evV 0 0 0 none 0 0 ⟨#[]⟩, .int .i64 2]) (by simp [results, Try.results64, go_sem, g0, g1, g2, g3, g4]) rfl ⟨_, _, _, rfl, Byt.nil _ _ _ _, ?_⟩
        (repeat (first | (with_reducible exact Ext.refl _) | (with_reducible assumption) | (with_reducible refine Ext.draws ?_) | (with_reducible refine Ext.allocs ?_ _) | (with_reducible refine Ext.sets ?_ ?_ _) | (with_reducible exact Nat.le_refl _) | (exact (by simp)) | (exact (by simp; omega))))
    | true =>
      obtain rfl : me = g2a := by rw [← HM.out]; simp
      clear HR HO HM HL HS
      go_enter Try.func64, Try.ntmps64
      go_wp2_with fail
      refine (ref_GetVar_h (hb.ext ?hx) hn6 HV).mono ?_
      case hx => (repeat (first | (with_reducible exact Ext.refl _) | (with_reducible assumption) | (with_reducible refine Ext.draws ?_) | (with_reducible refine Ext.allocs ?_ _) | (with_reducible refine Ext.sets ?_ ?_ _) | (with_reducible exact Nat.le_refl _) | (exact (by simp)) | (exact (by simp; omega))))
      rintro e w1 ⟨rfl, rfl⟩
      go_wp2_with fail
      refine (ref_GetVar_h (hb.ext ?hx) hn6 HV2).mono ?_
      case hx => (repeat (first | (with_reducible exact Ext.refl _) | (with_reducible assumption) | (with_reducible refine Ext.draws ?_) | (with_reducible refine Ext.allocs ?_ _) | (with_reducible refine Ext.sets ?_ ?_ _) | (with_reducible exact Nat.le_refl _) | (exact (by simp)) | (exact (by simp; omega))))
      rintro e w1 ⟨rfl, rfl⟩
      go_wp2_with fail
      -- the world under one name; #[.int .i64 3, .int .i64 oe, .int .i64 me, .slice none 0 0, .string ⟨#[]⟩]: the event's cells
      obtain ⟨W, hW⟩ : ∃ W, W = ((w.alloc (.cells #[.int .i64 0, .int .i64 0, .int .i64 0, .slice none 0 0, .string ⟨#[]⟩] 63)).alloc (.cells #[.int .i64 0, .int .i64 0, .int .i64 0, .slice none 0 0, .string ⟨#[]⟩] 63)).alloc (.cells #[.int .i64 3, .int .i64 oe, .int .i64 me, .slice none 0 0, .string ⟨#[]⟩] 63) := ⟨_, rfl⟩
      rw [← hW]
      have hWs : W.heap.size = w.heap.size + 3 := by rw [hW]; simp
      have hxW : Ext w W := by rw [hW]; (repeat (first | (with_reducible exact Ext.refl _) | (with_reducible assumption) | (with_reducible refine Ext.draws ?_) | (with_reducible refine Ext.allocs ?_ _) | (with_reducible refine Ext.sets ?_ ?_ _) | (with_reducible exact Nat.le_refl _) | (exact (by simp)) | (exact (by simp; omega))))
      have g0 : W.cell? ⟨w.heap.size, 0, none⟩ = some (.int .i64 0) := by rw [hW]; exact ((Ext.alloc _ _).trans (Ext.alloc _ _)).cell (cell_new w _ _ 0)
      have e0 : W.frozen? ⟨w.heap.size, 0, none⟩ = false := by rw [hW]; exact ((Ext.alloc _ _).trans (Ext.alloc _ _)).frozenF (cell_new w _ _ 0) (fr_new w _ _ 0)
      have p0 : W.cell? ⟨w.heap.size + 1, 0, none⟩ = some (.int .i64 0) := by rw [hW]; exact (Ext.alloc _ _).cell (cell_new2 w _ _ _ _ 0)
      have g1 : W.cell? ⟨w.heap.size, 1, none⟩ = some (.int .i64 0) := by rw [hW]; exact ((Ext.alloc _ _).trans (Ext.alloc _ _)).cell (cell_new w _ _ 1)
      have e1 : W.frozen? ⟨w.heap.size, 1, none⟩ = false := by rw [hW]; exact ((Ext.alloc _ _).trans (Ext.alloc _ _)).frozenF (cell_new w _ _ 1) (fr_new w _ _ 1)
      have p1 : W.cell? ⟨w.heap.size + 1, 1, none⟩ = some (.int .i64 0) := by rw [hW]; exact (Ext.alloc _ _).cell (cell_new2 w _ _ _ _ 1)
      have g2 : W.cell? ⟨w.heap.size, 2, none⟩ = some (.int .i64 0) := by rw [hW]; exact ((Ext.alloc _ _).trans (Ext.alloc _ _)).cell (cell_new w _ _ 2)
      have e2 : W.frozen? ⟨w.heap.size, 2, none⟩ = false := by rw [hW]; exact ((Ext.alloc _ _).trans (Ext.alloc _ _)).frozenF (cell_new w _ _ 2) (fr_new w _ _ 2)
      have p2 : W.cell? ⟨w.heap.size + 1, 2, none⟩ = some (.int .i64 0) := by rw [hW]; exact (Ext.alloc _ _).cell (cell_new2 w _ _ _ _ 2)
      have g3 : W.cell? ⟨w.heap.size, 3, none⟩ = some (.slice none 0 0) := by rw [hW]; exact ((Ext.alloc _ _).trans (Ext.alloc _ _)).cell (cell_new w _ _ 3)
      have e3 : W.frozen? ⟨w.heap.size, 3, none⟩ = false := by rw [hW]; exact ((Ext.alloc _ _).trans (Ext.alloc _ _)).frozenF (cell_new w _ _ 3) (fr_new w _ _ 3)
      have p3 : W.cell? ⟨w.heap.size + 1, 3, none⟩ = some (.slice none 0 0) := by rw [hW]; exact (Ext.alloc _ _).cell (cell_new2 w _ _ _ _ 3)
      have g4 : W.cell? ⟨w.heap.size, 4, none⟩ = some (.string ⟨#[]⟩) := by rw [hW]; exact ((Ext.alloc _ _).trans (Ext.alloc _ _)).cell (cell_new w _ _ 4)
      have e4 : W.frozen? ⟨w.heap.size, 4, none⟩ = false := by rw [hW]; exact ((Ext.alloc _ _).trans (Ext.alloc _ _)).frozenF (cell_new w _ _ 4) (fr_new w _ _ 4)
      have p4 : W.cell? ⟨w.heap.size + 1, 4, none⟩ = some (.string ⟨#[]⟩) := by rw [hW]; exact (Ext.alloc _ _).cell (cell_new2 w _ _ _ _ 4)
      have d0 : W.cell? ⟨w.heap.size + 1 + 1, 0, none⟩ = some (.int .i64 3) := by rw [hW]; exact cell_new3 w _ _ _ _ _ _ 0
      have d1 : W.cell? ⟨w.heap.size + 1 + 1, 1, none⟩ = some (.int .i64 oe) := by rw [hW]; exact cell_new3 w _ _ _ _ _ _ 1
      have d2 : W.cell? ⟨w.heap.size + 1 + 1, 2, none⟩ = some (.int .i64 me) := by rw [hW]; exact cell_new3 w _ _ _ _ _ _ 2
      have d3 : W.cell? ⟨w.heap.size + 1 + 1, 3, none⟩ = some (.slice none 0 0) := by rw [hW]; exact cell_new3 w _ _ _ _ _ _ 3
      have d4 : W.cell? ⟨w.heap.size + 1 + 1, 4, none⟩ = some (.string ⟨#[]⟩) := by rw [hW]; exact cell_new3 w _ _ _ _ _ _ 4
      clear hW
      -- the event has no bytes
      have hbyE : Byt U8 W (w.heap.size + 1) none 0 0 [] := Byt.nil _ _ _ _
      have hslE := hbyE.sl
      cases g2c with
      | false =>
        -- world W: the event's block at w.heap.size + 2; 3: k, o, m, its bytes A1 n1 c1 le, its text
        obtain ⟨r1, hr1⟩ : ∃ q, rightE 3 oe me (([] : List UInt8)).length ⟨#[]⟩ = q := ⟨_, rfl⟩
        obtain ⟨L2, hL2⟩ : ∃ q, (if r1 then putE 3 oe me ([] : List UInt8) ⟨#[]⟩ else []) = q := ⟨_, rfl⟩
        rw [hslE.len] at hr1
        have HR1 := Lib.hid hr1
        have HL2 := Lib.hid hL2
        clear hr1 hL2
        refine (ref_PutEvent 3 oe me _ _ _ ([] : List UInt8) ⟨#[]⟩ _ hslE hss HR1 HL2).mono ?_
        rintro e w3 ⟨A2, n2, c2, rfl, hb2, hx2⟩
        have hlt3 : w.heap.size + 1 + 1 < w3.heap.size := by have := hx2.size; omega
        have hx3 : Ext w w3 := hxW.trans hx2
        have hbE := hb.ext hx3
        replace d0 := hx2.cell d0
        replace e0 := hx2.frozenF g0 e0
        replace g0 := hx2.cell g0
        replace p0 := hx2.cell p0
        replace d1 := hx2.cell d1
        replace e1 := hx2.frozenF g1 e1
        replace g1 := hx2.cell g1
        replace p1 := hx2.cell p1
        replace d2 := hx2.cell d2
        replace e2 := hx2.frozenF g2 e2
        replace g2 := hx2.cell g2
        replace p2 := hx2.cell p2
        replace d3 := hx2.cell d3
        replace e3 := hx2.frozenF g3 e3
        replace g3 := hx2.cell g3
        replace p3 := hx2.cell p3
        replace d4 := hx2.cell d4
        replace e4 := hx2.frozenF g4 e4
        replace g4 := hx2.cell g4
        replace p4 := hx2.cell p4
        obtain rfl : r = false := by rw [HEV2.out]; rfl
        obtain ⟨rfl, rfl, rfl, rfl, rfl⟩ := HGN.out rfl
        clear hx2
        cases r1
        all_goals
          go_wp2_with fail
          refine bodyPost_ret (v := .tuple #[evV 0 0 0 none 0 0 ⟨#[]⟩, .int .i64 2]) (by simp [results, Try.results64, go_sem, g0, g1, g2, g3, g4]) rfl ⟨_, _, _, rfl, Byt.nil _ _ _ _, ?_⟩
          (repeat (first | (with_reducible exact Ext.refl _) | (with_reducible assumption) | (with_reducible refine Ext.draws ?_) | (with_reducible refine Ext.allocs ?_ _) | (with_reducible refine Ext.sets ?_ ?_ _) | (with_reducible exact Nat.le_refl _) | (exact (by simp)) | (exact (by simp; omega))))
      | true =>
        -- world W: the event's block at w.heap.size + 2; 3: k, o, m, its bytes A1 n1 c1 le, its text
        obtain ⟨r1, hr1⟩ : ∃ q, rightE 3 oe me (([] : List UInt8)).length ⟨#[]⟩ = q := ⟨_, rfl⟩
        obtain ⟨L2, hL2⟩ : ∃ q, (if r1 then putE 3 oe me ([] : List UInt8) ⟨#[]⟩ else []) = q := ⟨_, rfl⟩
        rw [hslE.len] at hr1
        have HR1 := Lib.hid hr1
        have HL2 := Lib.hid hL2
        clear hr1 hL2
        refine (ref_PutEvent 3 oe me _ _ _ ([] : List UInt8) ⟨#[]⟩ _ hslE hss HR1 HL2).mono ?_
        rintro e w3 ⟨A2, n2, c2, rfl, hb2, hx2⟩
        have hlt3 : w.heap.size + 1 + 1 < w3.heap.size := by have := hx2.size; omega
        have hx3 : Ext w w3 := hxW.trans hx2
        have hbE := hb.ext hx3
        replace d0 := hx2.cell d0
        replace e0 := hx2.frozenF g0 e0
        replace g0 := hx2.cell g0
        replace p0 := hx2.cell p0
        replace d1 := hx2.cell d1
        replace e1 := hx2.frozenF g1 e1
        replace g1 := hx2.cell g1
        replace p1 := hx2.cell p1
        replace d2 := hx2.cell d2
        replace e2 := hx2.frozenF g2 e2
        replace g2 := hx2.cell g2
        replace p2 := hx2.cell p2
        replace d3 := hx2.cell d3
        replace e3 := hx2.frozenF g3 e3
        replace g3 := hx2.cell g3
        replace p3 := hx2.cell p3
        replace d4 := hx2.cell d4
        replace e4 := hx2.frozenF g4 e4
        replace g4 := hx2.cell g4
        replace p4 := hx2.cell p4
        have HEV : Hid (r = (r1 && (L2 == b))) := by
          have h1 := HEV2.out
          rw [Bool.true_and, hslE.len, HR1.out] at h1
          have h2 := HL2.out
          unfold Hid
          rw [h1, ← h2]
          cases r1 <;> rfl
        have hbyW := hbyE.ext hx2
        clear hx2
        cases r1 with
        | false =>
          obtain rfl : r = false := by rw [HEV.out]; rfl
          obtain ⟨rfl, rfl, rfl, rfl, rfl⟩ := HGN.out rfl
          go_wp2_with fail
          refine bodyPost_ret (v := .tuple #[evV 0 0 0 none 0 0 ⟨#[]⟩, .int .i64 2]) (by simp [results, Try.results64, go_sem, g0, g1, g2, g3, g4]) rfl ⟨_, _, _, rfl, Byt.nil _ _ _ _, ?_⟩
          (repeat (first | (with_reducible exact Ext.refl _) | (with_reducible assumption) | (with_reducible refine Ext.draws ?_) | (with_reducible refine Ext.allocs ?_ _) | (with_reducible refine Ext.sets ?_ ?_ _) | (with_reducible exact Nat.le_refl _) | (exact (by simp)) | (exact (by simp; omega))))
        | true =>
          have t1 := run_text_u8 hb2.sl
          have t2 := run_text_u8 hbE
          by_cases hq : L2 = b
          · subst hq
            obtain rfl : r = true := by rw [HEV.out]; simp
            obtain ⟨jK, jO, jM, jL, jS⟩ := HGY.out rfl
            replace jK := jK.symm
            replace jO := jO.symm
            replace jM := jM.symm
            replace jL := jL.symm
            replace jS := jS.symm
            subst jK jO jM jL jS
            go_wp2_with fail
            refine bodyPost_ret (v := .tuple #[evV 3 oe me none 0 0 ⟨#[]⟩, .int .i64 0]) (by simp [results, Try.results64, go_sem, g0, g1, g2, g3, g4]) rfl ⟨_, _, _, rfl, ?hsl, ?hxx⟩
            case hsl =>
              have hne : ∀ g, rowOf none 0 = some g → g ≠ w.heap.size := by
                intro g hg
                have := (hbyW.own.row_ge g hg).1
                omega
              have h4 := (((((hbyW.far (p := ⟨w.heap.size, 0, none⟩) (fun g hg => (hne g hg)) (.int .i64 3)).far (p := ⟨w.heap.size, 1, none⟩) (fun g hg => (hne g hg)) (.int .i64 oe)).far (p := ⟨w.heap.size, 2, none⟩) (fun g hg => (hne g hg)) (.int .i64 me)).far (p := ⟨w.heap.size, 3, none⟩) (fun g hg => (hne g hg)) (.slice none 0 0)).far (p := ⟨w.heap.size, 4, none⟩) (fun g hg => (hne g hg)) (.string ⟨#[]⟩))
              exact h4.low (by omega)
            case hxx => (repeat (first | (with_reducible exact Ext.refl _) | (with_reducible assumption) | (with_reducible refine Ext.draws ?_) | (with_reducible refine Ext.allocs ?_ _) | (with_reducible refine Ext.sets ?_ ?_ _) | (with_reducible exact Nat.le_refl _) | (exact (by simp)) | (exact (by simp; omega))))
          · obtain rfl : r = false := by rw [HEV.out]; simpa using hq
            obtain ⟨rfl, rfl, rfl, rfl, rfl⟩ := HGN.out rfl
            have hq2 : (L2 == b) = false := by simpa using hq
            go_wp2_with fail
            refine bodyPost_ret (v := .tuple #[evV 0 0 0 none 0 0 ⟨#[]⟩, .int .i64 2]) (by simp [results, Try.results64, go_sem, g0, g1, g2, g3, g4]) rfl ⟨_, _, _, rfl, Byt.nil _ _ _ _, ?_⟩
            (repeat (first | (with_reducible exact Ext.refl _) | (with_reducible assumption) | (with_reducible refine Ext.draws ?_) | (with_reducible refine Ext.allocs ?_ _) | (with_reducible refine Ext.sets ?_ ?_ _) | (with_reducible exact Nat.le_refl _) | (exact (by simp)) | (exact (by simp; omega))))
  by_cases k1 : k = 1
  · subst k1
    obtain rfl : pr = gc := by rw [← HR.out]; simp
    obtain rfl : oe = ga := by rw [← HO.out]; simp
    obtain rfl : se = ⟨#[]⟩ := by rw [← HS.out]; simp
    obtain rfl : me = 0 := by rw [← HM.out]; simp
    cases pr with
    | false =>
      obtain rfl : le = [] := by rw [← HL.out]; simp
      clear HR HO HM HL HS
      go_enter Try.func64, Try.ntmps64
      go_wp2_with fail
      refine (ref_GetVar_h (hb.ext ?hx) hn6 HV).mono ?_
      case hx => (repeat (first | (with_reducible exact Ext.refl _) | (with_reducible assumption) | (with_reducible refine Ext.draws ?_) | (with_reducible refine Ext.allocs ?_ _) | (with_reducible refine Ext.sets ?_ ?_ _) | (with_reducible exact Nat.le_refl _) | (exact (by simp)) | (exact (by simp; omega))))
      rintro e w1 ⟨rfl, rfl⟩
      go_wp2_with fail
      -- the world under one name; #[.int .i64 1, .int .i64 oe, .int .i64 0, .slice none 0 0, .string ⟨#[]⟩]: the event's cells
      obtain ⟨W, hW⟩ : ∃ W, W = ((w.alloc (.cells #[.int .i64 0, .int .i64 0, .int .i64 0, .slice none 0 0, .string ⟨#[]⟩] 63)).alloc (.cells #[.int .i64 0, .int .i64 0, .int .i64 0, .slice none 0 0, .string ⟨#[]⟩] 63)).alloc (.cells #[.int .i64 1, .int .i64 oe, .int .i64 0, .slice none 0 0, .string ⟨#[]⟩] 63) := ⟨_, rfl⟩
      rw [← hW]
      have hWs : W.heap.size = w.heap.size + 3 := by rw [hW]; simp
      have hxW : Ext w W := by rw [hW]; (repeat (first | (with_reducible exact Ext.refl _) | (with_reducible assumption) | (with_reducible refine Ext.draws ?_) | (with_reducible refine Ext.allocs ?_ _) | (with_reducible refine Ext.sets ?_ ?_ _) | (with_reducible exact Nat.le_refl _) | (exact (by simp)) | (exact (by simp; omega))))
      have g0 : W.cell? ⟨w.heap.size, 0, none⟩ = some (.int .i64 0) := by rw [hW]; exact ((Ext.alloc _ _).trans (Ext.alloc _ _)).cell (cell_new w _ _ 0)
      have e0 : W.frozen? ⟨w.heap.size, 0, none⟩ = false := by rw [hW]; exact ((Ext.alloc _ _).trans (Ext.alloc _ _)).frozenF (cell_new w _ _ 0) (fr_new w _ _ 0)
      have p0 : W.cell? ⟨w.heap.size + 1, 0, none⟩ = some (.int .i64 0) := by rw [hW]; exact (Ext.alloc _ _).cell (cell_new2 w _ _ _ _ 0)
      have g1 : W.cell? ⟨w.heap.size, 1, none⟩ = some (.int .i64 0) := by rw [hW]; exact ((Ext.alloc _ _).trans (Ext.alloc _ _)).cell (cell_new w _ _ 1)
      have e1 : W.frozen? ⟨w.heap.size, 1, none⟩ = false := by rw [hW]; exact ((Ext.alloc _ _).trans (Ext.alloc _ _)).frozenF (cell_new w _ _ 1) (fr_new w _ _ 1)
      have p1 : W.cell? ⟨w.heap.size + 1, 1, none⟩ = some (.int .i64 0) := by rw [hW]; exact (Ext.alloc _ _).cell (cell_new2 w _ _ _ _ 1)
      have g2 : W.cell? ⟨w.heap.size, 2, none⟩ = some (.int .i64 0) := by rw [hW]; exact ((Ext.alloc _ _).trans (Ext.alloc _ _)).cell (cell_new w _ _ 2)
      have e2 : W.frozen? ⟨w.heap.size, 2, none⟩ = false := by rw [hW]; exact ((Ext.alloc _ _).trans (Ext.alloc _ _)).frozenF (cell_new w _ _ 2) (fr_new w _ _ 2)
      have p2 : W.cell? ⟨w.heap.size + 1, 2, none⟩ = some (.int .i64 0) := by rw [hW]; exact (Ext.alloc _ _).cell (cell_new2 w _ _ _ _ 2)
      have g3 : W.cell? ⟨w.heap.size, 3, none⟩ = some (.slice none 0 0) := by rw [hW]; exact ((Ext.alloc _ _).trans (Ext.alloc _ _)).cell (cell_new w _ _ 3)
      have e3 : W.frozen? ⟨w.heap.size, 3, none⟩ = false := by rw [hW]; exact ((Ext.alloc _ _).trans (Ext.alloc _ _)).frozenF (cell_new w _ _ 3) (fr_new w _ _ 3)
      have p3 : W.cell? ⟨w.heap.size + 1, 3, none⟩ = some (.slice none 0 0) := by rw [hW]; exact (Ext.alloc _ _).cell (cell_new2 w _ _ _ _ 3)
      have g4 : W.cell? ⟨w.heap.size, 4, none⟩ = some (.string ⟨#[]⟩) := by rw [hW]; exact ((Ext.alloc _ _).trans (Ext.alloc _ _)).cell (cell_new w _ _ 4)
      have e4 : W.frozen? ⟨w.heap.size, 4, none⟩ = false := by rw [hW]; exact ((Ext.alloc _ _).trans (Ext.alloc _ _)).frozenF (cell_new w _ _ 4) (fr_new w _ _ 4)
      have p4 : W.cell? ⟨w.heap.size + 1, 4, none⟩ = some (.string ⟨#[]⟩) := by rw [hW]; exact (Ext.alloc _ _).cell (cell_new2 w _ _ _ _ 4)
      have d0 : W.cell? ⟨w.heap.size + 1 + 1, 0, none⟩ = some (.int .i64 1) := by rw [hW]; exact cell_new3 w _ _ _ _ _ _ 0
      have d1 : W.cell? ⟨w.heap.size + 1 + 1, 1, none⟩ = some (.int .i64 oe) := by rw [hW]; exact cell_new3 w _ _ _ _ _ _ 1
      have d2 : W.cell? ⟨w.heap.size + 1 + 1, 2, none⟩ = some (.int .i64 0) := by rw [hW]; exact cell_new3 w _ _ _ _ _ _ 2
      have d3 : W.cell? ⟨w.heap.size + 1 + 1, 3, none⟩ = some (.slice none 0 0) := by rw [hW]; exact cell_new3 w _ _ _ _ _ _ 3
      have d4 : W.cell? ⟨w.heap.size + 1 + 1, 4, none⟩ = some (.string ⟨#[]⟩) := by rw [hW]; exact cell_new3 w _ _ _ _ _ _ 4
      clear hW
      -- the event has no bytes
      have hbyE : Byt U8 W (w.heap.size + 1) none 0 0 [] := Byt.nil _ _ _ _
      have hslE := hbyE.sl
      -- world W: the event's block at w.heap.size + 2; 1: k, o, m, its bytes A1 n1 c1 le, its text
      obtain ⟨r1, hr1⟩ : ∃ q, rightE 1 oe 0 (([] : List UInt8)).length ⟨#[]⟩ = q := ⟨_, rfl⟩
      obtain ⟨L2, hL2⟩ : ∃ q, (if r1 then putE 1 oe 0 ([] : List UInt8) ⟨#[]⟩ else []) = q := ⟨_, rfl⟩
      rw [hslE.len] at hr1
      have HR1 := Lib.hid hr1
      have HL2 := Lib.hid hL2
      clear hr1 hL2
      refine (ref_PutEvent 1 oe 0 _ _ _ ([] : List UInt8) ⟨#[]⟩ _ hslE hss HR1 HL2).mono ?_
      rintro e w3 ⟨A2, n2, c2, rfl, hb2, hx2⟩
      have hlt3 : w.heap.size + 1 + 1 < w3.heap.size := by have := hx2.size; omega
      have hx3 : Ext w w3 := hxW.trans hx2
      have hbE := hb.ext hx3
      replace d0 := hx2.cell d0
      replace e0 := hx2.frozenF g0 e0
      replace g0 := hx2.cell g0
      replace p0 := hx2.cell p0
      replace d1 := hx2.cell d1
      replace e1 := hx2.frozenF g1 e1
      replace g1 := hx2.cell g1
      replace p1 := hx2.cell p1
      replace d2 := hx2.cell d2
      replace e2 := hx2.frozenF g2 e2
      replace g2 := hx2.cell g2
      replace p2 := hx2.cell p2
      replace d3 := hx2.cell d3
      replace e3 := hx2.frozenF g3 e3
      replace g3 := hx2.cell g3
      replace p3 := hx2.cell p3
      replace d4 := hx2.cell d4
      replace e4 := hx2.frozenF g4 e4
      replace g4 := hx2.cell g4
      replace p4 := hx2.cell p4
      obtain rfl : r = false := by rw [HEV2.out]; rfl
      obtain ⟨rfl, rfl, rfl, rfl, rfl⟩ := HGN.out rfl
      clear hx2
      cases r1
      all_goals
        go_wp2_with fail
        refine bodyPost_ret (v := .tuple #[evV 0 0 0 none 0 0 ⟨#[]⟩, .int .i64 2]) (by simp [results, Try.results64, go_sem, g0, g1, g2, g3, g4]) rfl ⟨_, _, _, rfl, Byt.nil _ _ _ _, ?_⟩
        (repeat (first | (with_reducible exact Ext.refl _) | (with_reducible assumption) | (with_reducible refine Ext.draws ?_) | (with_reducible refine Ext.allocs ?_ _) | (with_reducible refine Ext.sets ?_ ?_ _) | (with_reducible exact Nat.le_refl _) | (exact (by simp)) | (exact (by simp; omega))))
    | true =>
      obtain rfl : le = b.drop gb.toNat := by rw [← HL.out]; simp
      clear HR HO HM HL HS
      obtain ⟨q, hq, hqn⟩ : ∃ q : Nat, gb = q ∧ q ≤ n := by
        have := gv_small b 1 (by omega)
        rw [HV.out.2.1, hb.len] at this
        exact ⟨gb.toNat, by omega, by omega⟩
      obtain ⟨A1, c1, hcut, hs1⟩ := cut_from hb q (n - q) gb hq (by omega)
      rw [show gb.toNat = q by omega] at HEV2 HGY
      obtain ⟨le, hle⟩ : ∃ l, b.drop q = l := ⟨_, rfl⟩
      rw [hle] at hs1 HEV2 HGY
      clear hq hle
      obtain ⟨i0, hi0, hz0, hz1, hz2⟩ := info_parts info_u8
      obtain ⟨zs, hzs⟩ : ∃ zs : Obj, zs = .cells #[.int .i64 0, .int .i64 0, .int .i64 0, .slice none 0 0, .string ⟨#[]⟩] 63 := ⟨_, rfl⟩
      go_enter Try.func64, Try.ntmps64
      go_wp2_with fail
      refine (ref_GetVar_h (hb.ext ?hx) hn6 HV).mono ?_
      case hx => (repeat (first | (with_reducible exact Ext.refl _) | (with_reducible assumption) | (with_reducible refine Ext.draws ?_) | (with_reducible refine Ext.allocs ?_ _) | (with_reducible refine Ext.sets ?_ ?_ _) | (with_reducible exact Nat.le_refl _) | (exact (by simp)) | (exact (by simp; omega))))
      rintro e w1 ⟨rfl, rfl⟩
      go_wp2_with (at_builtin; refine wpList_append_mine _ rfl _ _ _ _ rfl (w.heap.size + 3) U8 i0 _ 1 1 under_bytes hi0 hz0 hz1 hz2 rfl _ 0 0 _ rfl (Own.nil _ _ _ _ _) _ rfl (n - q) (le.map bv) ((hs1.ext ((((Ext.alloc w _).allocs _).allocs _).allocs _)).src under_bytes) (by simp only [maxLen]; omega) (by omega) (by first | (simp; done) | (simp; omega)) ?_; intro A3 c3 w2 hown hg _; have hx := grown_nil hg; have d3 := hx.cell ((Ext.alloc _ _).cell (cell_new3 w _ _ _ _ _ _ 3)); have f3 := hx.frozenF ((Ext.alloc _ _).cell (cell_new3 w _ _ _ _ _ _ 3)) ((Ext.alloc _ _).frozenF (cell_new3 w _ _ _ _ _ _ 3) (fr_new3 w _ _ _ _ _ _ 3)); have dd0 := hx.cell ((Ext.alloc _ _).cell (cell_new3 w _ _ _ _ _ _ 0)); have dd1 := hx.cell ((Ext.alloc _ _).cell (cell_new3 w _ _ _ _ _ _ 1)); have dd2 := hx.cell ((Ext.alloc _ _).cell (cell_new3 w _ _ _ _ _ _ 2)); have dd4 := hx.cell ((Ext.alloc _ _).cell (cell_new3 w _ _ _ _ _ _ 4)))
      obtain ⟨W, hW⟩ : ∃ W, W = w2.setCell ⟨w.heap.size + 1 + 1, 3, none⟩ (.slice A3 (n - q) c3) := ⟨_, rfl⟩
      rw [← hW]
      have hws := hx.size
      simp at hws
      have hWs : W.heap.size = w2.heap.size := by rw [hW]; simp [World.setCell]
      have hxW : Ext w W := by rw [hW]; exact ((((Ext.alloc w _).allocs _).allocs _).allocs _).trans hx |>.sets (by simp; omega) _
      have d0 : W.cell? ⟨w.heap.size + 1 + 1, 0, none⟩ = some (.int .i64 1) := by rw [hW]; exact (cell_set_ne _ _ _ _ _ _ (by omega)).trans <| hx.cell ((Ext.alloc _ _).cell (cell_new3 w _ _ _ _ _ _ 0))
      have d1 : W.cell? ⟨w.heap.size + 1 + 1, 1, none⟩ = some (.int .i64 oe) := by rw [hW]; exact (cell_set_ne _ _ _ _ _ _ (by omega)).trans <| hx.cell ((Ext.alloc _ _).cell (cell_new3 w _ _ _ _ _ _ 1))
      have d2 : W.cell? ⟨w.heap.size + 1 + 1, 2, none⟩ = some (.int .i64 0) := by rw [hW]; exact (cell_set_ne _ _ _ _ _ _ (by omega)).trans <| hx.cell ((Ext.alloc _ _).cell (cell_new3 w _ _ _ _ _ _ 2))
      have d4 : W.cell? ⟨w.heap.size + 1 + 1, 4, none⟩ = some (.string ⟨#[]⟩) := by rw [hW]; exact (cell_set_ne _ _ _ _ _ _ (by omega)).trans <| hx.cell ((Ext.alloc _ _).cell (cell_new3 w _ _ _ _ _ _ 4))
      have g0 : W.cell? ⟨w.heap.size, 0, none⟩ = some (.int .i64 0) := by rw [hW]; exact (cell_set_ne _ _ _ _ _ _ (by omega)).trans <| hx.cell ((((Ext.alloc _ _).allocs _).allocs _).cell (cell_new w _ _ 0))
      have e0 : W.frozen? ⟨w.heap.size, 0, none⟩ = false := by rw [hW, World.frozen?_setCell]; exact hx.frozenF ((((Ext.alloc _ _).allocs _).allocs _).cell (cell_new w _ _ 0)) ((((Ext.alloc _ _).allocs _).allocs _).frozenF (cell_new w _ _ 0) (fr_new w _ _ 0))
      have p0 : W.cell? ⟨w.heap.size + 1, 0, none⟩ = some (.int .i64 0) := by rw [hW]; exact (cell_set_ne _ _ _ _ _ _ (by omega)).trans <| hx.cell (((Ext.alloc _ _).allocs _).cell (cell_new2 w _ _ _ _ 0))
      have g1 : W.cell? ⟨w.heap.size, 1, none⟩ = some (.int .i64 0) := by rw [hW]; exact (cell_set_ne _ _ _ _ _ _ (by omega)).trans <| hx.cell ((((Ext.alloc _ _).allocs _).allocs _).cell (cell_new w _ _ 1))
      have e1 : W.frozen? ⟨w.heap.size, 1, none⟩ = false := by rw [hW, World.frozen?_setCell]; exact hx.frozenF ((((Ext.alloc _ _).allocs _).allocs _).cell (cell_new w _ _ 1)) ((((Ext.alloc _ _).allocs _).allocs _).frozenF (cell_new w _ _ 1) (fr_new w _ _ 1))
      have p1 : W.cell? ⟨w.heap.size + 1, 1, none⟩ = some (.int .i64 0) := by rw [hW]; exact (cell_set_ne _ _ _ _ _ _ (by omega)).trans <| hx.cell (((Ext.alloc _ _).allocs _).cell (cell_new2 w _ _ _ _ 1))
      have g2 : W.cell? ⟨w.heap.size, 2, none⟩ = some (.int .i64 0) := by rw [hW]; exact (cell_set_ne _ _ _ _ _ _ (by omega)).trans <| hx.cell ((((Ext.alloc _ _).allocs _).allocs _).cell (cell_new w _ _ 2))
      have e2 : W.frozen? ⟨w.heap.size, 2, none⟩ = false := by rw [hW, World.frozen?_setCell]; exact hx.frozenF ((((Ext.alloc _ _).allocs _).allocs _).cell (cell_new w _ _ 2)) ((((Ext.alloc _ _).allocs _).allocs _).frozenF (cell_new w _ _ 2) (fr_new w _ _ 2))
      have p2 : W.cell? ⟨w.heap.size + 1, 2, none⟩ = some (.int .i64 0) := by rw [hW]; exact (cell_set_ne _ _ _ _ _ _ (by omega)).trans <| hx.cell (((Ext.alloc _ _).allocs _).cell (cell_new2 w _ _ _ _ 2))
      have g3 : W.cell? ⟨w.heap.size, 3, none⟩ = some (.slice none 0 0) := by rw [hW]; exact (cell_set_ne _ _ _ _ _ _ (by omega)).trans <| hx.cell ((((Ext.alloc _ _).allocs _).allocs _).cell (cell_new w _ _ 3))
      have e3 : W.frozen? ⟨w.heap.size, 3, none⟩ = false := by rw [hW, World.frozen?_setCell]; exact hx.frozenF ((((Ext.alloc _ _).allocs _).allocs _).cell (cell_new w _ _ 3)) ((((Ext.alloc _ _).allocs _).allocs _).frozenF (cell_new w _ _ 3) (fr_new w _ _ 3))
      have p3 : W.cell? ⟨w.heap.size + 1, 3, none⟩ = some (.slice none 0 0) := by rw [hW]; exact (cell_set_ne _ _ _ _ _ _ (by omega)).trans <| hx.cell (((Ext.alloc _ _).allocs _).cell (cell_new2 w _ _ _ _ 3))
      have g4 : W.cell? ⟨w.heap.size, 4, none⟩ = some (.string ⟨#[]⟩) := by rw [hW]; exact (cell_set_ne _ _ _ _ _ _ (by omega)).trans <| hx.cell ((((Ext.alloc _ _).allocs _).allocs _).cell (cell_new w _ _ 4))
      have e4 : W.frozen? ⟨w.heap.size, 4, none⟩ = false := by rw [hW, World.frozen?_setCell]; exact hx.frozenF ((((Ext.alloc _ _).allocs _).allocs _).cell (cell_new w _ _ 4)) ((((Ext.alloc _ _).allocs _).allocs _).frozenF (cell_new w _ _ 4) (fr_new w _ _ 4))
      have p4 : W.cell? ⟨w.heap.size + 1, 4, none⟩ = some (.string ⟨#[]⟩) := by rw [hW]; exact (cell_set_ne _ _ _ _ _ _ (by omega)).trans <| hx.cell (((Ext.alloc _ _).allocs _).cell (cell_new2 w _ _ _ _ 4))
      replace d3 : W.cell? ⟨w.heap.size + 1 + 1, 3, none⟩ = some (.slice A3 (n - q) c3) := by rw [hW]; exact World.cell?_setCell_same _ _ _ d3
      have hbyE : Byt U8 W (w.heap.size + 3) A3 (n - q) c3 le := by
        have h1 : Byt U8 w2 (w.heap.size + 3) A3 (n - q) c3 le := ⟨hs1.len, by simpa using hown⟩
        rw [hW]
        exact h1.far (fun g hg => by have := (h1.own.row_ge g hg).1; show g ≠ w.heap.size + 1 + 1; omega) _
      have hslE := hbyE.sl
      clear hown hg hx hW f3 dd0 dd1 dd2 dd4
      -- world W: the event's block at w.heap.size + 2; 1: k, o, m, its bytes A1 n1 c1 le, its text
      obtain ⟨r1, hr1⟩ : ∃ q, rightE 1 oe 0 (le).length ⟨#[]⟩ = q := ⟨_, rfl⟩
      obtain ⟨L2, hL2⟩ : ∃ q, (if r1 then putE 1 oe 0 le ⟨#[]⟩ else []) = q := ⟨_, rfl⟩
      rw [hslE.len] at hr1
      have HR1 := Lib.hid hr1
      have HL2 := Lib.hid hL2
      clear hr1 hL2
      refine (ref_PutEvent 1 oe 0 _ _ _ le ⟨#[]⟩ _ hslE hss HR1 HL2).mono ?_
      rintro e w3 ⟨A2, n2, c2, rfl, hb2, hx2⟩
      have hlt3 : w.heap.size + 1 + 1 < w3.heap.size := by have := hx2.size; omega
      have hx3 : Ext w w3 := hxW.trans hx2
      have hbE := hb.ext hx3
      replace d0 := hx2.cell d0
      replace e0 := hx2.frozenF g0 e0
      replace g0 := hx2.cell g0
      replace p0 := hx2.cell p0
      replace d1 := hx2.cell d1
      replace e1 := hx2.frozenF g1 e1
      replace g1 := hx2.cell g1
      replace p1 := hx2.cell p1
      replace d2 := hx2.cell d2
      replace e2 := hx2.frozenF g2 e2
      replace g2 := hx2.cell g2
      replace p2 := hx2.cell p2
      replace d3 := hx2.cell d3
      replace e3 := hx2.frozenF g3 e3
      replace g3 := hx2.cell g3
      replace p3 := hx2.cell p3
      replace d4 := hx2.cell d4
      replace e4 := hx2.frozenF g4 e4
      replace g4 := hx2.cell g4
      replace p4 := hx2.cell p4
      have HEV : Hid (r = (r1 && (L2 == b))) := by
        have h1 := HEV2.out
        rw [Bool.true_and, hslE.len, HR1.out] at h1
        have h2 := HL2.out
        unfold Hid
        rw [h1, ← h2]
        cases r1 <;> rfl
      have hbyW := hbyE.ext hx2
      clear hx2
      cases r1 with
      | false =>
        obtain rfl : r = false := by rw [HEV.out]; rfl
        obtain ⟨rfl, rfl, rfl, rfl, rfl⟩ := HGN.out rfl
        go_wp2_with fail
        refine bodyPost_ret (v := .tuple #[evV 0 0 0 none 0 0 ⟨#[]⟩, .int .i64 2]) (by simp [results, Try.results64, go_sem, g0, g1, g2, g3, g4]) rfl ⟨_, _, _, rfl, Byt.nil _ _ _ _, ?_⟩
        (repeat (first | (with_reducible exact Ext.refl _) | (with_reducible assumption) | (with_reducible refine Ext.draws ?_) | (with_reducible refine Ext.allocs ?_ _) | (with_reducible refine Ext.sets ?_ ?_ _) | (with_reducible exact Nat.le_refl _) | (exact (by simp)) | (exact (by simp; omega))))
      | true =>
        have t1 := run_text_u8 hb2.sl
        have t2 := run_text_u8 hbE
        by_cases hq : L2 = b
        · subst hq
          obtain rfl : r = true := by rw [HEV.out]; simp
          obtain ⟨jK, jO, jM, jL, jS⟩ := HGY.out rfl
          replace jK := jK.symm
          replace jO := jO.symm
          replace jM := jM.symm
          replace jL := jL.symm
          replace jS := jS.symm
          subst jK jO jM jL jS
          go_wp2_with fail
          refine bodyPost_ret (v := .tuple #[evV 1 oe 0 A3 (n - q) c3 ⟨#[]⟩, .int .i64 0]) (by simp [results, Try.results64, go_sem, g0, g1, g2, g3, g4]) rfl ⟨_, _, _, rfl, ?hsl, ?hxx⟩
          case hsl =>
            have hne : ∀ g, rowOf A3 c3 = some g → g ≠ w.heap.size := by
              intro g hg
              have := (hbyW.own.row_ge g hg).1
              omega
            have h4 := (((((hbyW.far (p := ⟨w.heap.size, 0, none⟩) (fun g hg => (hne g hg)) (.int .i64 1)).far (p := ⟨w.heap.size, 1, none⟩) (fun g hg => (hne g hg)) (.int .i64 oe)).far (p := ⟨w.heap.size, 2, none⟩) (fun g hg => (hne g hg)) (.int .i64 0)).far (p := ⟨w.heap.size, 3, none⟩) (fun g hg => (hne g hg)) (.slice A3 (n - q) c3)).far (p := ⟨w.heap.size, 4, none⟩) (fun g hg => (hne g hg)) (.string ⟨#[]⟩))
            exact h4.low (by omega)
          case hxx => (repeat (first | (with_reducible exact Ext.refl _) | (with_reducible assumption) | (with_reducible refine Ext.draws ?_) | (with_reducible refine Ext.allocs ?_ _) | (with_reducible refine Ext.sets ?_ ?_ _) | (with_reducible exact Nat.le_refl _) | (exact (by simp)) | (exact (by simp; omega))))
        · obtain rfl : r = false := by rw [HEV.out]; simpa using hq
          obtain ⟨rfl, rfl, rfl, rfl, rfl⟩ := HGN.out rfl
          have hq2 : (L2 == b) = false := by simpa using hq
          go_wp2_with fail
          refine bodyPost_ret (v := .tuple #[evV 0 0 0 none 0 0 ⟨#[]⟩, .int .i64 2]) (by simp [results, Try.results64, go_sem, g0, g1, g2, g3, g4]) rfl ⟨_, _, _, rfl, Byt.nil _ _ _ _, ?_⟩
          (repeat (first | (with_reducible exact Ext.refl _) | (with_reducible assumption) | (with_reducible refine Ext.draws ?_) | (with_reducible refine Ext.allocs ?_ _) | (with_reducible refine Ext.sets ?_ ?_ _) | (with_reducible exact Nat.le_refl _) | (exact (by simp)) | (exact (by simp; omega))))
  have q1 : (k == 1) = false := by simp; omega
  have q2 : (k == 2) = false := by simp; omega
  have q3 : (k == 3) = false := by simp; omega
  have q4 : (k == 4) = false := by simp; omega
  have q5 : (k == 5) = false := by simp; omega
  have q6 : (k == 6) = false := by simp; omega
  have q7 : (k == 7) = false := by simp; omega
  have q8 : (k == 8) = false := by simp; omega
  obtain rfl : pr = true := by rw [← HR.out, if_neg (by omega), if_neg (by omega)]
  obtain rfl : oe = 0 := by rw [← HO.out, if_neg (by omega)]
  obtain rfl : me = 0 := by rw [← HM.out, if_neg (by omega), if_neg (by omega)]
  obtain rfl : le = [] := by rw [← HL.out, if_neg (by omega)]
  obtain rfl : se = ⟨#[]⟩ := by rw [← HS.out, if_neg (by omega)]
  clear HR HO HM HL HS
  go_enter Try.func64, Try.ntmps64
  go_wp2_with fail
  -- the world under one name; #[.int .i64 k, .int .i64 0, .int .i64 0, .slice none 0 0, .string ⟨#[]⟩]: the event's cells
  obtain ⟨W, hW⟩ : ∃ W, W = ((w.alloc (.cells #[.int .i64 0, .int .i64 0, .int .i64 0, .slice none 0 0, .string ⟨#[]⟩] 63)).alloc (.cells #[.int .i64 0, .int .i64 0, .int .i64 0, .slice none 0 0, .string ⟨#[]⟩] 63)).alloc (.cells #[.int .i64 k, .int .i64 0, .int .i64 0, .slice none 0 0, .string ⟨#[]⟩] 63) := ⟨_, rfl⟩
  rw [← hW]
  have hWs : W.heap.size = w.heap.size + 3 := by rw [hW]; simp
  have hxW : Ext w W := by rw [hW]; (repeat (first | (with_reducible exact Ext.refl _) | (with_reducible assumption) | (with_reducible refine Ext.draws ?_) | (with_reducible refine Ext.allocs ?_ _) | (with_reducible refine Ext.sets ?_ ?_ _) | (with_reducible exact Nat.le_refl _) | (exact (by simp)) | (exact (by simp; omega))))
  have g0 : W.cell? ⟨w.heap.size, 0, none⟩ = some (.int .i64 0) := by rw [hW]; exact ((Ext.alloc _ _).trans (Ext.alloc _ _)).cell (cell_new w _ _ 0)
  have e0 : W.frozen? ⟨w.heap.size, 0, none⟩ = false := by rw [hW]; exact ((Ext.alloc _ _).trans (Ext.alloc _ _)).frozenF (cell_new w _ _ 0) (fr_new w _ _ 0)
  have p0 : W.cell? ⟨w.heap.size + 1, 0, none⟩ = some (.int .i64 0) := by rw [hW]; exact (Ext.alloc _ _).cell (cell_new2 w _ _ _ _ 0)
  have g1 : W.cell? ⟨w.heap.size, 1, none⟩ = some (.int .i64 0) := by rw [hW]; exact ((Ext.alloc _ _).trans (Ext.alloc _ _)).cell (cell_new w _ _ 1)
  have e1 : W.frozen? ⟨w.heap.size, 1, none⟩ = false := by rw [hW]; exact ((Ext.alloc _ _).trans (Ext.alloc _ _)).frozenF (cell_new w _ _ 1) (fr_new w _ _ 1)
  have p1 : W.cell? ⟨w.heap.size + 1, 1, none⟩ = some (.int .i64 0) := by rw [hW]; exact (Ext.alloc _ _).cell (cell_new2 w _ _ _ _ 1)
  have g2 : W.cell? ⟨w.heap.size, 2, none⟩ = some (.int .i64 0) := by rw [hW]; exact ((Ext.alloc _ _).trans (Ext.alloc _ _)).cell (cell_new w _ _ 2)
  have e2 : W.frozen? ⟨w.heap.size, 2, none⟩ = false := by rw [hW]; exact ((Ext.alloc _ _).trans (Ext.alloc _ _)).frozenF (cell_new w _ _ 2) (fr_new w _ _ 2)
  have p2 : W.cell? ⟨w.heap.size + 1, 2, none⟩ = some (.int .i64 0) := by rw [hW]; exact (Ext.alloc _ _).cell (cell_new2 w _ _ _ _ 2)
  have g3 : W.cell? ⟨w.heap.size, 3, none⟩ = some (.slice none 0 0) := by rw [hW]; exact ((Ext.alloc _ _).trans (Ext.alloc _ _)).cell (cell_new w _ _ 3)
  have e3 : W.frozen? ⟨w.heap.size, 3, none⟩ = false := by rw [hW]; exact ((Ext.alloc _ _).trans (Ext.alloc _ _)).frozenF (cell_new w _ _ 3) (fr_new w _ _ 3)
  have p3 : W.cell? ⟨w.heap.size + 1, 3, none⟩ = some (.slice none 0 0) := by rw [hW]; exact (Ext.alloc _ _).cell (cell_new2 w _ _ _ _ 3)
  have g4 : W.cell? ⟨w.heap.size, 4, none⟩ = some (.string ⟨#[]⟩) := by rw [hW]; exact ((Ext.alloc _ _).trans (Ext.alloc _ _)).cell (cell_new w _ _ 4)
  have e4 : W.frozen? ⟨w.heap.size, 4, none⟩ = false := by rw [hW]; exact ((Ext.alloc _ _).trans (Ext.alloc _ _)).frozenF (cell_new w _ _ 4) (fr_new w _ _ 4)
  have p4 : W.cell? ⟨w.heap.size + 1, 4, none⟩ = some (.string ⟨#[]⟩) := by rw [hW]; exact (Ext.alloc _ _).cell (cell_new2 w _ _ _ _ 4)
  have d0 : W.cell? ⟨w.heap.size + 1 + 1, 0, none⟩ = some (.int .i64 k) := by rw [hW]; exact cell_new3 w _ _ _ _ _ _ 0
  have d1 : W.cell? ⟨w.heap.size + 1 + 1, 1, none⟩ = some (.int .i64 0) := by rw [hW]; exact cell_new3 w _ _ _ _ _ _ 1
  have d2 : W.cell? ⟨w.heap.size + 1 + 1, 2, none⟩ = some (.int .i64 0) := by rw [hW]; exact cell_new3 w _ _ _ _ _ _ 2
  have d3 : W.cell? ⟨w.heap.size + 1 + 1, 3, none⟩ = some (.slice none 0 0) := by rw [hW]; exact cell_new3 w _ _ _ _ _ _ 3
  have d4 : W.cell? ⟨w.heap.size + 1 + 1, 4, none⟩ = some (.string ⟨#[]⟩) := by rw [hW]; exact cell_new3 w _ _ _ _ _ _ 4
  clear hW
  -- the event has no bytes
  have hbyE : Byt U8 W (w.heap.size + 1) none 0 0 [] := Byt.nil _ _ _ _
  have hslE := hbyE.sl
  -- world W: the event's block at w.heap.size + 2; k: k, o, m, its bytes A1 n1 c1 le, its text
  obtain ⟨r1, hr1⟩ : ∃ q, rightE k 0 0 (([] : List UInt8)).length ⟨#[]⟩ = q := ⟨_, rfl⟩
  obtain ⟨L2, hL2⟩ : ∃ q, (if r1 then putE k 0 0 ([] : List UInt8) ⟨#[]⟩ else []) = q := ⟨_, rfl⟩
  rw [hslE.len] at hr1
  have HR1 := Lib.hid hr1
  have HL2 := Lib.hid hL2
  clear hr1 hL2
  refine (ref_PutEvent k 0 0 _ _ _ ([] : List UInt8) ⟨#[]⟩ _ hslE hss HR1 HL2).mono ?_
  rintro e w3 ⟨A2, n2, c2, rfl, hb2, hx2⟩
  have hlt3 : w.heap.size + 1 + 1 < w3.heap.size := by have := hx2.size; omega
  have hx3 : Ext w w3 := hxW.trans hx2
  have hbE := hb.ext hx3
  replace d0 := hx2.cell d0
  replace e0 := hx2.frozenF g0 e0
  replace g0 := hx2.cell g0
  replace p0 := hx2.cell p0
  replace d1 := hx2.cell d1
  replace e1 := hx2.frozenF g1 e1
  replace g1 := hx2.cell g1
  replace p1 := hx2.cell p1
  replace d2 := hx2.cell d2
  replace e2 := hx2.frozenF g2 e2
  replace g2 := hx2.cell g2
  replace p2 := hx2.cell p2
  replace d3 := hx2.cell d3
  replace e3 := hx2.frozenF g3 e3
  replace g3 := hx2.cell g3
  replace p3 := hx2.cell p3
  replace d4 := hx2.cell d4
  replace e4 := hx2.frozenF g4 e4
  replace g4 := hx2.cell g4
  replace p4 := hx2.cell p4
  have HEV : Hid (r = (r1 && (L2 == b))) := by
    have h1 := HEV2.out
    rw [Bool.true_and, hslE.len, HR1.out] at h1
    have h2 := HL2.out
    unfold Hid
    rw [h1, ← h2]
    cases r1 <;> rfl
  have hbyW := hbyE.ext hx2
  clear hx2
  cases r1 with
  | false =>
    obtain rfl : r = false := by rw [HEV.out]; rfl
    obtain ⟨rfl, rfl, rfl, rfl, rfl⟩ := HGN.out rfl
    go_wp2_with fail
    refine bodyPost_ret (v := .tuple #[evV 0 0 0 none 0 0 ⟨#[]⟩, .int .i64 2]) (by simp [results, Try.results64, go_sem, g0, g1, g2, g3, g4]) rfl ⟨_, _, _, rfl, Byt.nil _ _ _ _, ?_⟩
    (repeat (first | (with_reducible exact Ext.refl _) | (with_reducible assumption) | (with_reducible refine Ext.draws ?_) | (with_reducible refine Ext.allocs ?_ _) | (with_reducible refine Ext.sets ?_ ?_ _) | (with_reducible exact Nat.le_refl _) | (exact (by simp)) | (exact (by simp; omega))))
  | true =>
    have t1 := run_text_u8 hb2.sl
    have t2 := run_text_u8 hbE
    by_cases hq : L2 = b
    · subst hq
      obtain rfl : r = true := by rw [HEV.out]; simp
      obtain ⟨jK, jO, jM, jL, jS⟩ := HGY.out rfl
      replace jK := jK.symm
      replace jO := jO.symm
      replace jM := jM.symm
      replace jL := jL.symm
      replace jS := jS.symm
      subst jK jO jM jL jS
      go_wp2_with fail
      refine bodyPost_ret (v := .tuple #[evV k 0 0 none 0 0 ⟨#[]⟩, .int .i64 0]) (by simp [results, Try.results64, go_sem, g0, g1, g2, g3, g4]) rfl ⟨_, _, _, rfl, ?hsl, ?hxx⟩
      case hsl =>
        have hne : ∀ g, rowOf none 0 = some g → g ≠ w.heap.size := by
          intro g hg
          have := (hbyW.own.row_ge g hg).1
          omega
        have h4 := (((((hbyW.far (p := ⟨w.heap.size, 0, none⟩) (fun g hg => (hne g hg)) (.int .i64 k)).far (p := ⟨w.heap.size, 1, none⟩) (fun g hg => (hne g hg)) (.int .i64 0)).far (p := ⟨w.heap.size, 2, none⟩) (fun g hg => (hne g hg)) (.int .i64 0)).far (p := ⟨w.heap.size, 3, none⟩) (fun g hg => (hne g hg)) (.slice none 0 0)).far (p := ⟨w.heap.size, 4, none⟩) (fun g hg => (hne g hg)) (.string ⟨#[]⟩))
        exact h4.low (by omega)
      case hxx => (repeat (first | (with_reducible exact Ext.refl _) | (with_reducible assumption) | (with_reducible refine Ext.draws ?_) | (with_reducible refine Ext.allocs ?_ _) | (with_reducible refine Ext.sets ?_ ?_ _) | (with_reducible exact Nat.le_refl _) | (exact (by simp)) | (exact (by simp; omega))))
    · obtain rfl : r = false := by rw [HEV.out]; simpa using hq
      obtain ⟨rfl, rfl, rfl, rfl, rfl⟩ := HGN.out rfl
      have hq2 : (L2 == b) = false := by simpa using hq
      go_wp2_with fail
      refine bodyPost_ret (v := .tuple #[evV 0 0 0 none 0 0 ⟨#[]⟩, .int .i64 2]) (by simp [results, Try.results64, go_sem, g0, g1, g2, g3, g4]) rfl ⟨_, _, _, rfl, Byt.nil _ _ _ _, ?_⟩
      (repeat (first | (with_reducible exact Ext.refl _) | (with_reducible assumption) | (with_reducible refine Ext.draws ?_) | (with_reducible refine Ext.allocs ?_ _) | (with_reducible refine Ext.sets ?_ ?_ _) | (with_reducible exact Nat.le_refl _) | (exact (by simp)) | (exact (by simp; omega))))
end Go.Proofs.Ytkoknleopmlhcaa
