/-
  Frames: contracts of the program's Take and of the reference's TakeFrame.
-/
import Derived.Test.YtoeknbogaclfdaaZFrame
import Derived.Test.YtoeknbogaclfdaaZCore
namespace Go.Proofs.Ytoeknbogaclfdaa
open Go.RowKit
set_option linter.unusedVariables false
set_option linter.unusedSimpArgs false
set_option linter.unnecessarySimpa false
set_option maxRecDepth 100000
def tkA (b : List UInt8) (a : Int) : Nat × Nat × List UInt8 × Int × Nat :=
  if a < 0 ∨ (b.length : Int) < a then (0, 0, [], 0, 3)
  else if tkE (b.drop a.toNat) = 0 then (tkT (b.drop a.toNat), tkS (b.drop a.toNat), tkD (b.drop a.toNat), a + tkN (b.drop a.toNat) + 22, 0)
  else (0, 0, [], 0, tkE (b.drop a.toNat))
theorem fr_newF (w : World) (cs : Array Value) (e : TypeId) (j : Nat) : (w.alloc (.cells cs e)).frozen? ⟨w.heap.size, j, none⟩ = false := by
  unfold World.frozen?
  simp only [heap_alloc_new]
  simp
theorem Ext.frozenG {a b : World} (h : Ext a b) {p : Addr} {u : Value} (hc : a.cell? p = some u) (hf : a.frozen? p = false) : b.frozen? p = false := by
  rw [Below.frozen h (World.block_lt_of_cell? a p hc)]
  exact hf
set_option maxHeartbeats 1000000 in
theorem frame_Take {A : Option Addr} {n c : Nat} {b : List UInt8} {a : Int} {w : World} (hb : Sl w A n c b) (hn6 : n ≤ 1000000) {T S : Nat} {D : List UInt8} {nx : Int} {er : Nat} (h0 : Hid (tkA b a = (T, S, D, nx, er))) :
    Calls Try.prog 107 #[.slice A n c, .int .i64 a] w fun e w' => ∃ A' n' c', e = .returned (.tuple #[enV T S A' n' c', .int .i64 nx, .int .i64 er]) ∧ Fsl w' (w.heap.size + 1) A' n' c' D ∧ Ext w w' := by
  have hbl := hb.len
  have h63 := hb.n63
  by_cases ha : a < 0 ∨ (n : Int) < a
  · have h1 := h0.out
    unfold tkA at h1
    rw [hbl, if_pos ha] at h1
    simp only [Prod.mk.injEq] at h1
    obtain ⟨rfl, rfl, rfl, rfl, rfl⟩ := h1
    clear h0
    rcases ha with ha | ha
    · go_enter Try.func107, Try.ntmps107
      go_wp2_with fail
      refine bodyPost_ret (v := .tuple #[enV 0 0 none 0 0, .int .i64 0, .int .i64 3]) (by simp [results, Try.results107, go_sem]) rfl ⟨_, _, _, rfl, Fsl.nil _ _, ?_⟩
      (repeat (first | (with_reducible exact Ext.refl _) | (with_reducible assumption) | (with_reducible refine Ext.draws ?_) | (with_reducible refine Ext.allocs ?_ _) | (with_reducible refine Ext.sets ?_ ?_ _) | (with_reducible exact Nat.le_refl _) | (exact (by simp)) | (exact (by simp; omega))))
    · have ha2 : ¬ a < 0 := by omega
      go_enter Try.func107, Try.ntmps107
      go_wp2_with fail
      refine bodyPost_ret (v := .tuple #[enV 0 0 none 0 0, .int .i64 0, .int .i64 3]) (by simp [results, Try.results107, go_sem]) rfl ⟨_, _, _, rfl, Fsl.nil _ _, ?_⟩
      (repeat (first | (with_reducible exact Ext.refl _) | (with_reducible assumption) | (with_reducible refine Ext.draws ?_) | (with_reducible refine Ext.allocs ?_ _) | (with_reducible refine Ext.sets ?_ ?_ _) | (with_reducible exact Nat.le_refl _) | (exact (by simp)) | (exact (by simp; omega))))
  obtain ⟨k, rfl⟩ := Int.eq_ofNat_of_zero_le (by omega : 0 ≤ a)
  obtain ⟨m, hkm⟩ : ∃ m, k + m = n := ⟨n - k, by omega⟩
  have hka : ¬ ((k : Int) < 0) := by omega
  have hkb : decide (n < k) = false := by simp; omega
  obtain ⟨A1, c1, hcut, hs1⟩ := cut_from hb k m (k : Int) rfl hkm
  have h1 : (if tkE (b.drop k) = 0 then (tkT (b.drop k), tkS (b.drop k), tkD (b.drop k), (k : Int) + tkN (b.drop k) + 22, 0) else (0, 0, [], 0, tkE (b.drop k))) = (T, S, D, nx, er) := by
    have := h0.out
    unfold tkA at this
    rw [hbl, if_neg ha, Int.toNat_natCast] at this
    exact this
  obtain ⟨r, hr⟩ : ∃ r, b.drop k = r := ⟨_, rfl⟩
  rw [hr] at hs1 h1
  have hrl : r.length = m := hs1.len
  have hkn : k ≤ 1000000 := by omega
  have hmn : m ≤ 1000000 := by omega
  clear h0 ha hr hkm hbl hn6 h63 hb
  by_cases hm0 : m = 0
  · have e1 : tkE r = 4 := by unfold tkE; rw [hrl, if_pos hm0]
    rw [e1, if_neg (by omega)] at h1
    simp only [Prod.mk.injEq] at h1
    obtain ⟨rfl, rfl, rfl, rfl, rfl⟩ := h1
    subst hm0
    clear e1 hrl
    go_enter Try.func107, Try.ntmps107
    go_wp2_with fail
    refine bodyPost_ret (v := .tuple #[enV 0 0 none 0 0, .int .i64 0, .int .i64 4]) (by simp [results, Try.results107, go_sem]) rfl ⟨_, _, _, rfl, Fsl.nil _ _, ?_⟩
    (repeat (first | (with_reducible exact Ext.refl _) | (with_reducible assumption) | (with_reducible refine Ext.draws ?_) | (with_reducible refine Ext.allocs ?_ _) | (with_reducible refine Ext.sets ?_ ?_ _) | (with_reducible exact Nat.le_refl _) | (exact (by simp)) | (exact (by simp; omega))))
  have hmz : ((m : Int) == 0) = false := by simp; omega
  by_cases hm22 : m < 22
  · have e1 : tkE r = 2 := by unfold tkE; rw [hrl, if_neg hm0, if_pos (.inl hm22)]
    rw [e1, if_neg (by omega)] at h1
    simp only [Prod.mk.injEq] at h1
    obtain ⟨rfl, rfl, rfl, rfl, rfl⟩ := h1
    clear e1 hrl
    go_enter Try.func107, Try.ntmps107
    go_wp2_with fail
    refine bodyPost_ret (v := .tuple #[enV 0 0 none 0 0, .int .i64 0, .int .i64 2]) (by simp [results, Try.results107, go_sem]) rfl ⟨_, _, _, rfl, Fsl.nil _ _, ?_⟩
    (repeat (first | (with_reducible exact Ext.refl _) | (with_reducible assumption) | (with_reducible refine Ext.draws ?_) | (with_reducible refine Ext.allocs ?_ _) | (with_reducible refine Ext.sets ?_ ?_ _) | (with_reducible exact Nat.le_refl _) | (exact (by simp)) | (exact (by simp; omega))))
  obtain ⟨hcut4, hs4⟩ := cut_upto hs1 4 4 rfl (by omega)
  obtain ⟨g4, hg4⟩ : ∃ q, r.take 4 = q := ⟨_, rfl⟩
  rw [hg4] at hs4
  have t4 := run_text_u8 (hs4.ext (Ext.alloc w (.cells #[.int .i64 0, .int .i64 0, .slice none 0 0] 71)))
  by_cases hmag : g4 = magicL
  case neg =>
    have e1 : tkE r = 2 := by unfold tkE; rw [hrl, if_neg hm0, if_pos (.inr (by rw [hg4]; exact hmag))]
    rw [e1, if_neg (by omega)] at h1
    simp only [Prod.mk.injEq] at h1
    obtain ⟨rfl, rfl, rfl, rfl, rfl⟩ := h1
    have hmag2 : (g4 == [72, 71, 74, 69]) = false := by simpa [magicL] using hmag
    clear e1 hrl hmag hg4
    go_enter Try.func107, Try.ntmps107
    go_wp2_with fail
    refine bodyPost_ret (v := .tuple #[enV 0 0 none 0 0, .int .i64 0, .int .i64 2]) (by simp [results, Try.results107, go_sem]) rfl ⟨_, _, _, rfl, Fsl.nil _ _, ?_⟩
    (repeat (first | (with_reducible exact Ext.refl _) | (with_reducible assumption) | (with_reducible refine Ext.draws ?_) | (with_reducible refine Ext.allocs ?_ _) | (with_reducible refine Ext.sets ?_ ?_ _) | (with_reducible exact Nat.le_refl _) | (exact (by simp)) | (exact (by simp; omega))))
  subst hmag
  unfold magicL at t4 hg4
  obtain ⟨qt, hqt⟩ : ∃ q, tkT r = q := ⟨_, rfl⟩
  obtain ⟨qs, hqs⟩ : ∃ q, tkS r = q := ⟨_, rfl⟩
  obtain ⟨qn, hqn⟩ : ∃ q, tkN r = q := ⟨_, rfl⟩
  have hqnl : qn < 65536 := by rw [← hqn]; exact tkN_lt r
  have HT : Hid (unle ((r.drop 4).take 4) = qt) := hqt
  have HS : Hid (unle ((r.drop 8).take 8) = qs) := hqs
  have HN : Hid (unle ((r.drop 16).take 2) = qn) := hqn
  obtain ⟨my, hmy⟩ : ∃ q, rightN qt qs qn = q := ⟨_, rfl⟩
  have hfit : tkFit r = (my && decide (qn + 22 ≤ m)) := by unfold tkFit; rw [hqt, hqs, hqn, hmy, hrl]
  have hE0 : tkE r = if tkFit r = false then 2 else if tkSum r = false then 13 else 0 := by
    unfold tkE
    rw [hrl, if_neg hm0, if_neg (by rw [hg4]; unfold magicL; simp; omega)]
  have HMY := Lib.hid hmy
  by_cases hfb : tkFit r = false
  · have e1 : tkE r = 2 := by rw [hE0, if_pos hfb]
    rw [e1, if_neg (by omega)] at h1
    simp only [Prod.mk.injEq] at h1
    obtain ⟨rfl, rfl, rfl, rfl, rfl⟩ := h1
    have hszI : sizeI (qn : Int) = 22 + max 0 (min (qn : Int) 90) := rfl
    rw [hfb] at hfit
    cases my with
    | false =>
      clear e1 hE0 hfb hfit hqt hqs hqn hg4 hmy hszI hrl
      go_enter Try.func107, Try.ntmps107
      go_wp2_with fail
      refine (bits_Get_h (a := 4) (wd := 4) (hs1.ext (Ext.alloc _ _)) 4 4 rfl rfl (by omega) (by omega) (by omega) HT).mono ?_
      rintro e w1 ⟨rfl, rfl⟩
      go_wp2_with fail
      refine (bits_Get_h (a := 8) (wd := 8) (hs1.ext (Ext.alloc _ _)) 8 8 rfl rfl (by omega) (by omega) (by omega) HS).mono ?_
      rintro e w1 ⟨rfl, rfl⟩
      go_wp2_with fail
      refine (bits_Get_h (a := 16) (wd := 2) (hs1.ext (Ext.alloc _ _)) 16 2 rfl rfl (by omega) (by omega) (by omega) HN).mono ?_
      rintro e w1 ⟨rfl, rfl⟩
      go_wp2_with fail
      refine (frame_may qt qs qn _).mono ?_
      rintro e w1 ⟨rfl, rfl⟩
      rw [HMY.out]
      go_wp2_with fail
      refine bodyPost_ret (v := .tuple #[enV 0 0 none 0 0, .int .i64 0, .int .i64 2]) (by simp [results, Try.results107, go_sem]) rfl ⟨_, _, _, rfl, Fsl.nil _ _, ?_⟩
      (repeat (first | (with_reducible exact Ext.refl _) | (with_reducible assumption) | (with_reducible refine Ext.draws ?_) | (with_reducible refine Ext.allocs ?_ _) | (with_reducible refine Ext.sets ?_ ?_ _) | (with_reducible exact Nat.le_refl _) | (exact (by simp)) | (exact (by simp; omega))))
    | true =>
      have hq90 : qn ≤ 90 := (rightN_iff.1 hmy).2.2.2.2.2
      have hsz : sizeI (qn : Int) = 22 + (qn : Int) := by unfold sizeI; omega
      have HSZ := Lib.hid hsz
      have hlt : (m : Int) < 22 + (qn : Int) := by simp at hfit; omega
      clear e1 hE0 hfb hfit hqt hqs hqn hg4 hmy hszI hsz hrl
      go_enter Try.func107, Try.ntmps107
      go_wp2_with fail
      refine (bits_Get_h (a := 4) (wd := 4) (hs1.ext (Ext.alloc _ _)) 4 4 rfl rfl (by omega) (by omega) (by omega) HT).mono ?_
      rintro e w1 ⟨rfl, rfl⟩
      go_wp2_with fail
      refine (bits_Get_h (a := 8) (wd := 8) (hs1.ext (Ext.alloc _ _)) 8 8 rfl rfl (by omega) (by omega) (by omega) HS).mono ?_
      rintro e w1 ⟨rfl, rfl⟩
      go_wp2_with fail
      refine (bits_Get_h (a := 16) (wd := 2) (hs1.ext (Ext.alloc _ _)) 16 2 rfl rfl (by omega) (by omega) (by omega) HN).mono ?_
      rintro e w1 ⟨rfl, rfl⟩
      go_wp2_with fail
      refine (frame_may qt qs qn _).mono ?_
      rintro e w1 ⟨rfl, rfl⟩
      rw [HMY.out]
      go_wp2_with fail
      refine (frame_Size qn _).mono ?_
      rintro e w1 ⟨rfl, rfl⟩
      rw [HSZ.out]
      go_wp2_with fail
      refine bodyPost_ret (v := .tuple #[enV 0 0 none 0 0, .int .i64 0, .int .i64 2]) (by simp [results, Try.results107, go_sem]) rfl ⟨_, _, _, rfl, Fsl.nil _ _, ?_⟩
      (repeat (first | (with_reducible exact Ext.refl _) | (with_reducible assumption) | (with_reducible refine Ext.draws ?_) | (with_reducible refine Ext.allocs ?_ _) | (with_reducible refine Ext.sets ?_ ?_ _) | (with_reducible exact Nat.le_refl _) | (exact (by simp)) | (exact (by simp; omega))))
  have hfy : tkFit r = true := by simpa using hfb
  rw [hfy] at hfit
  have hmyt : my = true := by cases my with | true => rfl | false => simp at hfit
  subst hmyt
  have hq := rightN_iff.1 hmy
  have hq90 : qn ≤ 90 := hq.2.2.2.2.2
  have hqt30 : qt ≤ 1073741824 := by omega
  have hqs40 : qs ≤ 1099511627776 := by omega
  have hfm : qn + 22 ≤ m := by simpa using hfit.symm
  obtain ⟨sm, hsm⟩ : ∃ q, tkSum r = q := ⟨_, rfl⟩
  obtain ⟨qc, hqc⟩ : ∃ q, unle ((r.drop (18 + qn)).take 4) = q := ⟨_, rfl⟩
  obtain ⟨qk, hqk⟩ : ∃ q, crcOf (r.take (18 + qn)) = q := ⟨_, rfl⟩
  have hsmE : sm = decide (qc = qk) := by rw [← hsm]; unfold tkSum; rw [hqn, hqc, hqk]
  have HC := Lib.hid hqc
  have HK := Lib.hid hqk
  have hqkl : qk < 4294967296 := by rw [← hqk]; exact crcOf_lt _
  have hsz : sizeI (qn : Int) = 22 + (qn : Int) := by unfold sizeI; omega
  have HSZ := Lib.hid hsz
  have hnl : ¬ ((m : Int) < 22 + (qn : Int)) := by omega
  obtain ⟨hcutE, hsE⟩ := cut_upto hs1 (18 + qn) (18 + (qn : Int)) (by omega) (by omega)
  have hE1 : tkE r = if sm then 0 else 13 := by rw [hE0, hfy, if_neg (by simp), hsm]; cases sm <;> rfl
  have hqnD : tkD r = (r.drop 18).take qn := by unfold tkD; rw [hqn]
  obtain ⟨A6, c6, hcut6, hs6⟩ := cut_mid hs1 18 qn 18 (18 + (qn : Int)) rfl (by omega) (by omega)
  rw [hqt, hqs, hqnD, hqn, hE1] at h1
  clear hE0 hE1 hfb hfy hfit hqt hqs hqn hg4 hmy hsz hrl hsm hq hqc hqk hqnD
  go_enter Try.func107, Try.ntmps107
  go_wp2_with fail
  refine (bits_Get_h (a := 4) (wd := 4) (hs1.ext (Ext.alloc _ _)) 4 4 rfl rfl (by omega) (by omega) (by omega) HT).mono ?_
  rintro e w1 ⟨rfl, rfl⟩
  go_wp2_with fail
  refine (bits_Get_h (a := 8) (wd := 8) (hs1.ext (Ext.alloc _ _)) 8 8 rfl rfl (by omega) (by omega) (by omega) HS).mono ?_
  rintro e w1 ⟨rfl, rfl⟩
  go_wp2_with fail
  refine (bits_Get_h (a := 16) (wd := 2) (hs1.ext (Ext.alloc _ _)) 16 2 rfl rfl (by omega) (by omega) (by omega) HN).mono ?_
  rintro e w1 ⟨rfl, rfl⟩
  go_wp2_with fail
  refine (frame_may qt qs qn _).mono ?_
  rintro e w1 ⟨rfl, rfl⟩
  rw [HMY.out]
  go_wp2_with fail
  refine (frame_Size qn _).mono ?_
  rintro e w1 ⟨rfl, rfl⟩
  rw [HSZ.out]
  go_wp2_with fail
  refine (bits_Get_h (a := 18 + qn) (wd := 4) (hs1.ext (Ext.alloc _ _)) _ _ (by omega) rfl (by omega) (by omega) (by omega) HC).mono ?_
  rintro e w1 ⟨rfl, rfl⟩
  go_wp2_with fail
  refine (crc_Of' (hsE.ext (Ext.alloc _ _)) HK).mono ?_
  rintro e w1 ⟨rfl, rfl⟩
  by_cases hck : qc = qk
  · have hst : sm = true := by rw [hsmE]; simp [hck]
    rw [hst, if_pos rfl, if_pos rfl] at h1
    simp only [Prod.mk.injEq] at h1
    obtain ⟨rfl, rfl, hD, rfl, rfl⟩ := h1
    rw [hD] at hs6
    subst hck
    clear hsmE hst hD HC HK HT HS HN
    go_wp2_with fail
    refine (slices_Clone A6 qn c6 _ _ (hs6.ext (Ext.alloc _ _)) (by omega)).mono ?_
    rintro e w2 ⟨A7, c7, rfl, h7, hx7⟩
    have hlt : w.heap.size < w2.heap.size := by have := hx7.size; simp at this; omega
    have g0 : w2.cell? ⟨w.heap.size, 0, none⟩ = some (.int .i64 0) := hx7.cell (cell_newF w _ _ 0)
    have e0 : w2.frozen? ⟨w.heap.size, 0, none⟩ = false := hx7.frozenG (cell_newF w _ _ 0) (fr_newF w _ _ 0)
    have g1 : w2.cell? ⟨w.heap.size, 1, none⟩ = some (.int .i64 0) := hx7.cell (cell_newF w _ _ 1)
    have e1 : w2.frozen? ⟨w.heap.size, 1, none⟩ = false := hx7.frozenG (cell_newF w _ _ 1) (fr_newF w _ _ 1)
    have g2 : w2.cell? ⟨w.heap.size, 2, none⟩ = some (.slice none 0 0) := hx7.cell (cell_newF w _ _ 2)
    have e2 : w2.frozen? ⟨w.heap.size, 2, none⟩ = false := hx7.frozenG (cell_newF w _ _ 2) (fr_newF w _ _ 2)
    have hx8 : Ext w w2 := (Ext.alloc w _).trans hx7
    clear hx7
    go_wp2_with fail
    refine bodyPost_ret (v := .tuple #[enV qt qs A7 qn c7, .int .i64 ((k : Int) + qn + 22), .int .i64 0]) ?hres rfl ⟨_, _, _, rfl, ?hsl, ?hxx⟩
    case hres =>
      simp [results, Try.results107, go_sem, g0, g1, g2]
      omega
    case hsl => exact ((h7.fsl.sets (by simp) _).sets (by simp) _).sets (by simp) _ |>.low (by simp)
    case hxx => (repeat (first | (with_reducible exact Ext.refl _) | (with_reducible assumption) | (with_reducible refine Ext.draws ?_) | (with_reducible refine Ext.allocs ?_ _) | (with_reducible refine Ext.sets ?_ ?_ _) | (with_reducible exact Nat.le_refl _) | (exact (by simp)) | (exact (by simp; omega))))
  · have hsf : sm = false := by rw [hsmE]; simp [hck]
    rw [hsf] at h1
    simp at h1
    obtain ⟨rfl, rfl, rfl, rfl, rfl⟩ := h1
    have hneq : ((qc : Int) != (qk : Int)) = true := by simp; omega
    clear hsmE hsf HC HK HT HS HN
    go_wp2_with fail
    refine bodyPost_ret (v := .tuple #[enV 0 0 none 0 0, .int .i64 0, .int .i64 13]) (by simp [results, Try.results107, go_sem]) rfl ⟨_, _, _, rfl, Fsl.nil _ _, ?_⟩
    (repeat (first | (with_reducible exact Ext.refl _) | (with_reducible assumption) | (with_reducible refine Ext.draws ?_) | (with_reducible refine Ext.allocs ?_ _) | (with_reducible refine Ext.sets ?_ ?_ _) | (with_reducible exact Nat.le_refl _) | (exact (by simp)) | (exact (by simp; omega))))
set_option maxHeartbeats 1000000 in
theorem ref_TakeFrame {A : Option Addr} {n c : Nat} {b : List UInt8} {a : Int} {w : World} (hb : Sl w A n c b) (hn6 : n ≤ 1000000) {T S : Nat} {D : List UInt8} {nx : Int} {er : Nat} (h0 : Hid (tkA b a = (T, S, D, nx, er))) :
    Calls Try.prog 101 #[.slice A n c, .int .i64 a] w fun e w' => ∃ A' n' c', e = .returned (.tuple #[enV T S A' n' c', .int .i64 nx, .int .i64 er]) ∧ Fsl w' (w.heap.size + 1) A' n' c' D ∧ Ext w w' := by
  have hbl := hb.len
  have h63 := hb.n63
  by_cases ha : a < 0 ∨ (n : Int) < a
  · have h1 := h0.out
    unfold tkA at h1
    rw [hbl, if_pos ha] at h1
    simp only [Prod.mk.injEq] at h1
    obtain ⟨rfl, rfl, rfl, rfl, rfl⟩ := h1
    clear h0
    rcases ha with ha | ha
    · skip
      go_enter Try.func101, Try.ntmps101
      go_wp2_with fail
      refine bodyPost_ret (v := .tuple #[enV 0 0 none 0 0, .int .i64 0, .int .i64 3]) (by simp [results, Try.results101, go_sem]) rfl ⟨_, _, _, rfl, Fsl.nil _ _, ?_⟩
      (repeat (first | (with_reducible exact Ext.refl _) | (with_reducible assumption) | (with_reducible refine Ext.draws ?_) | (with_reducible refine Ext.allocs ?_ _) | (with_reducible refine Ext.sets ?_ ?_ _) | (with_reducible exact Nat.le_refl _) | (exact (by simp)) | (exact (by simp; omega))))
    · have ha2 : ¬ a < 0 := by omega
      go_enter Try.func101, Try.ntmps101
      go_wp2_with fail
      refine bodyPost_ret (v := .tuple #[enV 0 0 none 0 0, .int .i64 0, .int .i64 3]) (by simp [results, Try.results101, go_sem]) rfl ⟨_, _, _, rfl, Fsl.nil _ _, ?_⟩
      (repeat (first | (with_reducible exact Ext.refl _) | (with_reducible assumption) | (with_reducible refine Ext.draws ?_) | (with_reducible refine Ext.allocs ?_ _) | (with_reducible refine Ext.sets ?_ ?_ _) | (with_reducible exact Nat.le_refl _) | (exact (by simp)) | (exact (by simp; omega))))
  obtain ⟨k, rfl⟩ := Int.eq_ofNat_of_zero_le (by omega : 0 ≤ a)
  obtain ⟨m, hkm⟩ : ∃ m, k + m = n := ⟨n - k, by omega⟩
  have hka : ¬ ((k : Int) < 0) := by omega
  have hkb : decide (n < k) = false := by simp; omega
  have h1 : (if tkE (b.drop k) = 0 then (tkT (b.drop k), tkS (b.drop k), tkD (b.drop k), (k : Int) + tkN (b.drop k) + 22, 0) else (0, 0, [], 0, tkE (b.drop k))) = (T, S, D, nx, er) := by
    have := h0.out
    unfold tkA at this
    rw [hbl, if_neg ha, Int.toNat_natCast] at this
    exact this
  obtain ⟨r, hr⟩ : ∃ r, b.drop k = r := ⟨_, rfl⟩
  rw [hr] at h1
  have hrl : r.length = m := by rw [← hr, List.length_drop, hbl]; omega
  have hkn : k ≤ n := by omega
  have HKM := Lib.hid hkm
  clear h0 ha hbl hkm
  by_cases hm0 : m = 0
  · have e1 : tkE r = 4 := by unfold tkE; rw [hrl, if_pos hm0]
    rw [e1, if_neg (by omega)] at h1
    simp only [Prod.mk.injEq] at h1
    obtain ⟨rfl, rfl, rfl, rfl, rfl⟩ := h1
    obtain rfl : k = n := by have := HKM.out; omega
    clear e1 hrl
    go_enter Try.func101, Try.ntmps101
    go_wp2_with fail
    refine bodyPost_ret (v := .tuple #[enV 0 0 none 0 0, .int .i64 0, .int .i64 4]) (by simp [results, Try.results101, go_sem]) rfl ⟨_, _, _, rfl, Fsl.nil _ _, ?_⟩
    (repeat (first | (with_reducible exact Ext.refl _) | (with_reducible assumption) | (with_reducible refine Ext.draws ?_) | (with_reducible refine Ext.allocs ?_ _) | (with_reducible refine Ext.sets ?_ ?_ _) | (with_reducible exact Nat.le_refl _) | (exact (by simp)) | (exact (by simp; omega))))
  have hmz : ((k : Int) == (n : Int)) = false := by have := HKM.out; simp; omega
  by_cases hm22 : m < 22
  · have e1 : tkE r = 2 := by unfold tkE; rw [hrl, if_neg hm0, if_pos (.inl hm22)]
    rw [e1, if_neg (by omega)] at h1
    simp only [Prod.mk.injEq] at h1
    obtain ⟨rfl, rfl, rfl, rfl, rfl⟩ := h1
    have hm2 : (n : Int) - (k : Int) < 22 := by have := HKM.out; omega
    clear e1 hrl
    go_enter Try.func101, Try.ntmps101
    go_wp2_with fail
    refine bodyPost_ret (v := .tuple #[enV 0 0 none 0 0, .int .i64 0, .int .i64 2]) (by simp [results, Try.results101, go_sem]) rfl ⟨_, _, _, rfl, Fsl.nil _ _, ?_⟩
    (repeat (first | (with_reducible exact Ext.refl _) | (with_reducible assumption) | (with_reducible refine Ext.draws ?_) | (with_reducible refine Ext.allocs ?_ _) | (with_reducible refine Ext.sets ?_ ?_ _) | (with_reducible exact Nat.le_refl _) | (exact (by simp)) | (exact (by simp; omega))))
  have hm2 : ¬ ((n : Int) - (k : Int) < 22) := by have := HKM.out; omega
  obtain ⟨A4, c4, hcut4, hs4⟩ := cut_mid hb k 4 (k : Int) ((k : Int) + 4) rfl (by omega) (by have := HKM.out; omega)
  obtain ⟨g4, hg4⟩ : ∃ q, r.take 4 = q := ⟨_, rfl⟩
  rw [hr, hg4] at hs4
  have t4 := run_text_u8 (hs4.ext ((Ext.alloc w (.cells #[.int .i64 0, .int .i64 0, .slice none 0 0] 71)).trans (Ext.alloc _ (.cells #[.int .i64 0, .int .i64 0, .slice none 0 0] 71))))
  by_cases hmag : g4 = magicL
  case neg =>
    have e1 : tkE r = 2 := by unfold tkE; rw [hrl, if_neg hm0, if_pos (.inr (by rw [hg4]; exact hmag))]
    rw [e1, if_neg (by omega)] at h1
    simp only [Prod.mk.injEq] at h1
    obtain ⟨rfl, rfl, rfl, rfl, rfl⟩ := h1
    have hmag2 : (g4 == [72, 71, 74, 69]) = false := by simpa [magicL] using hmag
    clear e1 hrl hmag hg4
    go_enter Try.func101, Try.ntmps101
    go_wp2_with fail
    refine bodyPost_ret (v := .tuple #[enV 0 0 none 0 0, .int .i64 0, .int .i64 2]) (by simp [results, Try.results101, go_sem]) rfl ⟨_, _, _, rfl, Fsl.nil _ _, ?_⟩
    (repeat (first | (with_reducible exact Ext.refl _) | (with_reducible assumption) | (with_reducible refine Ext.draws ?_) | (with_reducible refine Ext.allocs ?_ _) | (with_reducible refine Ext.sets ?_ ?_ _) | (with_reducible exact Nat.le_refl _) | (exact (by simp)) | (exact (by simp; omega))))
  subst hmag
  unfold magicL at t4 hg4
  obtain ⟨qt, hqt⟩ : ∃ q, tkT r = q := ⟨_, rfl⟩
  obtain ⟨qs, hqs⟩ : ∃ q, tkS r = q := ⟨_, rfl⟩
  obtain ⟨qn, hqn⟩ : ∃ q, tkN r = q := ⟨_, rfl⟩
  have hqnl : qn < 65536 := by rw [← hqn]; exact tkN_lt r
  have HT : Hid (unle ((b.drop (k + 4)).take 4) = qt) := by unfold Hid; rw [← List.drop_drop, hr]; exact hqt
  have HS : Hid (unle ((b.drop (k + 8)).take 8) = qs) := by unfold Hid; rw [← List.drop_drop, hr]; exact hqs
  have HN : Hid (unle ((b.drop (k + 16)).take 2) = qn) := by unfold Hid; rw [← List.drop_drop, hr]; exact hqn
  have hfit : tkFit r = true ↔ (1 ≤ (qt : Int) ∧ (qt : Int) ≤ 1073741824 ∧ 1 ≤ (qs : Int) ∧ (qs : Int) ≤ 1099511627776 ∧ 1 ≤ qn ∧ qn ≤ 90) ∧ qn + 22 ≤ m := by rw [tkFit_iff, rightN_iff, hqt, hqs, hqn, hrl]
  have hE0 : tkE r = if tkFit r = false then 2 else if tkSum r = false then 13 else 0 := by
    unfold tkE
    rw [hrl, if_neg hm0, if_neg (by rw [hg4]; unfold magicL; simp; omega)]
  have hkn22 : k + 22 ≤ n := by have := HKM.out; omega
  by_cases hfb : tkFit r = false
  · have e1 : tkE r = 2 := by rw [hE0, if_pos hfb]
    rw [e1, if_neg (by omega)] at h1
    simp only [Prod.mk.injEq] at h1
    obtain ⟨rfl, rfl, rfl, rfl, rfl⟩ := h1
    have hno : ¬ ((1 ≤ (qt : Int) ∧ (qt : Int) ≤ 1073741824 ∧ 1 ≤ (qs : Int) ∧ (qs : Int) ≤ 1099511627776 ∧ 1 ≤ qn ∧ qn ≤ 90) ∧ qn + 22 ≤ m) := fun h => by rw [hfit.2 h] at hfb; cases hfb
    have HNO := Lib.hid hno
    clear e1 hE0 hfb hfit hqt hqs hqn hg4 hno hrl hr
    go_enter Try.func101, Try.ntmps101
    go_wp2_with fail
    refine (ref_Get_h (a := k + 4) (wd := 4) (hb.ext ?hx) _ 4 (by omega) rfl (by omega) (by omega) (by omega) HT).mono ?_
    case hx => (repeat (first | (with_reducible exact Ext.refl _) | (with_reducible assumption) | (with_reducible refine Ext.draws ?_) | (with_reducible refine Ext.allocs ?_ _) | (with_reducible refine Ext.sets ?_ ?_ _) | (with_reducible exact Nat.le_refl _) | (exact (by simp)) | (exact (by simp; omega))))
    rintro e w1 ⟨rfl, rfl⟩
    go_wp2_with fail
    refine (ref_Get_h (a := k + 8) (wd := 8) (hb.ext ?hx) _ 8 (by omega) rfl (by omega) (by omega) (by omega) HS).mono ?_
    case hx => (repeat (first | (with_reducible exact Ext.refl _) | (with_reducible assumption) | (with_reducible refine Ext.draws ?_) | (with_reducible refine Ext.allocs ?_ _) | (with_reducible refine Ext.sets ?_ ?_ _) | (with_reducible exact Nat.le_refl _) | (exact (by simp)) | (exact (by simp; omega))))
    rintro e w1 ⟨rfl, rfl⟩
    go_wp2_with fail
    refine (ref_Get_h (a := k + 16) (wd := 2) (hb.ext ?hx) _ 2 (by omega) rfl (by omega) (by omega) (by omega) HN).mono ?_
    case hx => (repeat (first | (with_reducible exact Ext.refl _) | (with_reducible assumption) | (with_reducible refine Ext.draws ?_) | (with_reducible refine Ext.allocs ?_ _) | (with_reducible refine Ext.sets ?_ ?_ _) | (with_reducible exact Nat.le_refl _) | (exact (by simp)) | (exact (by simp; omega))))
    rintro e w1 ⟨rfl, rfl⟩
    go_wp2_with fail
    all_goals first
      | (exfalso; have z1 := HNO.out; have z2 := HKM.out; omega)
      | (refine bodyPost_ret (v := .tuple #[enV 0 0 none 0 0, .int .i64 0, .int .i64 2]) (by simp [results, Try.results101, go_sem]) rfl ⟨_, _, _, rfl, Fsl.nil _ _, ?_⟩
         (repeat (first | (with_reducible exact Ext.refl _) | (with_reducible assumption) | (with_reducible refine Ext.draws ?_) | (with_reducible refine Ext.allocs ?_ _) | (with_reducible refine Ext.sets ?_ ?_ _) | (with_reducible exact Nat.le_refl _) | (exact (by simp)) | (exact (by simp; omega)))))
  have hfy : tkFit r = true := by simpa using hfb
  obtain ⟨⟨b1, b2, b3, b4, b5, b6⟩, b7⟩ := hfit.1 hfy
  have hqt1 : 1 ≤ qt := by omega
  have hqs1 : 1 ≤ qs := by omega
  have hqt30 : qt ≤ 1073741824 := by omega
  have hqs40 : qs ≤ 1099511627776 := by omega
  have hlen : ¬ ((n : Int) - (k : Int) < (qn : Int) + 22) := by have := HKM.out; omega
  obtain ⟨A5, c5, hcut5, hs5⟩ := cut_mid hb k (qn + 22) (k : Int) ((k : Int) + (qn : Int) + 22) rfl (by omega) (by have := HKM.out; omega)
  rw [hr] at hs5
  obtain ⟨sm, hsm⟩ : ∃ q, tkSum r = q := ⟨_, rfl⟩
  have HO : Hid (crcOpen (r.take (qn + 22)) = if sm then some (r.take (18 + qn)) else none) := by
    unfold Hid
    have := open_sum (r := r) (by rw [hqn, hrl]; exact b7)
    rwa [hqn, hsm] at this
  have hE1 : tkE r = if sm then 0 else 13 := by rw [hE0, hfy, if_neg (by simp), hsm]; cases sm <;> rfl
  have hqnD : tkD r = (r.drop 18).take qn := by unfold tkD; rw [hqn]
  rw [hqt, hqs, hqnD, hqn, hE1] at h1
  have hkn3 : k + qn + 22 ≤ n := by have := HKM.out; omega
  clear hE0 hE1 hfb hfy hfit hqt hqs hqn hg4 hsm hqnD hr b1 b2 b3 b4
  go_enter Try.func101, Try.ntmps101
  go_wp2_with fail
  refine (ref_Get_h (a := k + 4) (wd := 4) (hb.ext ?hx) _ 4 (by omega) rfl (by omega) (by omega) (by omega) HT).mono ?_
  case hx => (repeat (first | (with_reducible exact Ext.refl _) | (with_reducible assumption) | (with_reducible refine Ext.draws ?_) | (with_reducible refine Ext.allocs ?_ _) | (with_reducible refine Ext.sets ?_ ?_ _) | (with_reducible exact Nat.le_refl _) | (exact (by simp)) | (exact (by simp; omega))))
  rintro e w1 ⟨rfl, rfl⟩
  go_wp2_with fail
  refine (ref_Get_h (a := k + 8) (wd := 8) (hb.ext ?hx) _ 8 (by omega) rfl (by omega) (by omega) (by omega) HS).mono ?_
  case hx => (repeat (first | (with_reducible exact Ext.refl _) | (with_reducible assumption) | (with_reducible refine Ext.draws ?_) | (with_reducible refine Ext.allocs ?_ _) | (with_reducible refine Ext.sets ?_ ?_ _) | (with_reducible exact Nat.le_refl _) | (exact (by simp)) | (exact (by simp; omega))))
  rintro e w1 ⟨rfl, rfl⟩
  go_wp2_with fail
  refine (ref_Get_h (a := k + 16) (wd := 2) (hb.ext ?hx) _ 2 (by omega) rfl (by omega) (by omega) (by omega) HN).mono ?_
  case hx => (repeat (first | (with_reducible exact Ext.refl _) | (with_reducible assumption) | (with_reducible refine Ext.draws ?_) | (with_reducible refine Ext.allocs ?_ _) | (with_reducible refine Ext.sets ?_ ?_ _) | (with_reducible exact Nat.le_refl _) | (exact (by simp)) | (exact (by simp; omega))))
  rintro e w1 ⟨rfl, rfl⟩
  go_wp2_with fail
  refine (ref_Open_any A5 (qn + 22) c5 _ _ (hs5.ext ?hx) (by omega) HO).mono ?_
  case hx => (repeat (first | (with_reducible exact Ext.refl _) | (with_reducible assumption) | (with_reducible refine Ext.draws ?_) | (with_reducible refine Ext.allocs ?_ _) | (with_reducible refine Ext.sets ?_ ?_ _) | (with_reducible exact Nat.le_refl _) | (exact (by simp)) | (exact (by simp; omega))))
  rintro e w2 ⟨A6, n6, c6, rfl, h6, hx6⟩
  have hlt : w.heap.size + 1 < w2.heap.size := by have := hx6.size; simp at this; omega
  have g0 : w2.cell? ⟨w.heap.size, 0, none⟩ = some (.int .i64 0) := hx6.cell ((Ext.alloc _ _).cell (cell_newF w _ _ 0))
  have e0 : w2.frozen? ⟨w.heap.size, 0, none⟩ = false := hx6.frozenG ((Ext.alloc _ _).cell (cell_newF w _ _ 0)) ((Ext.alloc _ _).frozenG (cell_newF w _ _ 0) (fr_newF w _ _ 0))
  have p0 : w2.cell? ⟨w.heap.size + 1, 0, none⟩ = some (.int .i64 0) := by
    have := cell_newF (w.alloc (.cells #[.int .i64 0, .int .i64 0, .slice none 0 0] 71)) #[.int .i64 0, .int .i64 0, .slice none 0 0] 71 0
    exact hx6.cell (by simpa using this)
  have g1 : w2.cell? ⟨w.heap.size, 1, none⟩ = some (.int .i64 0) := hx6.cell ((Ext.alloc _ _).cell (cell_newF w _ _ 1))
  have e1 : w2.frozen? ⟨w.heap.size, 1, none⟩ = false := hx6.frozenG ((Ext.alloc _ _).cell (cell_newF w _ _ 1)) ((Ext.alloc _ _).frozenG (cell_newF w _ _ 1) (fr_newF w _ _ 1))
  have p1 : w2.cell? ⟨w.heap.size + 1, 1, none⟩ = some (.int .i64 0) := by
    have := cell_newF (w.alloc (.cells #[.int .i64 0, .int .i64 0, .slice none 0 0] 71)) #[.int .i64 0, .int .i64 0, .slice none 0 0] 71 1
    exact hx6.cell (by simpa using this)
  have g2 : w2.cell? ⟨w.heap.size, 2, none⟩ = some (.slice none 0 0) := hx6.cell ((Ext.alloc _ _).cell (cell_newF w _ _ 2))
  have e2 : w2.frozen? ⟨w.heap.size, 2, none⟩ = false := hx6.frozenG ((Ext.alloc _ _).cell (cell_newF w _ _ 2)) ((Ext.alloc _ _).frozenG (cell_newF w _ _ 2) (fr_newF w _ _ 2))
  have p2 : w2.cell? ⟨w.heap.size + 1, 2, none⟩ = some (.slice none 0 0) := by
    have := cell_newF (w.alloc (.cells #[.int .i64 0, .int .i64 0, .slice none 0 0] 71)) #[.int .i64 0, .int .i64 0, .slice none 0 0] 71 2
    exact hx6.cell (by simpa using this)
  have hx8 : Ext w w2 := ((Ext.alloc w _).allocs _).trans hx6
  clear hx6
  cases sm with
  | false =>
    simp at h1
    obtain ⟨rfl, rfl, rfl, rfl, rfl⟩ := h1
    go_wp2_with fail
    refine bodyPost_ret (v := .tuple #[enV 0 0 none 0 0, .int .i64 0, .int .i64 13]) (by simp [results, Try.results101, go_sem, g0, g1, g2]) rfl ⟨_, _, _, rfl, Fsl.nil _ _, ?_⟩
    (repeat (first | (with_reducible exact Ext.refl _) | (with_reducible assumption) | (with_reducible refine Ext.draws ?_) | (with_reducible refine Ext.allocs ?_ _) | (with_reducible refine Ext.sets ?_ ?_ _) | (with_reducible exact Nat.le_refl _) | (exact (by simp)) | (exact (by simp; omega))))
  | true =>
    rw [if_pos rfl, if_pos rfl] at h1
    simp only [Prod.mk.injEq] at h1
    obtain ⟨rfl, rfl, hD, rfl, rfl⟩ := h1
    have h6' : Byt U8 w2 (w.heap.size + 2) A6 n6 c6 (r.take (18 + qn)) := h6.low (by simp)
    have hn6' : 18 + qn = n6 := by rw [← h6'.len, List.length_take]; omega
    obtain ⟨A7, c7, hcut7, hs7, hf7⟩ := cut_fromF h6'.sl h6'.fsl.fr 18 qn 18 rfl hn6'
    have hD2 : (r.take (18 + qn)).drop 18 = D := by rw [← hD, List.drop_take, show 18 + qn - 18 = qn by omega]
    rw [hD2] at hs7
    have h7 : Fsl w2 (w.heap.size + 2) A7 qn c7 D := ⟨hs7, hf7⟩
    clear hn6' hD hD2 h6 h6' hrl
    go_wp2_with fail
    refine bodyPost_ret (v := .tuple #[enV qt qs A7 qn c7, .int .i64 ((k : Int) + qn + 22), .int .i64 0]) ?hres rfl ⟨_, _, _, rfl, ?hsl, ?hxx⟩
    case hres => simp [results, Try.results101, go_sem, g0, g1, g2]
    case hsl => exact ((h7.sets (by simp) _).sets (by simp) _).sets (by simp) _ |>.low (by simp)
    case hxx => (repeat (first | (with_reducible exact Ext.refl _) | (with_reducible assumption) | (with_reducible refine Ext.draws ?_) | (with_reducible refine Ext.allocs ?_ _) | (with_reducible refine Ext.sets ?_ ?_ _) | (with_reducible exact Nat.le_refl _) | (exact (by simp)) | (exact (by simp; omega))))
end Go.Proofs.Ytoeknbogaclfdaa
