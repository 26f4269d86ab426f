/-
  Frames: contracts of the program's Take and of the reference's TakeFrame.
-/
/-
  Messages: what may be, their bytes, what bytes are. Plain lists, no program in sight.
-/
/-
  Chapter 8: records that are made of numbers: they may be. No program in sight.
-/
/-
  Chapter 9: messages that are made of numbers: they may be; how long their bytes are. No program in sight.
-/
/-
  Marks: rows of them; contracts of the small functions: held, seen, named, hidden, MarkName, Shape.
-/
/-
  Slices of integers: they read as a list.
-/
import Derived.Test.YtoeknbogaclfdaaZFromSumToFrame
import Derived.Test.YtoeknbogaclfdaaZCore
import Derived.Test.YtoeknbogaclfdaaZFromChainPlainToGet
import Derived.Test.YtoeknbogaclfdaaZFromLePlainToMask2
namespace Go.Proofs.Ytoeknbogaclfdaa
open Go.RowKit
set_option linter.unusedVariables false
set_option linter.unusedSimpArgs false
set_option linter.unnecessarySimpa false
set_option maxRecDepth 100000
def tkA (b : List UInt8) (a : Int) : Nat × Nat × List UInt8 × Int × Nat :=
  if a < 0 ∨ (b.length : Int) < a then (0, 0, [], 0, 3)
  else if tkE (b.drop a.toNat) = 0 then (tkT (b.drop a.toNat), tkS (b.drop a.toNat), tkD (b.drop a.toNat), a + tkN (b.drop a.toNat) + 22, 0)
  else (0, 0, [], 0, tkE (b.drop a.toNat))
theorem fr_newF (w : World) (cs : Array Value) (e : TypeId) (j : Nat) : (w.alloc (.cells cs e)).frozen? ⟨w.heap.size, j, none⟩ = false := by
  unfold World.frozen?
  simp only [heap_alloc_new]
  simp
theorem Ext.frozenG {a b : World} (h : Ext a b) {p : Addr} {u : Value} (hc : a.cell? p = some u) (hf : a.frozen? p = false) : b.frozen? p = false := by
  rw [Below.frozen h (World.block_lt_of_cell? a p hc)]
  exact hf
set_option maxHeartbeats 1000000 in
theorem frame_Take {A : Option Addr} {n c : Nat} {b : List UInt8} {a : Int} {w : World} (hb : Sl w A n c b) (hn6 : n ≤ 1000000) {T S : Nat} {D : List UInt8} {nx : Int} {er : Nat} (h0 : Hid (tkA b a = (T, S, D, nx, er))) :
    Calls Try.prog 107 #[.slice A n c, .int .i64 a] w fun e w' => ∃ A' n' c', e = .returned (.tuple #[enV T S A' n' c', .int .i64 nx, .int .i64 er]) ∧ Fsl w' (w.heap.size + 1) A' n' c' D ∧ Ext w w' := by
  have hbl := hb.len
  have h63 := hb.n63
  by_cases ha : a < 0 ∨ (n : Int) < a
  · have h1 := h0.out
    unfold tkA at h1
    rw [hbl, if_pos ha] at h1
    simp only [Prod.mk.injEq] at h1
    obtain ⟨rfl, rfl, rfl, rfl, rfl⟩ := h1
    clear h0
    rcases ha with ha | ha
    · go_enter Try.func107, Try.ntmps107
      go_wp2_with fail
      refine bodyPost_ret (v := .tuple #[enV 0 0 none 0 0, .int .i64 0, .int .i64 3]) (by simp [results, Try.results107, go_sem]) rfl ⟨_, _, _, rfl, Fsl.nil _ _, ?_⟩
      (repeat (first | (with_reducible exact Ext.refl _) | (with_reducible assumption) | (with_reducible refine Ext.draws ?_) | (with_reducible refine Ext.allocs ?_ _) | (with_reducible refine Ext.sets ?_ ?_ _) | (with_reducible exact Nat.le_refl _) | (exact (by simp)) | (exact (by simp; omega))))
    · have ha2 : ¬ a < 0 := by omega
      go_enter Try.func107, Try.ntmps107
      go_wp2_with fail
      refine bodyPost_ret (v := .tuple #[enV 0 0 none 0 0, .int .i64 0, .int .i64 3]) (by simp [results, Try.results107, go_sem]) rfl ⟨_, _, _, rfl, Fsl.nil _ _, ?_⟩
      (repeat (first | (with_reducible exact Ext.refl _) | (with_reducible assumption) | (with_reducible refine Ext.draws ?_) | (with_reducible refine Ext.allocs ?_ _) | (with_reducible refine Ext.sets ?_ ?_ _) | (with_reducible exact Nat.le_refl _) | (exact (by simp)) | (exact (by simp; omega))))
  obtain ⟨k, rfl⟩ := Int.eq_ofNat_of_zero_le (by omega : 0 ≤ a)
  obtain ⟨m, hkm⟩ : ∃ m, k + m = n := ⟨n - k, by omega⟩
  have hka : ¬ ((k : Int) < 0) := by omega
  have hkb : decide (n < k) = false := by simp; omega
  obtain ⟨A1, c1, hcut, hs1⟩ := cut_from hb k m (k : Int) rfl hkm
  have h1 : (if tkE (b.drop k) = 0 then (tkT (b.drop k), tkS (b.drop k), tkD (b.drop k), (k : Int) + tkN (b.drop k) + 22, 0) else (0, 0, [], 0, tkE (b.drop k))) = (T, S, D, nx, er) := by
    have := h0.out
    unfold tkA at this
    rw [hbl, if_neg ha, Int.toNat_natCast] at this
    exact this
  obtain ⟨r, hr⟩ : ∃ r, b.drop k = r := ⟨_, rfl⟩
  rw [hr] at hs1 h1
  have hrl : r.length = m := hs1.len
  have hkn : k ≤ 1000000 := by omega
  have hmn : m ≤ 1000000 := by omega
  clear h0 ha hr hkm hbl hn6 h63 hb
  by_cases hm0 : m = 0
  · have e1 : tkE r = 4 := by unfold tkE; rw [hrl, if_pos hm0]
    rw [e1, if_neg (by omega)] at h1
    simp only [Prod.mk.injEq] at h1
    obtain ⟨rfl, rfl, rfl, rfl, rfl⟩ := h1
    subst hm0
    clear e1 hrl
    go_enter Try.func107, Try.ntmps107
    go_wp2_with fail
    refine bodyPost_ret (v := .tuple #[enV 0 0 none 0 0, .int .i64 0, .int .i64 4]) (by simp [results, Try.results107, go_sem]) rfl ⟨_, _, _, rfl, Fsl.nil _ _, ?_⟩
    (repeat (first | (with_reducible exact Ext.refl _) | (with_reducible assumption) | (with_reducible refine Ext.draws ?_) | (with_reducible refine Ext.allocs ?_ _) | (with_reducible refine Ext.sets ?_ ?_ _) | (with_reducible exact Nat.le_refl _) | (exact (by simp)) | (exact (by simp; omega))))
  have hmz : ((m : Int) == 0) = false := by simp; omega
  by_cases hm22 : m < 22
  · have e1 : tkE r = 2 := by unfold tkE; rw [hrl, if_neg hm0, if_pos (.inl hm22)]
    rw [e1, if_neg (by omega)] at h1
    simp only [Prod.mk.injEq] at h1
    obtain ⟨rfl, rfl, rfl, rfl, rfl⟩ := h1
    clear e1 hrl
    go_enter Try.func107, Try.ntmps107
    go_wp2_with fail
    refine bodyPost_ret (v := .tuple #[enV 0 0 none 0 0, .int .i64 0, .int .i64 2]) (by simp [results, Try.results107, go_sem]) rfl ⟨_, _, _, rfl, Fsl.nil _ _, ?_⟩
    (repeat (first | (with_reducible exact Ext.refl _) | (with_reducible assumption) | (with_reducible refine Ext.draws ?_) | (with_reducible refine Ext.allocs ?_ _) | (with_reducible refine Ext.sets ?_ ?_ _) | (with_reducible exact Nat.le_refl _) | (exact (by simp)) | (exact (by simp; omega))))
  obtain ⟨hcut4, hs4⟩ := cut_upto hs1 4 4 rfl (by omega)
  obtain ⟨g4, hg4⟩ : ∃ q, r.take 4 = q := ⟨_, rfl⟩
  rw [hg4] at hs4
  have t4 := run_text_u8 (hs4.ext (Ext.alloc w (.cells #[.int .i64 0, .int .i64 0, .slice none 0 0] 71)))
  by_cases hmag : g4 = magicL
  case neg =>
    have e1 : tkE r = 2 := by unfold tkE; rw [hrl, if_neg hm0, if_pos (.inr (by rw [hg4]; exact hmag))]
    rw [e1, if_neg (by omega)] at h1
    simp only [Prod.mk.injEq] at h1
    obtain ⟨rfl, rfl, rfl, rfl, rfl⟩ := h1
    have hmag2 : (g4 == [72, 71, 74, 69]) = false := by simpa [magicL] using hmag
    clear e1 hrl hmag hg4
    go_enter Try.func107, Try.ntmps107
    go_wp2_with fail
    refine bodyPost_ret (v := .tuple #[enV 0 0 none 0 0, .int .i64 0, .int .i64 2]) (by simp [results, Try.results107, go_sem]) rfl ⟨_, _, _, rfl, Fsl.nil _ _, ?_⟩
    (repeat (first | (with_reducible exact Ext.refl _) | (with_reducible assumption) | (with_reducible refine Ext.draws ?_) | (with_reducible refine Ext.allocs ?_ _) | (with_reducible refine Ext.sets ?_ ?_ _) | (with_reducible exact Nat.le_refl _) | (exact (by simp)) | (exact (by simp; omega))))
  subst hmag
  unfold magicL at t4 hg4
  obtain ⟨qt, hqt⟩ : ∃ q, tkT r = q := ⟨_, rfl⟩
  obtain ⟨qs, hqs⟩ : ∃ q, tkS r = q := ⟨_, rfl⟩
  obtain ⟨qn, hqn⟩ : ∃ q, tkN r = q := ⟨_, rfl⟩
  have hqnl : qn < 65536 := by rw [← hqn]; exact tkN_lt r
  have HT : Hid (unle ((r.drop 4).take 4) = qt) := hqt
  have HS : Hid (unle ((r.drop 8).take 8) = qs) := hqs
  have HN : Hid (unle ((r.drop 16).take 2) = qn) := hqn
  obtain ⟨my, hmy⟩ : ∃ q, rightN qt qs qn = q := ⟨_, rfl⟩
  have hfit : tkFit r = (my && decide (qn + 22 ≤ m)) := by unfold tkFit; rw [hqt, hqs, hqn, hmy, hrl]
  have hE0 : tkE r = if tkFit r = false then 2 else if tkSum r = false then 13 else 0 := by
    unfold tkE
    rw [hrl, if_neg hm0, if_neg (by rw [hg4]; unfold magicL; simp; omega)]
  have HMY := Lib.hid hmy
  by_cases hfb : tkFit r = false
  · have e1 : tkE r = 2 := by rw [hE0, if_pos hfb]
    rw [e1, if_neg (by omega)] at h1
    simp only [Prod.mk.injEq] at h1
    obtain ⟨rfl, rfl, rfl, rfl, rfl⟩ := h1
    have hszI : sizeI (qn : Int) = 22 + max 0 (min (qn : Int) 90) := rfl
    rw [hfb] at hfit
    cases my with
    | false =>
      clear e1 hE0 hfb hfit hqt hqs hqn hg4 hmy hszI hrl
      go_enter Try.func107, Try.ntmps107
      go_wp2_with fail
      refine (bits_Get_h (a := 4) (wd := 4) (hs1.ext (Ext.alloc _ _)) 4 4 rfl rfl (by omega) (by omega) (by omega) HT).mono ?_
      rintro e w1 ⟨rfl, rfl⟩
      go_wp2_with fail
      refine (bits_Get_h (a := 8) (wd := 8) (hs1.ext (Ext.alloc _ _)) 8 8 rfl rfl (by omega) (by omega) (by omega) HS).mono ?_
      rintro e w1 ⟨rfl, rfl⟩
      go_wp2_with fail
      refine (bits_Get_h (a := 16) (wd := 2) (hs1.ext (Ext.alloc _ _)) 16 2 rfl rfl (by omega) (by omega) (by omega) HN).mono ?_
      rintro e w1 ⟨rfl, rfl⟩
      go_wp2_with fail
      refine (frame_may qt qs qn _).mono ?_
      rintro e w1 ⟨rfl, rfl⟩
      rw [HMY.out]
      go_wp2_with fail
      refine bodyPost_ret (v := .tuple #[enV 0 0 none 0 0, .int .i64 0, .int .i64 2]) (by simp [results, Try.results107, go_sem]) rfl ⟨_, _, _, rfl, Fsl.nil _ _, ?_⟩
      (repeat (first | (with_reducible exact Ext.refl _) | (with_reducible assumption) | (with_reducible refine Ext.draws ?_) | (with_reducible refine Ext.allocs ?_ _) | (with_reducible refine Ext.sets ?_ ?_ _) | (with_reducible exact Nat.le_refl _) | (exact (by simp)) | (exact (by simp; omega))))
    | true =>
      have hq90 : qn ≤ 90 := (rightN_iff.1 hmy).2.2.2.2.2
      have hsz : sizeI (qn : Int) = 22 + (qn : Int) := by unfold sizeI; omega
      have HSZ := Lib.hid hsz
      have hlt : (m : Int) < 22 + (qn : Int) := by simp at hfit; omega
      clear e1 hE0 hfb hfit hqt hqs hqn hg4 hmy hszI hsz hrl
      go_enter Try.func107, Try.ntmps107
      go_wp2_with fail
      refine (bits_Get_h (a := 4) (wd := 4) (hs1.ext (Ext.alloc _ _)) 4 4 rfl rfl (by omega) (by omega) (by omega) HT).mono ?_
      rintro e w1 ⟨rfl, rfl⟩
      go_wp2_with fail
      refine (bits_Get_h (a := 8) (wd := 8) (hs1.ext (Ext.alloc _ _)) 8 8 rfl rfl (by omega) (by omega) (by omega) HS).mono ?_
      rintro e w1 ⟨rfl, rfl⟩
      go_wp2_with fail
      refine (bits_Get_h (a := 16) (wd := 2) (hs1.ext (Ext.alloc _ _)) 16 2 rfl rfl (by omega) (by omega) (by omega) HN).mono ?_
      rintro e w1 ⟨rfl, rfl⟩
      go_wp2_with fail
      refine (frame_may qt qs qn _).mono ?_
      rintro e w1 ⟨rfl, rfl⟩
      rw [HMY.out]
      go_wp2_with fail
      refine (frame_Size qn _).mono ?_
      rintro e w1 ⟨rfl, rfl⟩
      rw [HSZ.out]
      go_wp2_with fail
      refine bodyPost_ret (v := .tuple #[enV 0 0 none 0 0, .int .i64 0, .int .i64 2]) (by simp [results, Try.results107, go_sem]) rfl ⟨_, _, _, rfl, Fsl.nil _ _, ?_⟩
      (repeat (first | (with_reducible exact Ext.refl _) | (with_reducible assumption) | (with_reducible refine Ext.draws ?_) | (with_reducible refine Ext.allocs ?_ _) | (with_reducible refine Ext.sets ?_ ?_ _) | (with_reducible exact Nat.le_refl _) | (exact (by simp)) | (exact (by simp; omega))))
  have hfy : tkFit r = true := by simpa using hfb
  rw [hfy] at hfit
  have hmyt : my = true := by cases my with | true => rfl | false => simp at hfit
  subst hmyt
  have hq := rightN_iff.1 hmy
  have hq90 : qn ≤ 90 := hq.2.2.2.2.2
  have hqt30 : qt ≤ 1073741824 := by omega
  have hqs40 : qs ≤ 1099511627776 := by omega
  have hfm : qn + 22 ≤ m := by simpa using hfit.symm
  obtain ⟨sm, hsm⟩ : ∃ q, tkSum r = q := ⟨_, rfl⟩
  obtain ⟨qc, hqc⟩ : ∃ q, unle ((r.drop (18 + qn)).take 4) = q := ⟨_, rfl⟩
  obtain ⟨qk, hqk⟩ : ∃ q, crcOf (r.take (18 + qn)) = q := ⟨_, rfl⟩
  have hsmE : sm = decide (qc = qk) := by rw [← hsm]; unfold tkSum; rw [hqn, hqc, hqk]
  have HC := Lib.hid hqc
  have HK := Lib.hid hqk
  have hqkl : qk < 4294967296 := by rw [← hqk]; exact crcOf_lt _
  have hsz : sizeI (qn : Int) = 22 + (qn : Int) := by unfold sizeI; omega
  have HSZ := Lib.hid hsz
  have hnl : ¬ ((m : Int) < 22 + (qn : Int)) := by omega
  obtain ⟨hcutE, hsE⟩ := cut_upto hs1 (18 + qn) (18 + (qn : Int)) (by omega) (by omega)
  have hE1 : tkE r = if sm then 0 else 13 := by rw [hE0, hfy, if_neg (by simp), hsm]; cases sm <;> rfl
  have hqnD : tkD r = (r.drop 18).take qn := by unfold tkD; rw [hqn]
  obtain ⟨A6, c6, hcut6, hs6⟩ := cut_mid hs1 18 qn 18 (18 + (qn : Int)) rfl (by omega) (by omega)
  rw [hqt, hqs, hqnD, hqn, hE1] at h1
  clear hE0 hE1 hfb hfy hfit hqt hqs hqn hg4 hmy hsz hrl hsm hq hqc hqk hqnD
  go_enter Try.func107, Try.ntmps107
  go_wp2_with fail
  refine (bits_Get_h (a := 4) (wd := 4) (hs1.ext (Ext.alloc _ _)) 4 4 rfl rfl (by omega) (by omega) (by omega) HT).mono ?_
  rintro e w1 ⟨rfl, rfl⟩
  go_wp2_with fail
  refine (bits_Get_h (a := 8) (wd := 8) (hs1.ext (Ext.alloc _ _)) 8 8 rfl rfl (by omega) (by omega) (by omega) HS).mono ?_
  rintro e w1 ⟨rfl, rfl⟩
  go_wp2_with fail
  refine (bits_Get_h (a := 16) (wd := 2) (hs1.ext (Ext.alloc _ _)) 16 2 rfl rfl (by omega) (by omega) (by omega) HN).mono ?_
  rintro e w1 ⟨rfl, rfl⟩
  go_wp2_with fail
  refine (frame_may qt qs qn _).mono ?_
  rintro e w1 ⟨rfl, rfl⟩
  rw [HMY.out]
  go_wp2_with fail
  refine (frame_Size qn _).mono ?_
  rintro e w1 ⟨rfl, rfl⟩
  rw [HSZ.out]
  go_wp2_with fail
  refine (bits_Get_h (a := 18 + qn) (wd := 4) (hs1.ext (Ext.alloc _ _)) _ _ (by omega) rfl (by omega) (by omega) (by omega) HC).mono ?_
  rintro e w1 ⟨rfl, rfl⟩
  go_wp2_with fail
  refine (crc_Of' (hsE.ext (Ext.alloc _ _)) HK).mono ?_
  rintro e w1 ⟨rfl, rfl⟩
  by_cases hck : qc = qk
  · have hst : sm = true := by rw [hsmE]; simp [hck]
    rw [hst, if_pos rfl, if_pos rfl] at h1
    simp only [Prod.mk.injEq] at h1
    obtain ⟨rfl, rfl, hD, rfl, rfl⟩ := h1
    rw [hD] at hs6
    subst hck
    clear hsmE hst hD HC HK HT HS HN
    go_wp2_with fail
    refine (slices_Clone A6 qn c6 _ _ (hs6.ext (Ext.alloc _ _)) (by omega)).mono ?_
    rintro e w2 ⟨A7, c7, rfl, h7, hx7⟩
    have hlt : w.heap.size < w2.heap.size := by have := hx7.size; simp at this; omega
    have g0 : w2.cell? ⟨w.heap.size, 0, none⟩ = some (.int .i64 0) := hx7.cell (cell_newF w _ _ 0)
    have e0 : w2.frozen? ⟨w.heap.size, 0, none⟩ = false := hx7.frozenG (cell_newF w _ _ 0) (fr_newF w _ _ 0)
    have g1 : w2.cell? ⟨w.heap.size, 1, none⟩ = some (.int .i64 0) := hx7.cell (cell_newF w _ _ 1)
    have e1 : w2.frozen? ⟨w.heap.size, 1, none⟩ = false := hx7.frozenG (cell_newF w _ _ 1) (fr_newF w _ _ 1)
    have g2 : w2.cell? ⟨w.heap.size, 2, none⟩ = some (.slice none 0 0) := hx7.cell (cell_newF w _ _ 2)
    have e2 : w2.frozen? ⟨w.heap.size, 2, none⟩ = false := hx7.frozenG (cell_newF w _ _ 2) (fr_newF w _ _ 2)
    have hx8 : Ext w w2 := (Ext.alloc w _).trans hx7
    clear hx7
    go_wp2_with fail
    refine bodyPost_ret (v := .tuple #[enV qt qs A7 qn c7, .int .i64 ((k : Int) + qn + 22), .int .i64 0]) ?hres rfl ⟨_, _, _, rfl, ?hsl, ?hxx⟩
    case hres =>
      simp [results, Try.results107, go_sem, g0, g1, g2]
      omega
    case hsl => exact ((h7.fsl.sets (by simp) _).sets (by simp) _).sets (by simp) _ |>.low (by simp)
    case hxx => (repeat (first | (with_reducible exact Ext.refl _) | (with_reducible assumption) | (with_reducible refine Ext.draws ?_) | (with_reducible refine Ext.allocs ?_ _) | (with_reducible refine Ext.sets ?_ ?_ _) | (with_reducible exact Nat.le_refl _) | (exact (by simp)) | (exact (by simp; omega))))
  · have hsf : sm = false := by rw [hsmE]; simp [hck]
    rw [hsf] at h1
    simp at h1
    obtain ⟨rfl, rfl, rfl, rfl, rfl⟩ := h1
    have hneq : ((qc : Int) != (qk : Int)) = true := by simp; omega
    clear hsmE hsf HC HK HT HS HN
    go_wp2_with fail
    refine bodyPost_ret (v := .tuple #[enV 0 0 none 0 0, .int .i64 0, .int .i64 13]) (by simp [results, Try.results107, go_sem]) rfl ⟨_, _, _, rfl, Fsl.nil _ _, ?_⟩
    (repeat (first | (with_reducible exact Ext.refl _) | (with_reducible assumption) | (with_reducible refine Ext.draws ?_) | (with_reducible refine Ext.allocs ?_ _) | (with_reducible refine Ext.sets ?_ ?_ _) | (with_reducible exact Nat.le_refl _) | (exact (by simp)) | (exact (by simp; omega))))
end Go.Proofs.Ytoeknbogaclfdaa

namespace Go.Proofs.Ytoeknbogaclfdaa
set_option linter.unusedVariables false
set_option linter.unusedSimpArgs false
structure Ms where
  kind : Int
  nonce : Int
  pos : Int
  en : Int
  stage : Int
  num : Int
  chain : List Tg
  ents : List En
  marks : List Mk
  data : List UInt8
  deriving DecidableEq
def bareM (m : Ms) : Ms :=
  ⟨m.kind, m.nonce, if m.kind = 1 ∨ m.kind = 2 ∨ m.kind = 4 then m.pos else 0, if m.kind = 1 ∨ m.kind = 2 then m.en else 0, if m.kind = 5 ∨ m.kind = 6 then m.stage else 0,
   if m.kind = 5 ∨ m.kind = 6 ∨ m.kind = 9 then m.num else 0, if m.kind = 2 ∨ m.kind = 4 then m.chain else [], if m.kind = 2 then m.ents else [], if m.kind = 4 then m.marks else [], if m.kind = 6 then m.data else []⟩
def entsF : Int → List En → Bool
  | _, [] => true
  | p, x :: xs => (rightN x.t x.s x.d.length && decide (x.s = p + 1)) && entsF (p + 1) xs
def entsB (p : Int) (l : List En) : Bool := decide (l.length ≤ 4) && entsF p l
def markT (x : Mk) : Bool := decide (1 ≤ x.id ∧ x.id ≤ 1073741824 ∧ 0 ≤ x.sz ∧ x.sz ≤ 512) && nameM x.nm
def marksT (l : List Mk) : Bool := decide (1 ≤ l.length ∧ l.length ≤ 17) && l.all markT
def numsM (m : Ms) : Bool := decide ((1 ≤ m.nonce ∧ m.nonce ≤ 1099511627776) ∧ (0 ≤ m.pos ∧ m.pos ≤ 1099511627776) ∧ (0 ≤ m.en ∧ m.en ≤ 1099511627776) ∧ (0 ≤ m.stage ∧ m.stage ≤ 16) ∧ (0 ≤ m.num ∧ m.num ≤ 512))
def tailM (m : Ms) : Bool := if m.kind = 2 then rightL m.chain && entsB m.pos m.ents else if m.kind = 4 then rightL m.chain && marksT m.marks else if m.kind = 9 then decide (1 ≤ m.num ∧ m.num ≤ 13) else true
def headM (m : Ms) : Bool := decide (1 ≤ m.kind ∧ m.kind ≤ 9) && (decide (bareM m = m) && (numsM m && decide (m.data.length ≤ 64)))
def rightM (m : Ms) : Bool := headM m && tailM m
def enBs (l : List En) : List UInt8 := (l.map fun x => layE x.t.toNat x.s.toNat x.d).flatten
def msNs (m : Ms) : List Int := [m.nonce, m.pos, m.en, m.stage, m.num]
def chainBs (m : Ms) : List UInt8 := if m.kind = 2 ∨ m.kind = 4 then varl (putL m.chain).length ++ putL m.chain else []
def restBs (m : Ms) : List UInt8 := if m.kind = 2 then varl m.ents.length ++ enBs m.ents else if m.kind = 4 then varl m.marks.length ++ mksBs m.marks else if m.kind = 6 then m.data else []
def bodyM (m : Ms) : List UInt8 := UInt8.ofNat m.kind.toNat :: (varsL (msNs m) ++ (chainBs m ++ restBs m))
def putM (m : Ms) : List UInt8 := put (bodyM m) (crcOf (bodyM m)) 4
def entsG : Nat → List UInt8 → Int → Option (List En)
  | 0, _, _ => some []
  | f + 1, b, a => if (tkA b a).2.2.2.2 = 0 then (entsG f b (tkA b a).2.2.2.1).map fun l => ⟨(tkA b a).1, (tkA b a).2.1, (tkA b a).2.2.1⟩ :: l else none
def entsO (b : List UInt8) (a : Int) : Option (List En) := if gvC b a = true ∧ gvA b a ≤ 4 then entsG (gvA b a).toNat b (gvB b a) else none
def tagsO (b : List UInt8) (a : Int) : Option (List Tg × Int) := (gtO b a b.length).bind fun q => (getL q.1).map fun l => (l, q.2)
def chainO (k : Int) (b : List UInt8) (a : Int) : Option (List Tg × Int) := if k = 2 ∨ k = 4 then tagsO b a else some ([], a)
def restO (rf : Bool) (k : Int) (b : List UInt8) (a : Int) : Option (List En × List Mk × List UInt8) :=
  if k = 2 then (entsO b a).map fun l => (l, [], []) else if k = 4 then (mksO rf b a).map fun q => ([], q.1, []) else if k = 6 then some ([], [], b.drop a.toNat) else some ([], [], [])
def msOf (k : Int) (l : List Int) (c : List Tg) (r : List En × List Mk × List UInt8) : Ms := ⟨k, l.getD 0 0, l.getD 1 0, l.getD 2 0, l.getD 3 0, l.getD 4 0, c, r.1, r.2.1, r.2.2⟩
def kindOf (b : List UInt8) : Int := ((b.getD 0 0).toNat : Int)
def parseM (rf : Bool) (b : List UInt8) : Option Ms := if b.length < 1 then none else (numsF 5 b 1).bind fun p => (chainO (kindOf b) b p.2).bind fun q => (restO rf (kindOf b) b q.2).map fun r => msOf (kindOf b) p.1 q.1 r
def getM (rf : Bool) (b : List UInt8) : Option Ms := (crcOpen b).bind fun c => (parseM rf c).bind fun m => if rightM m = true ∧ putM m = b then some m else none
theorem headM_iff {m : Ms} : headM m = true ↔ (1 ≤ m.kind ∧ m.kind ≤ 9) ∧ bareM m = m ∧ ((1 ≤ m.nonce ∧ m.nonce ≤ 1099511627776) ∧ (0 ≤ m.pos ∧ m.pos ≤ 1099511627776) ∧ (0 ≤ m.en ∧ m.en ≤ 1099511627776) ∧ (0 ≤ m.stage ∧ m.stage ≤ 16) ∧ (0 ≤ m.num ∧ m.num ≤ 512)) ∧ m.data.length ≤ 64 := by
  unfold headM numsM
  simp only [Bool.and_eq_true, decide_eq_true_eq]
theorem entsF_mem : ∀ {l : List En} {p : Int}, entsF p l = true → ∀ x ∈ l, rightN x.t x.s x.d.length = true
  | [], _, _, x, hx => by simp at hx
  | y :: ys, p, h, x, hx => by
    rw [entsF, Bool.and_eq_true, Bool.and_eq_true] at h
    rcases List.mem_cons.1 hx with rfl | hx
    · exact h.1.1
    · exact entsF_mem h.2 x hx
theorem enBs_next {xs : List En} {k : Nat} {x : En} (hx : xs[k]? = some x) : enBs (xs.take (k + 1)) = enBs (xs.take k) ++ layE x.t.toNat x.s.toNat x.d := by
  unfold enBs
  rw [List.take_add_one, hx]
  simp
theorem tkA_lay {x : En} {b pre r : List UInt8} {a : Int} (hx : rightN x.t x.s x.d.length = true) (hb : b = pre ++ layE x.t.toNat x.s.toNat x.d ++ r) (ha : a = (pre.length : Int)) : tkA b a = (x.t.toNat, x.s.toNat, x.d, a + ((layE x.t.toNat x.s.toNat x.d).length : Int), 0) := by
  have h := rightN_iff.1 hx
  have h' : rightN x.t.toNat x.s.toNat x.d.length = true := rightN_iff.2 (by omega)
  obtain ⟨t1, t2, t3, t4, t5⟩ := take_lay x.t.toNat x.s.toNat x.d r h'
  have hd : b.drop a.toNat = layE x.t.toNat x.s.toNat x.d ++ r := by
    rw [hb, ha, Int.toNat_natCast, List.append_assoc, List.drop_left]
  have hl : b.length = pre.length + (layE x.t.toNat x.s.toNat x.d).length + r.length := by rw [hb]; simp only [List.length_append]
  have hll := layE_length x.t.toNat x.s.toNat x.d
  unfold tkA
  rw [if_neg (by omega), hd, if_pos t1, t2, t3, t4, t5, hll]
  simp only [Prod.mk.injEq, true_and, and_true]
  omega
theorem ents_there : ∀ (l : List En) (b pre r : List UInt8) (a : Int), (∀ x ∈ l, rightN x.t x.s x.d.length = true) → b = pre ++ enBs l ++ r → a = (pre.length : Int) → entsG l.length b a = some l
  | [], b, pre, r, a, _, hb, ha => rfl
  | x :: xs, b, pre, r, a, hf, hb, ha => by
    have h1 := tkA_lay (b := b) (pre := pre) (r := enBs xs ++ r) (a := a) (hf x (by simp)) (by rw [hb]; unfold enBs; simp) ha
    have h2 := ents_there xs b (pre ++ layE x.t.toNat x.s.toNat x.d) r (a + ((layE x.t.toNat x.s.toNat x.d).length : Int)) (fun y hy => hf y (by simp [hy])) (by rw [hb]; unfold enBs; simp) (by rw [ha, List.length_append]; omega)
    have h3 := rightN_iff.1 (hf x (by simp))
    rw [List.length_cons, entsG, h1, if_pos rfl]
    simp only
    rw [h2, Option.map_some]
    have e1 : ((x.t.toNat : Nat) : Int) = x.t := by omega
    have e2 : ((x.s.toNat : Nat) : Int) = x.s := by omega
    rw [e1, e2]
theorem ents_thereO {l : List En} {b pre r : List UInt8} {a : Int} (hf : ∀ x ∈ l, rightN x.t x.s x.d.length = true) (hl : l.length ≤ 4) (hb : b = pre ++ (varl l.length ++ enBs l) ++ r) (ha : a = (pre.length : Int)) : entsO b a = some l := by
  have hg := gv_there' (b := b) (a := pre) (r := enBs l ++ r) (k := l.length) (i := a) (by rw [hb]; simp) ha (by omega)
  obtain ⟨e1, e2, e3⟩ := gv_vals hg
  unfold entsO
  rw [if_pos ⟨e3, by omega⟩, e1, e2, Int.toNat_natCast]
  exact ents_there l b (pre ++ varl l.length) r _ hf (by rw [hb]; simp) (by rw [List.length_append]; omega)
theorem mks_thereO {rf : Bool} {l : List Mk} {b pre r : List UInt8} {a : Int} (hf : ∀ x ∈ l, fitM x) (hl : l.length ≤ 17) (hb : b = pre ++ (varl l.length ++ mksBs l) ++ r) (ha : a = (pre.length : Int)) : ∃ d, mksO rf b a = some (l, d) := by
  have hg := gv_there' (b := b) (a := pre) (r := mksBs l ++ r) (k := l.length) (i := a) (by rw [hb]; simp) ha (by omega)
  obtain ⟨e1, e2, e3⟩ := gv_vals hg
  have h3 := mks_there (rf := rf) l b (pre ++ varl l.length) r (a + ((varl l.length).length : Int)) hf (by rw [hb]; simp) (by rw [List.length_append]; omega)
  unfold mksO
  rw [if_pos ⟨e3, by omega⟩, e1, e2, Int.toNat_natCast]
  exact ⟨_, h3⟩
theorem tags_thereO {l : List Tg} {b pre r : List UInt8} {a : Int} (hl : rightL l = true) (hb : b = pre ++ (varl (putL l).length ++ putL l) ++ r) (ha : a = (pre.length : Int)) : tagsO b a = some (l, a + (((varl (putL l).length).length + (putL l).length : Nat) : Int)) := by
  have hR := rightL_iff.1 hl
  have hp := putL_len l
  have h32 := hR.2.1
  have hs : (putL l).length = (⟨(putL l).toArray⟩ : ByteArray).size := by simp [ByteArray.size]
  have hg := gt_there (b := b) (pre := pre) (r := r) (s := ⟨(putL l).toArray⟩) (i := a) (most := b.length) (by rw [hb, ← hs]) ha (by rw [← hs, hb]; simp only [List.length_append]; omega) (by rw [← hs]; omega)
  rw [← hs] at hg
  unfold tagsO
  rw [hg, Option.bind_some]
  simp only
  rw [get_put hR, Option.map_some]
theorem markT_fit {x : Mk} (h : markT x = true) : fitM x := by
  unfold markT at h
  simp only [Bool.and_eq_true, decide_eq_true_eq] at h
  have := nameM_size h.2
  unfold fitM
  omega
theorem marksT_iff {l : List Mk} : marksT l = true ↔ (1 ≤ l.length ∧ l.length ≤ 17) ∧ ∀ x ∈ l, markT x = true := by
  unfold marksT
  simp
theorem bare_fields {m : Ms} (h : bareM m = m) : (¬ (m.kind = 2 ∨ m.kind = 4) → m.chain = []) ∧ (m.kind ≠ 2 → m.ents = []) ∧ (m.kind ≠ 4 → m.marks = []) ∧ (m.kind ≠ 6 → m.data = []) := by
  unfold bareM at h
  obtain ⟨k, n, p, e, s, q, c, en, mk, d⟩ := m
  simp only [Ms.mk.injEq, true_and] at h ⊢
  obtain ⟨_, _, _, _, h1, h2, h3, h4⟩ := h
  refine ⟨fun hk => ?_, fun hk => ?_, fun hk => ?_, fun hk => ?_⟩
  · rw [if_neg hk] at h1; exact h1.symm
  · rw [if_neg hk] at h2; exact h2.symm
  · rw [if_neg hk] at h3; exact h3.symm
  · rw [if_neg hk] at h4; exact h4.symm
theorem parse_putM {rf : Bool} {m : Ms} (hr : rightM m = true) : parseM rf (bodyM m) = some m := by
  unfold rightM at hr
  rw [Bool.and_eq_true, headM_iff] at hr
  obtain ⟨⟨hk, hbare, hn, hd⟩, ht⟩ := hr
  obtain ⟨f1, f2, f3, f4⟩ := bare_fields hbare
  have hko : kindOf (bodyM m) = m.kind := by
    unfold kindOf bodyM
    simp
    omega
  have hlen : ¬ (bodyM m).length < 1 := by unfold bodyM; simp
  have h1 := nums_there (msNs m) (bodyM m) [UInt8.ofNat m.kind.toNat] (chainBs m ++ restBs m) 1 (fun k hk => by
    simp only [msNs, List.mem_cons, List.not_mem_nil, or_false] at hk
    rcases hk with rfl | rfl | rfl | rfl | rfl <;> omega) (by unfold bodyM; simp) rfl
  unfold parseM
  rw [if_neg hlen, show numsF 5 (bodyM m) 1 = _ from h1, Option.bind_some, hko]
  simp only
  obtain ⟨a2, pre2, hc, hb2, ha2⟩ : ∃ (a2 : Int) (pre : List UInt8), chainO m.kind (bodyM m) (1 + ((varsL (msNs m)).length : Int)) = some (m.chain, a2) ∧ bodyM m = pre ++ restBs m ∧ a2 = (pre.length : Int) := by
    unfold chainO
    by_cases h24 : m.kind = 2 ∨ m.kind = 4
    · rw [if_pos h24]
      have hcr : rightL m.chain = true := by
        unfold tailM at ht
        rcases h24 with h | h
        · rw [if_pos h, Bool.and_eq_true] at ht; exact ht.1
        · rw [if_neg (by omega), if_pos h, Bool.and_eq_true] at ht; exact ht.1
      have e : chainBs m = varl (putL m.chain).length ++ putL m.chain := by unfold chainBs; rw [if_pos h24]
      refine ⟨_, UInt8.ofNat m.kind.toNat :: (varsL (msNs m) ++ chainBs m), tags_thereO (pre := UInt8.ofNat m.kind.toNat :: varsL (msNs m)) (r := restBs m) hcr (by unfold bodyM; rw [e]; simp) (by simp; omega), by unfold bodyM; simp, ?_⟩
      rw [e]
      simp
      omega
    · rw [if_neg h24]
      refine ⟨_, UInt8.ofNat m.kind.toNat :: varsL (msNs m), by rw [f1 h24], by unfold bodyM chainBs; rw [if_neg h24]; simp, by simp; omega⟩
  rw [hc, Option.bind_some]
  simp only
  have hrest : restO rf m.kind (bodyM m) a2 = some (m.ents, m.marks, m.data) := by
    unfold restO
    unfold tailM at ht
    by_cases h2 : m.kind = 2
    · rw [if_pos h2]
      rw [if_pos h2, Bool.and_eq_true] at ht
      unfold entsB at ht
      simp only [Bool.and_eq_true, decide_eq_true_eq] at ht
      have e : restBs m = varl m.ents.length ++ enBs m.ents := by unfold restBs; rw [if_pos h2]
      rw [ents_thereO (l := m.ents) (pre := pre2) (r := []) (entsF_mem ht.2.2) ht.2.1 (by rw [hb2, e]; simp) ha2, Option.map_some, f3 (by omega), f4 (by omega)]
    · rw [if_neg h2]
      rw [if_neg h2] at ht
      by_cases h4 : m.kind = 4
      · rw [if_pos h4]
        rw [if_pos h4, Bool.and_eq_true, marksT_iff] at ht
        have e : restBs m = varl m.marks.length ++ mksBs m.marks := by unfold restBs; rw [if_neg h2, if_pos h4]
        obtain ⟨d, hd2⟩ := mks_thereO (rf := rf) (l := m.marks) (b := bodyM m) (pre := pre2) (r := []) (a := a2) (fun x hx => markT_fit (ht.2.2 x hx)) ht.2.1.2 (by rw [hb2, e]; simp) ha2
        rw [hd2, Option.map_some, f2 h2, f4 (by omega)]
      · rw [if_neg h4]
        by_cases h6 : m.kind = 6
        · have e : restBs m = m.data := by unfold restBs; rw [if_neg h2, if_neg h4, if_pos h6]
          rw [if_pos h6, f2 h2, f3 h4, hb2, ha2, Int.toNat_natCast, List.drop_left, e]
        · rw [if_neg h6, f2 h2, f3 h4, f4 h6]
  rw [hrest, Option.map_some]
  rfl
theorem getM_iff {rf : Bool} {b : List UInt8} {m : Ms} : getM rf b = some m ↔ rightM m = true ∧ putM m = b := by
  constructor
  · intro hg
    unfold getM at hg
    obtain ⟨c, hc, hg⟩ := Option.bind_eq_some_iff.1 hg
    obtain ⟨h', hp, hg⟩ := Option.bind_eq_some_iff.1 hg
    split at hg
    · rename_i hq
      injection hg with hg
      subst hg
      exact hq
    · cases hg
  · rintro ⟨hr, rfl⟩
    unfold getM
    rw [show crcOpen (putM m) = some (bodyM m) from crcOpen_put _, Option.bind_some, parse_putM hr, Option.bind_some, if_pos ⟨hr, rfl⟩]
end Go.Proofs.Ytoeknbogaclfdaa

namespace Go.Proofs.Ytoeknbogaclfdaa
open Go.RowKit
set_option linter.unusedVariables false
set_option linter.unusedSimpArgs false
def nmT : ByteArray := ⟨#[126, 110]⟩
theorem nmT_name : nameM nmT = true := by decide
theorem and7 (n : Int) : bits .and .i64 n 7 = n % 8 := i64_low n 7 3 (by omega) (by decide)
end Go.Proofs.Ytoeknbogaclfdaa

namespace Go.Proofs.Ytoeknbogaclfdaa
open Go.RowKit
set_option linter.unusedVariables false
set_option linter.unusedSimpArgs false
def svI (l : List Int) (i : Nat) : Int := l.getD i 0
def bnd (v m : Int) : Int := bits BinOp.and IntKind.i64 v m
def kdI (v : Int) : Int := 1 + bnd v 255 % 9
def nmA : ByteArray := ⟨#[97]⟩
def entM (p : List UInt8) (t q : Int) (i : Nat) : En := ⟨t, q + 1 + (i : Int), (p.drop i).take 40⟩
def entsM (p : List UInt8) (t q : Int) (N : Nat) : List En := (List.range N).map (entM p t q)
def makeM (kind : Int) (n : List Int) (p : List UInt8) : Ms :=
  ⟨kdI kind, 1 + bnd (svI n 0) 1048575,
   if kdI kind = 1 ∨ kdI kind = 2 ∨ kdI kind = 4 then bnd (svI n 1) 65535 else 0,
   if kdI kind = 1 ∨ kdI kind = 2 then bnd (svI n 2) 65535 else 0,
   if kdI kind = 5 ∨ kdI kind = 6 then bnd (svI n 1) 15 else 0,
   if kdI kind = 5 ∨ kdI kind = 6 then bnd (svI n 2) 511 else if kdI kind = 9 then 1 + bnd (svI n 1) 255 % 13 else 0,
   if kdI kind = 2 ∨ kdI kind = 4 then (growL n).1 else [],
   if kdI kind = 2 then entsM p (1 + bnd (svI n 4) 63) (bnd (svI n 1) 65535) (min (bnd (svI n 3) 3).toNat p.length) else [],
   if kdI kind = 4 then [⟨1 + bnd (svI n 2) 7, nmA, bnd (svI n 3) 511, false⟩, ⟨9, nmT, 0, false⟩] else [],
   if kdI kind = 6 then p.take 64 else []⟩
theorem bnd20 (n : Int) : bnd n 1048575 = n % 1048576 := i64_low n 1048575 20 (by omega) (by decide)
theorem bnd16 (n : Int) : bnd n 65535 = n % 65536 := and65535 n
theorem bnd15 (n : Int) : bnd n 15 = n % 16 := and15 n
theorem bnd511 (n : Int) : bnd n 511 = n % 512 := and511 n
theorem bnd255 (n : Int) : bnd n 255 = n % 256 := and255 n
theorem bnd63 (n : Int) : bnd n 63 = n % 64 := and63 n
theorem bnd7 (n : Int) : bnd n 7 = n % 8 := and7 n
theorem bnd3 (n : Int) : bnd n 3 = n % 4 := and3 n
theorem kdI_bd (v : Int) : 1 ≤ kdI v ∧ kdI v ≤ 9 := by unfold kdI; rw [bnd255]; omega
theorem entsF_ok (p : List UInt8) (t q : Int) (ht : 1 ≤ t ∧ t ≤ 1073741824) (hq : 0 ≤ q ∧ q ≤ 65536) : ∀ (N i : Nat), i + N ≤ p.length → i + N ≤ 100 → entsF (q + (i : Int)) ((List.range' i N).map (entM p t q)) = true
  | 0, i, _, _ => rfl
  | N + 1, i, h1, h2 => by
    rw [List.range'_succ, List.map_cons, entsF]
    have e := entsF_ok p t q ht hq N (i + 1) (by omega) (by omega)
    rw [show q + (i : Int) + 1 = q + ((i + 1 : Nat) : Int) by push_cast; omega, e, Bool.and_true, Bool.and_eq_true]
    refine ⟨rightN_iff.2 ?_, ?_⟩
    · have : (entM p t q i).d.length = min 40 (p.length - i) := by simp [entM]
      rw [this]
      have e1 : (entM p t q i).t = t := rfl
      have e2 : (entM p t q i).s = q + 1 + (i : Int) := rfl
      rw [e1, e2]
      obtain ⟨z, hz⟩ : ∃ z, min 40 (p.length - i) = z := ⟨_, rfl⟩
      have hz1 : 1 ≤ z ∧ z ≤ 40 := by rw [← hz]; omega
      rw [hz]
      clear this e1 e2 hz e
      refine ⟨ht.1, ht.2, by omega, by omega, by omega, by omega⟩
    · show decide (q + 1 + (i : Int) = _) = true
      rw [decide_eq_true_eq]
      omega
theorem entsM_right (p : List UInt8) (t q : Int) (ht : 1 ≤ t ∧ t ≤ 1073741824) (hq : 0 ≤ q ∧ q ≤ 65536) (N : Nat) (hN : N ≤ p.length) (h4 : N ≤ 4) : entsB q (entsM p t q N) = true := by
  unfold entsB entsM
  have h := entsF_ok p t q ht hq N 0 (by omega) (by omega)
  rw [show q + ((0 : Nat) : Int) = q by omega] at h
  rw [List.range_eq_range', h, Bool.and_true, decide_eq_true_eq]
  simp
  exact h4
theorem nmA_name : nameM nmA = true := by decide
theorem bare_make (kind : Int) (n : List Int) (p : List UInt8) : bareM (makeM kind n p) = makeM kind n p := by
  unfold bareM makeM
  simp only [Ms.mk.injEq, true_and]
  refine ⟨?_, ?_, ?_, ?_, ?_, ?_, ?_, ?_⟩
  · split <;> simp_all
  · split <;> simp_all
  · split <;> simp_all
  · by_cases h : kdI kind = 5 ∨ kdI kind = 6
    · rw [if_pos h, if_pos (by omega)]
    · rw [if_neg h]
      by_cases h9 : kdI kind = 9
      · rw [if_pos (by omega)]
      · rw [if_neg h9, if_neg (by omega)]
  · split <;> simp_all
  · split <;> simp_all
  · split <;> simp_all
  · split <;> simp_all
theorem make_chain (n : List Int) (hn : n.length ≤ 40) : rightL (growL n).1 = true ∧ (growL n).1.length ≤ 20 := by
  have g := grown n
  have b := growL_bounds n
  exact ⟨rightL_iff.2 (g.right (by omega)), g.size⟩
theorem make_rightM (kind : Int) (n : List Int) (p : List UInt8) (hn : n.length ≤ 40) : rightM (makeM kind n p) = true := by
  have hk := kdI_bd kind
  obtain ⟨hc, _⟩ := make_chain n hn
  unfold rightM
  rw [Bool.and_eq_true, headM_iff]
  refine ⟨⟨hk, bare_make kind n p, ?_, ?_⟩, ?_⟩
  · unfold makeM
    simp only [bnd20, bnd16, bnd15, bnd511, bnd255]
    refine ⟨by omega, ?_, ?_, ?_, ?_⟩
    · split <;> omega
    · split <;> omega
    · split <;> omega
    · split
      · omega
      · split <;> omega
  · unfold makeM
    simp only
    split
    · rw [List.length_take]; omega
    · simp
  · unfold tailM
    by_cases h2 : kdI kind = 2
    · rw [if_pos (show (makeM kind n p).kind = 2 from h2)]
      have e1 : (makeM kind n p).chain = (growL n).1 := if_pos (.inl h2)
      have e2 : (makeM kind n p).pos = bnd (svI n 1) 65535 := if_pos (.inr (.inl h2))
      have e3 : (makeM kind n p).ents = entsM p (1 + bnd (svI n 4) 63) (bnd (svI n 1) 65535) (min (bnd (svI n 3) 3).toNat p.length) := if_pos h2
      rw [e1, e2, e3, hc, Bool.true_and]
      refine entsM_right _ _ _ ?_ ?_ _ ?_ ?_
      · rw [bnd63]; omega
      · rw [bnd16]; omega
      · omega
      · rw [bnd3]; omega
    · rw [if_neg (show ¬ (makeM kind n p).kind = 2 from h2)]
      by_cases h4 : kdI kind = 4
      · rw [if_pos (show (makeM kind n p).kind = 4 from h4)]
        have e1 : (makeM kind n p).chain = (growL n).1 := if_pos (.inr h4)
        have e2 : (makeM kind n p).marks = [⟨1 + bnd (svI n 2) 7, nmA, bnd (svI n 3) 511, false⟩, ⟨9, nmT, 0, false⟩] := if_pos h4
        rw [e1, e2, hc, Bool.true_and, marksT_iff]
        refine ⟨by simp, fun x hx => ?_⟩
        simp only [List.mem_cons, List.not_mem_nil, or_false] at hx
        unfold markT
        rw [Bool.and_eq_true, decide_eq_true_eq]
        rcases hx with rfl | rfl
        · refine ⟨?_, nmA_name⟩
          simp only [bnd7, bnd511]
          omega
        · exact ⟨by simp only; omega, nmT_name⟩
      · rw [if_neg (show ¬ (makeM kind n p).kind = 4 from h4)]
        by_cases h9 : kdI kind = 9
        · rw [if_pos (show (makeM kind n p).kind = 9 from h9)]
          have e1 : (makeM kind n p).num = 1 + bnd (svI n 1) 255 % 13 := by
            show (if kdI kind = 5 ∨ kdI kind = 6 then _ else if kdI kind = 9 then _ else _) = _
            rw [if_neg (by omega), if_pos h9]
          rw [e1, bnd255, decide_eq_true_eq]
          omega
        · rw [if_neg (show ¬ (makeM kind n p).kind = 9 from h9)]
theorem mksBs_lenM : ∀ (l : List Mk), (∀ x ∈ l, fitM x) → (mksBs l).length ≤ 60 * l.length
  | [], _ => by simp [mksBs]
  | x :: xs, h => by
    have h1 := mksBs_lenM xs (fun y hy => h y (List.mem_cons_of_mem _ hy))
    have h2 := (mkBs_len x).2
    have h3 := (h x (by simp)).2.2
    have e : mksBs (x :: xs) = mkBs x ++ mksBs xs := by simp [mksBs]
    rw [e, List.length_append, List.length_cons]
    omega
end Go.Proofs.Ytoeknbogaclfdaa

namespace Go.Proofs.Ytoeknbogaclfdaa
open Go.RowKit
set_option linter.unusedVariables false
set_option linter.unusedSimpArgs false
set_option linter.unnecessarySimpa false
set_option maxRecDepth 100000
theorem bytes_inj {a b : ByteArray} (h : a.toList = b.toList) : a = b := by
  rw [ByteArray.toList_eq, ByteArray.toList_eq] at h
  exact ByteArray.ext (Array.toList_inj.mp h)
def mkR (x : Mk) (cs : List Value) (w : World) : Prop := cs = [.int .i64 x.id, .string x.nm, .int .i64 x.sz, .bool x.gone]
theorem mk_rep : Rep 4 mkR where
  len := by rintro x cs w rfl; rfl
  one := by
    rintro x cs w rfl u hu
    simp at hu
    rcases hu with rfl | rfl | rfl | rfl <;> rfl
  keep := by
    rintro x cs w w' rfl hk
    rfl
  lt := by
    rintro x cs w rfl k ⟨ad, m, c', hm, _⟩
    simp at hm
theorem mk_nop {x : Mk} {cs : List Value} {w : World} (h : mkR x cs w) : ∀ k, ¬ Pts cs k := by
  rintro k ⟨ad, m, c', hm, _⟩
  rw [h] at hm
  simp at hm
abbrev TMk : TypeId := 48
theorem info_mk : (Try.prog.info? TMk).map (fun i => (i.zero, i.size, i.bytes)) = some (some (.agg #[.int .i64 0, .string ⟨#[]⟩, .int .i64 0, .bool false]), 4, 40) := by kernel_rfl
theorem under_mks : Try.prog.underlying 27 = some (.slice TMk) := by kernel_rfl
theorem tilde_nil {s : ByteArray} (h : ¬ 0 < s.size) : tildeB s = false := by
  unfold tildeB
  have : s.data.toList = [] := List.eq_nil_of_length_eq_zero (by rw [size_list]; omega)
  rw [this]
theorem tilde_at {s : ByteArray} (h : 0 < s.size) : tildeB s = decide ((s[0]).toNat = 126) := by
  unfold tildeB
  obtain ⟨⟨l⟩⟩ := s
  cases l with
  | nil => simp [ByteArray.size] at h
  | cons b l => rfl
theorem ref_hidden (s : ByteArray) (w : World) (hs : s.size ≤ 1000000) {t : Bool} (ht : Hid (tildeB s = t)) :
    Calls Try.prog 59 #[.string s] w fun e w' => e = .returned (.bool t) ∧ w = w' := by
  by_cases h0 : 0 < s.size
  · have h1 := tilde_at h0
    rw [ht.out] at h1
    cases t with
    | false =>
      have hb : (((s[0]).toNat : Int) == 126) = false := by
        have := h1.symm
        simp only [decide_eq_false_iff_not] at this
        simp
        omega
      clear h1 ht
      go_enter Try.func59, Try.ntmps59
      go_wp2_with fail
      go_ret
      exact ⟨rfl, rfl⟩
    | true =>
      have hb : (((s[0]).toNat : Int) == 126) = true := by
        have := h1.symm
        simp only [decide_eq_true_eq] at this
        simp
        omega
      clear h1 ht
      go_enter Try.func59, Try.ntmps59
      go_wp2_with fail
      go_ret
      exact ⟨rfl, rfl⟩
  · obtain rfl : false = t := by rw [← ht.out, tilde_nil h0]
    clear ht
    go_enter Try.func59, Try.ntmps59
    go_wp2_with fail
    go_ret
    exact ⟨rfl, rfl⟩
theorem tail_size {s : ByteArray} (hs : s.size ≤ 1000000) : (tailS s).size ≤ maxLen := by
  unfold tailS
  rw [ByteArray.size_extract]
  unfold maxLen
  omega
theorem ref_MarkName (s : ByteArray) (w : World) (hs : s.size ≤ 1000000) {t : Bool} (ht : Hid (nameM s = t)) :
    Calls Try.prog 58 #[.string s] w fun e w' => e = .returned (.bool t) ∧ w = w' := by
  obtain ⟨q, hq⟩ : ∃ q, tildeB s = q := ⟨_, rfl⟩
  have HQ := Lib.hid hq
  have h1 := ht.out
  unfold nameM at h1
  rw [hq] at h1
  have hm : s.size ≤ maxLen := by unfold maxLen; omega
  cases q with
  | false =>
    have hcl := fun w => ref_Name s w hm
    obtain ⟨b, hb⟩ : ∃ b, nameB s = b := ⟨_, rfl⟩
    rw [hb] at hcl h1
    obtain rfl : b = t := by rw [← h1]; simp
    clear h1 ht hq hb
    go_enter Try.func58, Try.ntmps58
    go_wp2_with fail
    refine (ref_hidden s _ hs HQ).mono ?_
    rintro e _ ⟨rfl, rfl⟩
    go_wp2_with fail
    refine (hcl _).mono ?_
    rintro e _ ⟨rfl, rfl⟩
    go_wp2_with fail
    go_ret
    exact ⟨rfl, rfl⟩
  | true =>
    have h0 : 0 < s.size := by
      by_cases h : 0 < s.size
      · exact h
      · rw [tilde_nil h] at hq; cases hq
    have hcl := fun w => ref_Name (tailS s) w (tail_size hs)
    unfold tailS at hcl h1
    obtain ⟨b, hb⟩ : ∃ b, nameB (s.extract 1 s.size) = b := ⟨_, rfl⟩
    rw [hb] at hcl h1
    obtain rfl : b = t := by rw [← h1]; simp
    clear h1 ht hq hb
    go_enter Try.func58, Try.ntmps58
    go_wp2_with fail
    refine (ref_hidden s _ hs HQ).mono ?_
    rintro e _ ⟨rfl, rfl⟩
    go_wp2_with fail
    refine (hcl _).mono ?_
    rintro e _ ⟨rfl, rfl⟩
    go_wp2_with fail
    go_ret
    exact ⟨rfl, rfl⟩
end Go.Proofs.Ytoeknbogaclfdaa

namespace Go.Proofs.Ytoeknbogaclfdaa
open Go.RowKit
set_option linter.unusedVariables false
set_option linter.unusedSimpArgs false
set_option linter.unnecessarySimpa false
set_option maxRecDepth 100000
abbrev INT : TypeId := 3
def intR (x : Int) (cs : List Value) (w : World) : Prop := cs = [.int .i64 x]
theorem int_rep : Rep 1 intR where
  len := by rintro x cs w rfl; rfl
  one := by
    rintro x cs w rfl u hu
    simp at hu
    subst hu
    rfl
  keep := by
    rintro x cs w w' rfl hk
    rfl
  lt := by
    rintro x cs w rfl k ⟨ad, m, c', hm, _⟩
    simp at hm
theorem Lst.atI {w : World} {A : Option Addr} {n c i : Nat} {xs : List Int} (h : Lst 1 intR w A n c xs) (hi : i < n) :
    ∃ (g o : Nat) (x : Int), A = some ⟨g, o, none⟩ ∧ xs[i]? = some x ∧ w.cell? ⟨g, o + i, none⟩ = some (.int .i64 x) := by
  obtain ⟨g, o, x, cs, e, hx, rfl, hc⟩ := h.at2 int_rep (by omega) hi
  refine ⟨g, o, x, e, hx, ?_⟩
  have := hc 0 _ rfl
  simpa using this
theorem drop_step {α : Type} {xs : List α} {k : Nat} {x : α} (hx : xs[k]? = some x) : xs.drop k = x :: xs.drop (k + 1) := by
  obtain ⟨h, rfl⟩ := List.getElem?_eq_some_iff.1 hx
  exact List.drop_eq_getElem_cons h
end Go.Proofs.Ytoeknbogaclfdaa
