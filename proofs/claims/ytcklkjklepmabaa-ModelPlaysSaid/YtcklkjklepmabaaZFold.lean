/-
  Images with snapshots: contract of the program's Fold.
-/
import Derived.Test.YtcklkjklepmabaaZFoldPlain
namespace Go.Proofs.Ytcklkjklepmabaa
open Go.RowKit
set_option linter.unusedVariables false
set_option linter.unusedSimpArgs false
set_option linter.unnecessarySimpa false
set_option maxRecDepth 100000

theorem StF.ext {w w' : World} {B : Nat} {A : Option Addr} {n c : Nat} {A2 : Option Addr} {n2 c2 : Nat} {s : St} (h : StF w B A n c A2 n2 c2 s) (hx : Ext w w') : StF w' B A n c A2 n2 c2 s := ⟨h.data.ext hx, h.snaps.ext (from_rep ol_rep B) hx, h.row⟩
theorem StF.low {w : World} {B B' : Nat} {A : Option Addr} {n c : Nat} {A2 : Option Addr} {n2 c2 : Nat} {s : St} (h : StF w B A n c A2 n2 c2 s) (hB : B' ≤ B) : StF w B' A n c A2 n2 c2 s := ⟨h.data.low hB, h.snaps.weak fun x cs q => ⟨q.1, fun k hk => Nat.le_trans hB (q.2 k hk)⟩, fun ad e h0 => Nat.le_trans hB (h.row ad e h0)⟩
theorem StF.sets {w : World} {B : Nat} {A : Option Addr} {n c : Nat} {A2 : Option Addr} {n2 c2 : Nat} {s : St} (h : StF w B A n c A2 n2 c2 s) {p : Addr} (hp : p.block < B) (u : Value) : StF (w.setCell p u) B A n c A2 n2 c2 s := by
  refine ⟨h.data.sets hp u, ?_, h.row⟩
  obtain ⟨css, h1, h2⟩ := h.snaps.rd
  exact ⟨h.snaps.len, h.snaps.cap, h.snaps.max, css, h1.mono fun x cs _ hr => (from_rep ol_rep B).keep _ _ _ _ hr fun k hk => Below.heap_setCell _ _ _ _ (by have := hr.2 k hk; omega), h2.keepBlk fun ad e h0 => Below.heap_setCell _ _ _ _ (by have := h.row ad e h0; omega)⟩
set_option maxHeartbeats 8000000 in
theorem model_Fold {A : Option Addr} {n c : Nat} {A2 : Option Addr} {n2 c2 : Nat} {st : St} {Ae : Option Addr} {ne ce : Nat} {xs : List Ev} {w : World} (hst : StR w A n c A2 n2 c2 st) (hok : okS st) (l1 : Lst 5 evR w Ae ne ce xs) :
    Calls Try.prog 48 #[stV A n c A2 n2 c2, .slice Ae ne ce] w fun e w' => ∃ A' n' c' A3 n3 c3, e = .returned (stV A' n' c' A3 n3 c3) ∧ StF w' w.heap.size A' n' c' A3 n3 c3 (foldS st xs) ∧ Ext w w' := by
  have h63 := l1.n63
  have hn : n ≤ 1000 := by have := hst.1.len; have := hok.1; omega
  have hn2 : n2 ≤ 1000 := by have := hst.2.len; have := hok.2.1; omega
  have hd := hok.2.2
  obtain ⟨W, hW⟩ : ∃ W, (w.alloc (.cells #[.slice A n c, .slice A2 n2 c2] TSt)).alloc (.cells #[.slice none 0 0, .slice none 0 0] TSt) = W := ⟨_, rfl⟩
  have g0 : Ext w W := by rw [← hW]; exact (Ext.alloc _ _).trans (Ext.alloc _ _)
  have hWs : W.heap.size = w.heap.size + 2 := by rw [← hW]; simp
  have s0 : W.cell? ⟨w.heap.size, 0, none⟩ = some (.slice A n c) := by rw [← hW]; exact (Ext.alloc _ _).cell (cell_new w _ _ 0)
  have s1 : W.cell? ⟨w.heap.size, 1, none⟩ = some (.slice A2 n2 c2) := by rw [← hW]; exact (Ext.alloc _ _).cell (cell_new w _ _ 1)
  have z0 : W.cell? ⟨w.heap.size + 1, 0, none⟩ = some (.slice none 0 0) := by rw [← hW]; have := cell_new (w.alloc (.cells #[.slice A n c, .slice A2 n2 c2] TSt)) #[.slice none 0 0, .slice none 0 0] TSt 0; simpa using this
  have z1 : W.cell? ⟨w.heap.size + 1, 1, none⟩ = some (.slice none 0 0) := by rw [← hW]; have := cell_new (w.alloc (.cells #[.slice A n c, .slice A2 n2 c2] TSt)) #[.slice none 0 0, .slice none 0 0] TSt 1; simpa using this
  have zf : ∀ q, W.frozen? ⟨w.heap.size + 1, q, none⟩ = false := fun q => by
    have e : (w.alloc (.cells #[.slice A n c, .slice A2 n2 c2] TSt)).heap.size = w.heap.size + 1 := by simp
    rw [← hW, ← e]
    unfold World.frozen?
    rw [heap_alloc_new]
    simp
  go_enter Try.func48, Try.ntmps48
  go_wp2_with fail
  refine (model_own (hst.ext g0) hn hn2 hd).mono ?_
  rintro e w2 ⟨A', c', A3, c3, B, rfl, hb, hown, hrow, hBw, hB2, h2⟩
  have g2 := g0.trans h2
  have hw2 := h2.size
  have hS0 : StF w2 (w.heap.size + 2) A' n c' A3 n2 c3 st := ⟨hb.fsl.low (by omega), hown.lst.weak fun x cs q => ⟨q.1, fun k hk => by have := q.2 k hk; omega⟩, fun ad e h0 => by have := hown.blockF h0 ad e; omega⟩
  clear hb hown hrow s0 s1 hW
  go_wp2_with fail
  obtain ⟨w3, hw3⟩ : ∃ w3, w2.alloc (.cells #[.slice A' n c', .slice A3 n2 c3] TSt) = w3 := ⟨_, rfl⟩
  obtain ⟨go, hgo⟩ : ∃ go, w2.heap.size = go := ⟨_, rfl⟩
  have hx3 : Ext w2 w3 := by rw [← hw3]; exact Ext.alloc _ _
  have q0 : w3.cell? ⟨go, 0, none⟩ = some (.slice A' n c') := by rw [← hw3, ← hgo]; exact cell_new w2 _ _ 0
  have q1 : w3.cell? ⟨go, 1, none⟩ = some (.slice A3 n2 c3) := by rw [← hw3, ← hgo]; exact cell_new w2 _ _ 1
  have qf : ∀ q, w3.frozen? ⟨go, q, none⟩ = false := fun q => by
    rw [← hw3, ← hgo]
    unfold World.frozen?
    rw [heap_alloc_new]
    simp
  have qs : w3.heap.size = go + 1 := by rw [← hw3, ← hgo]; simp
  rw [hw3, hgo]
  clear hw3
  go_loopw [14] (fun i wr => ∃ (k : Nat) (A1 : Option Addr) (n1 c1 : Nat) (A4 : Option Addr) (n4 c4 : Nat), k ≤ ne ∧ i = .int .i64 k ∧ wr.cell? ⟨go, 0, none⟩ = some (.slice A1 n1 c1) ∧ wr.cell? ⟨go, 1, none⟩ = some (.slice A4 n4 c4) ∧ (∀ q, wr.frozen? ⟨go, q, none⟩ = false) ∧ StF wr (w.heap.size + 2) A1 n1 c1 A4 n4 c4 (foldS st (xs.take k)) ∧ go < wr.heap.size ∧ Ext w2 wr) (fun i _ => ne - (intOf i).toNat)
  case atStart => exact ⟨0, A', n, c', A3, n2, c3, by omega, rfl, q0, q1, qf, by simpa [foldS] using hS0.ext hx3, by omega, hx3⟩
  case round =>
    obtain ⟨k, A1, n1, c1, A4, n4, c4, hk, rfl, r0, r1, rf, hS, hsz, hxr⟩ := hrel
    clear q0 q1 qf qs hS0
    have gxr := g2.trans hxr
    by_cases hlt : k < ne
    · obtain ⟨ga, oa, x, cs, rfl, hx, ⟨Aa, na, ca, rfl, sa0, hs⟩, ha⟩ := l1.at2 ev_rep (by omega) hlt
      have a0 : wr.cell? ⟨ga, oa + k * 5, none⟩ = _ := gxr.cell (ha 0 _ rfl)
      have a1 := gxr.cell (ha 1 _ rfl)
      have a2 := gxr.cell (ha 2 _ rfl)
      have a3 := gxr.cell (ha 3 _ rfl)
      have a4 := gxr.cell (ha 4 _ rfl)
      have sa := sa0.ext gxr
      have hna := sa0.len
      have HT := fold_next (st := st) hx
      have hok1 := okS_fold hok (xs.take k)
      obtain ⟨T, hT⟩ : ∃ T, foldS st (xs.take k) = T := ⟨_, rfl⟩
      obtain ⟨T1, hT1⟩ : ∃ T1, foldS st (xs.take (k + 1)) = T1 := ⟨_, rfl⟩
      rw [hT] at HT hok1 hS
      rw [hT1] at HT
      replace hT1 := Lib.hid hT1
      obtain ⟨xk, xo, xm, xl, xs'⟩ := x
      simp only at a0 a1 a2 a3 a4 sa hna hs
      unfold stepS at HT
      simp only at HT
      rw [hna] at HT
      obtain ⟨r, hr⟩ : ∃ r, checkN T xk xo xm na xs' = r := ⟨_, rfl⟩
      rw [hr] at HT
      obtain ⟨q1, q2, q3⟩ := hok1
      have hn1 : n1 ≤ 1000 := by have := hS.data.sl.len; omega
      have hn4 : n4 ≤ 1000 := by have := hS.snaps.len; omega
      obtain ⟨w5, hw5⟩ : ∃ w5, wr.alloc (.cells #[.int .i64 xk, .int .i64 xo, .int .i64 xm, .slice Aa na ca, .string xs'] 28) = w5 := ⟨_, rfl⟩
      have hx5 : Ext wr w5 := by rw [← hw5]; exact Ext.alloc _ _
      have t0 : w5.cell? ⟨wr.heap.size, 0, none⟩ = some (.int .i64 xk) := by rw [← hw5]; exact cell_new wr _ _ 0
      have t1 : w5.cell? ⟨wr.heap.size, 1, none⟩ = some (.int .i64 xo) := by rw [← hw5]; exact cell_new wr _ _ 1
      have t2 : w5.cell? ⟨wr.heap.size, 2, none⟩ = some (.int .i64 xm) := by rw [← hw5]; exact cell_new wr _ _ 2
      have t3 : w5.cell? ⟨wr.heap.size, 3, none⟩ = some (.slice Aa na ca) := by rw [← hw5]; exact cell_new wr _ _ 3
      have t4 : w5.cell? ⟨wr.heap.size, 4, none⟩ = some (.string xs') := by rw [← hw5]; exact cell_new wr _ _ 4
      have hs5 := hx5.size
      replace r0 := hx5.cell r0
      replace r1 := hx5.cell r1
      have rf5 : ∀ q, w5.frozen? ⟨go, q, none⟩ = false := fun q => frozen_ext hx5 hsz (rf q)
      have hS5 := hS.ext hx5
      have sa5 := sa.ext hx5
      have hg5 : go < w5.heap.size := by omega
      have HR := Lib.hid hr
      clear ha hx sa0 rf hS sa hna hT
      by_cases hr0 : r = 0
      · subst hr0
        rw [if_pos rfl] at HT
        have HS2 : Hid (appliedS 0 T xk xo xm xl xs' = T1) := Lib.hid (by unfold appliedS; rw [if_pos rfl]; exact HT.symm)
        clear HT hr
        go_wp2_with fail
        refine (model_Apply hS5.st hn1 hn4 q3 sa5 hs HR HS2).mono ?_
        rintro e w6 ⟨A7, n7, c7, A8, n8, c8, rfl, h7, hx6⟩
        obtain ⟨w8, hw8⟩ : ∃ w8, w6.alloc (.cells #[.slice A7 n7 c7, .slice A8 n8 c8] TSt) = w8 := ⟨_, rfl⟩
        have hx8 : Ext w6 w8 := by rw [← hw8]; exact Ext.alloc _ _
        have u0 : w8.cell? ⟨w6.heap.size, 0, none⟩ = some (.slice A7 n7 c7) := by rw [← hw8]; exact cell_new w6 _ _ 0
        have u1 : w8.cell? ⟨w6.heap.size, 1, none⟩ = some (.slice A8 n8 c8) := by rw [← hw8]; exact cell_new w6 _ _ 1
        have hx58 := hx6.trans hx8
        have h78 := h7.ext hx8
        replace r0 := hx58.cell r0
        replace r1 := hx58.cell r1
        have rf8 : ∀ q, w8.frozen? ⟨go, q, none⟩ = false := fun q => frozen_ext hx58 hg5 (rf5 q)
        have f0 := rf8 0
        have f1 := rf8 1
        have hs58 := hx58.size
        have hx28 := (hxr.trans hx5).trans hx58
        have hg2 := g2.size
        clear rf5 h7
        go_wp2_with fail
        go_roundw
        case rel =>
          refine ⟨k + 1, A7, n7, c7, A8, n8, c8, by omega, by go_num, ?_, ?_, ?_, ?_, ?_, ?_⟩
          · rw [World.cell?_setCell_other _ _ _ _ (fun e => by injection e with e1 e2; omega)]
            exact World.cell?_setCell_same _ _ _ r0
          · exact World.cell?_setCell_same _ _ _ (by rw [World.cell?_setCell_other _ _ _ _ (fun e => by injection e with e1 e2; omega)]; exact r1)
          · intro q
            rw [World.frozen?_setCell, World.frozen?_setCell]
            exact rf8 q
          · rw [hT1.out]
            exact ((h78.sets (p := ⟨go, 0, none⟩) hg5 _).sets (p := ⟨go, 1, none⟩) hg5 _).low (by omega)
          · simp [World.setCell]; omega
          · exact (hx28.sets (by simp only; omega) _).sets (by simp only; omega) _
        case measure => simp [intOf]; omega
      · rw [if_neg hr0] at HT
        subst HT
        obtain ⟨T2, hT2⟩ : ∃ T2, appliedS r T1 xk xo xm xl xs' = T2 := ⟨_, rfl⟩
        have HS2 := Lib.hid hT2
        have qr : ((r : Int) == 0) = false := by simp; omega
        have qr2 : decide ((r : Int) = 0) = false := by simp; omega
        clear hr hT2
        go_wp2_with fail
        refine (model_Apply hS5.st hn1 hn4 q3 sa5 hs HR HS2).mono ?_
        rintro e w6 ⟨A7, n7, c7, A8, n8, c8, rfl, h7, hx6⟩
        obtain ⟨w8, hw8⟩ : ∃ w8, w6.alloc (.cells #[.slice A7 n7 c7, .slice A8 n8 c8] TSt) = w8 := ⟨_, rfl⟩
        have hx8 : Ext w6 w8 := by rw [← hw8]; exact Ext.alloc _ _
        have hx58 := hx6.trans hx8
        replace r0 := hx58.cell r0
        replace r1 := hx58.cell r1
        have rf8 : ∀ q, w8.frozen? ⟨go, q, none⟩ = false := fun q => frozen_ext hx58 hg5 (rf5 q)
        have hs58 := hx58.size
        have hx28 := (hxr.trans hx5).trans hx58
        have hS8 := hS5.ext hx58
        clear rf5 h7
        go_wp2_with fail
        go_roundw
        case rel => exact ⟨k + 1, A1, n1, c1, A4, n4, c4, by omega, by go_num, r0, r1, rf8, (by rw [hT1.out]; exact hS8), by omega, hx28⟩
        case measure => simp [intOf]; omega
    · obtain rfl : ne = k := by omega
      rw [List.take_of_length_le (by rw [l1.len]; exact Nat.le_refl _)] at hS
      have hxx := h2.trans hxr
      have y0 := hxx.cell z0
      have y1 := hxx.cell z1
      have yf : ∀ q, wr.frozen? ⟨w.heap.size + 1, q, none⟩ = false := fun q => frozen_ext hxx (by simp only; omega) (zf q)
      have f0 := yf 0
      have f1 := yf 1
      clear zf rf yf
      go_wp2_with fail
      refine bodyPost_ret (v := stV A1 n1 c1 A4 n4 c4) ?hres rfl ⟨A1, n1, c1, A4, n4, c4, rfl, ?hss, ?hxx⟩
      case hres => simp [results, Try.results48, go_sem, y0, y1]
      case hss => exact ((hS.sets (p := ⟨w.heap.size + 1, 0, none⟩) (by simp only; omega) _).sets (p := ⟨w.heap.size + 1, 1, none⟩) (by simp only; omega) _).low (by omega)
      case hxx => exact (gxr.sets (by simp) _).sets (by simp) _
end Go.Proofs.Ytcklkjklepmabaa
