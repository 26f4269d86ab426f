/-
  Chapter 8: the statement HeaderTells, walked.
-/
import Derived.Test.YtoeknbogaclfdaaZLaw8
import Derived.Test.YtoeknbogaclfdaaZHdGetR
namespace Go.Proofs.Ytoeknbogaclfdaa
open Go.RowKit
set_option linter.unusedVariables false
set_option linter.unusedSimpArgs false
set_option linter.unnecessarySimpa false
set_option maxRecDepth 100000

def findN (l : List Mk) (s : ByteArray) : Option Mk := l.find? fun x => decide (x.nm = s)
theorem findN_seen (l : List Mk) (s : ByteArray) : findN (seenL l) s = findM l s := by
  unfold findN findM seenL
  rw [List.find?_filter]
  congr 1
  funext a
  cases seenM a <;> simp
theorem findN_at {l : List Mk} {s : ByteArray} {j : Nat} {x : Mk} (h : l[j]? = some x) : findN (l.drop j) s = if x.nm = s then some x else findN (l.drop (j + 1)) s := by
  obtain ⟨hl, rfl⟩ := List.getElem?_eq_some_iff.1 h
  unfold findN
  rw [List.drop_eq_getElem_cons hl, List.find?_cons]
  by_cases e : l[j].nm = s
  · rw [if_pos e]; simp [e]
  · rw [if_neg e]; simp [e]
def SeenT (xs : List Mk) : Ty := fun v w => ∃ A n c, v = .slice A n c ∧ Lst 4 mkR w A n c xs
theorem SeenT.keeps (xs : List Mk) : Keeps Ext (SeenT xs) := fun _ _ _ hx ⟨A, n, c, e, h⟩ => ⟨A, n, c, e, h.ext mk_rep hx⟩
abbrev mkC (x : Mk) : Array Value := #[.int .i64 x.id, .string x.nm, .int .i64 x.sz, .bool x.gone]
set_option maxHeartbeats 8000000 in
theorem law_HeaderTells (h : Hd) (A : Option Addr) (n c : Nat) (A1 : Option Addr) (n1 c1 : Nat) (b : List UInt8) (s : ByteArray) (sl : Bool) (w : World) (hl : Lst 4 mkR w A n c h.marks) (hs : ∀ x ∈ h.marks, x.nm.size ≤ maxLen) (hb : Sl w A1 n1 c1 b) (hss : s.size ≤ maxLen) :
    Calls Try.prog 8 #[hdV h A n c, .slice A1 n1 c1, .string s, .bool sl] w fun e w' => e = .returned (.bool true) ∧ Ext w w' := by
  have h63 := hl.n63
  have hb63 := hb.n63
  unfold maxLen at hss
  have HSM := Lib.hid hs
  obtain ⟨res, hres⟩ : ∃ q, fewH h.marks = q := ⟨_, rfl⟩
  have HRS := Lib.hid hres
  obtain ⟨r1, h2, h3, h4, nx, sq, xs⟩ := h
  simp only at hl hs hres HRS HSM
  have gx0 : Ext w (w.alloc (.cells #[.int .i64 r1, .int .i64 h2, .int .i64 h3, .int .i64 h4, .int .i64 nx, .int .i64 sq, .slice A n c] THd)) := Ext.alloc _ _
  clear hs
  cases res with
  | false =>
    clear hres
    go_enter Try.func8, Try.ntmps8
    go_wp2_with fail
    refine (law8_few ⟨r1, h2, h3, h4, nx, sq, xs⟩ (hl.ext mk_rep gx0) HSM HRS).mono ?_
    rintro e u1 ⟨rfl, hx1⟩
    go_wp2_with fail
    refine (law8_known u1).mono ?_
    rintro e wz ⟨rfl, hxz⟩
    go_wp2_with fail
    go_ret
    exact ⟨rfl, (gx0.trans hx1).trans hxz⟩
  | true =>
  by_cases hn300 : 300 < n1
  · clear hres
    go_enter Try.func8, Try.ntmps8
    go_wp2_with fail
    refine (law8_few ⟨r1, h2, h3, h4, nx, sq, xs⟩ (hl.ext mk_rep gx0) HSM HRS).mono ?_
    rintro e u1 ⟨rfl, hx1⟩
    go_wp2_with fail
    refine (law8_known u1).mono ?_
    rintro e wz ⟨rfl, hxz⟩
    go_wp2_with fail
    go_ret
    exact ⟨rfl, (gx0.trans hx1).trans hxz⟩
  by_cases hs60 : 60 < s.size
  · clear hres
    have d300 : decide ((300 : Int) < (n1 : Int)) = false := by simp; omega
    go_enter Try.func8, Try.ntmps8
    go_wp2_with fail
    refine (law8_few ⟨r1, h2, h3, h4, nx, sq, xs⟩ (hl.ext mk_rep gx0) HSM HRS).mono ?_
    rintro e u1 ⟨rfl, hx1⟩
    go_wp2_with fail
    refine (law8_known u1).mono ?_
    rintro e wz ⟨rfl, hxz⟩
    go_wp2_with fail
    go_ret
    exact ⟨rfl, (gx0.trans hx1).trans hxz⟩
  have d300 : decide ((300 : Int) < (n1 : Int)) = false := by simp; omega
  have d60 : decide ((60 : Int) < (s.size : Int)) = false := by simp; omega
  have hfw := fewH_iff.1 hres
  have HSH : Hid (Shorts xs) := fun x hx => by have := hfw.1 x hx; omega
  have HX40 := Lib.hid hfw.2
  have hn40 : n ≤ 40 := by rw [← hl.len]; exact hfw.2
  have HFEW := HRS
  clear HRS hfw hres
  obtain ⟨B, hB⟩ : ∃ B, (if sl = true then put b (crcOf b) 4 else b) = B := ⟨_, rfl⟩
  obtain ⟨r, hr⟩ : ∃ q, rightH ⟨r1, h2, h3, h4, nx, sq, xs⟩ = q := ⟨_, rfl⟩
  have HR := Lib.hid hr
  obtain ⟨L, hL⟩ : ∃ q, putHr ⟨r1, h2, h3, h4, nx, sq, xs⟩ r = q := ⟨_, rfl⟩
  have HL := Lib.hid hL
  obtain ⟨er, her⟩ : ∃ q : Int, (if r = true then (0 : Int) else 1) = q := ⟨_, rfl⟩
  obtain ⟨o, ho⟩ : ∃ q, getH false B = q := ⟨_, rfl⟩
  have HO := Lib.hid ho
  have HO2 : Hid (getH true B = o) := by unfold Hid; rw [getH_ref, ho]
  obtain ⟨y, hy⟩ : ∃ q, whyO (crcOpen B) o.isSome = q := ⟨_, rfl⟩
  have HY := Lib.hid hy
  obtain ⟨P, hP⟩ : ∃ q, o.getD hd0 = q := ⟨_, rfl⟩
  have HP := Lib.hid hP
  obtain ⟨p1, p2, p3, p4, p5, p6, ps⟩ := P
  have HSS : Hid (sameHd ⟨p1, p2, p3, p4, p5, p6, ps⟩ ⟨p1, p2, p3, p4, p5, p6, ps⟩ = true) := by unfold Hid sameHd; simp
  have HSA : Hid (sameHd ⟨r1, h2, h3, h4, nx, sq, xs⟩ ⟨r1, h2, h3, h4, nx, sq, xs⟩ = true) := by unfold Hid sameHd; simp
  obtain ⟨sp, hsp⟩ : ∃ q, sameHd ⟨r1, h2, h3, h4, nx, sq, xs⟩ ⟨p1, p2, p3, p4, p5, p6, ps⟩ = q := ⟨_, rfl⟩
  have HSP := Lib.hid hsp
  obtain ⟨R, hR⟩ : ∃ q, seenL xs = q := ⟨_, rfl⟩
  have HRS := Lib.hid hR
  obtain ⟨fo, hfo⟩ : ∃ q, findM xs s = q := ⟨_, rfl⟩
  have HFM := Lib.hid hfo
  have HFN : Hid (findN R s = fo) := by unfold Hid; rw [← hR, findN_seen, hfo]
  obtain ⟨fm, hfm⟩ : ∃ q, fo.getD mk0 = q := ⟨_, rfl⟩
  have HFG := Lib.hid hfm
  obtain ⟨ne, hne⟩ : ∃ q, newestI xs = q := ⟨_, rfl⟩
  have HNE := Lib.hid hne
  obtain ⟨qs, hqs⟩ : ∃ q, shapeB h2 h3 h4 = q := ⟨_, rfl⟩
  have HQS := Lib.hid hqs
  have HSR : Hid (sameMk R R = true) := by unfold Hid sameMk; simp
  clear hr hL ho hy hP hsp hR hfo hfm hne hqs
  go_enter Try.func8, Try.ntmps8
  go_wp2_with fail
  refine (law8_few ⟨r1, h2, h3, h4, nx, sq, xs⟩ (hl.ext mk_rep gx0) HSM HFEW).mono ?_
  rintro e u1 ⟨rfl, hx1⟩
  have b0 : u1.cell? ⟨w.heap.size, 0, none⟩ = some (.int .i64 r1) := hx1.cell (cell_new w #[.int .i64 r1, .int .i64 h2, .int .i64 h3, .int .i64 h4, .int .i64 nx, .int .i64 sq, .slice A n c] THd 0)
  have b1 : u1.cell? ⟨w.heap.size, 1, none⟩ = some (.int .i64 h2) := hx1.cell (cell_new w #[.int .i64 r1, .int .i64 h2, .int .i64 h3, .int .i64 h4, .int .i64 nx, .int .i64 sq, .slice A n c] THd 1)
  have b2 : u1.cell? ⟨w.heap.size, 2, none⟩ = some (.int .i64 h3) := hx1.cell (cell_new w #[.int .i64 r1, .int .i64 h2, .int .i64 h3, .int .i64 h4, .int .i64 nx, .int .i64 sq, .slice A n c] THd 2)
  have b3 : u1.cell? ⟨w.heap.size, 3, none⟩ = some (.int .i64 h4) := hx1.cell (cell_new w #[.int .i64 r1, .int .i64 h2, .int .i64 h3, .int .i64 h4, .int .i64 nx, .int .i64 sq, .slice A n c] THd 3)
  have b4 : u1.cell? ⟨w.heap.size, 4, none⟩ = some (.int .i64 nx) := hx1.cell (cell_new w #[.int .i64 r1, .int .i64 h2, .int .i64 h3, .int .i64 h4, .int .i64 nx, .int .i64 sq, .slice A n c] THd 4)
  have b5 : u1.cell? ⟨w.heap.size, 5, none⟩ = some (.int .i64 sq) := hx1.cell (cell_new w #[.int .i64 r1, .int .i64 h2, .int .i64 h3, .int .i64 h4, .int .i64 nx, .int .i64 sq, .slice A n c] THd 5)
  have b6 : u1.cell? ⟨w.heap.size, 6, none⟩ = some (.slice A n c) := hx1.cell (cell_new w #[.int .i64 r1, .int .i64 h2, .int .i64 h3, .int .i64 h4, .int .i64 nx, .int .i64 sq, .slice A n c] THd 6)
  have gx1 := gx0.trans hx1
  clear gx0 hx1 HSM HFEW
  cases sl with
  | false =>
    obtain rfl : b = B := hB
    have hsB := hb.ext gx1
    have hnB : n1 ≤ 304 := by omega
    have hlw := hl.ext mk_rep gx1
    go_wp2_with fail
    refine (header_Put ⟨r1, h2, h3, h4, nx, sq, xs⟩ hlw HSH (by omega) HR HL).mono ?_
    rintro e w2 ⟨A2, n2, c2, rfl, hb2, hx2⟩
    rw [her]
    replace b0 := hx2.cell b0
    replace b1 := hx2.cell b1
    replace b2 := hx2.cell b2
    replace b3 := hx2.cell b3
    replace b4 := hx2.cell b4
    replace b5 := hx2.cell b5
    replace b6 := hx2.cell b6
    replace gx1 := gx1.trans hx2
    replace hsB := hsB.ext hx2
    clear hx2 hlw
    have hlw := hl.ext mk_rep gx1
    go_wp2_with fail
    refine (ref_PutHead ⟨r1, h2, h3, h4, nx, sq, xs⟩ hlw HSH (by omega) HR HL).mono ?_
    rintro e w3 ⟨A3, n3, c3, rfl, hb3, hx3⟩
    rw [her]
    replace b0 := hx3.cell b0
    replace b1 := hx3.cell b1
    replace b2 := hx3.cell b2
    replace b3 := hx3.cell b3
    replace b4 := hx3.cell b4
    replace b5 := hx3.cell b5
    replace b6 := hx3.cell b6
    replace gx1 := gx1.trans hx3
    replace hsB := hsB.ext hx3
    have tb2 := hb2.sl.ext hx3
    have tb3 := hb3.sl
    clear hx3 hlw hb2 hb3
    go_wp2_with fail
    have hgc := header_Get hsB (by omega) HO HY
    rw [HP.out] at hgc
    simp only at hgc
    refine hgc.mono ?_
    rintro e w4 ⟨A4, n4, c4, rfl, l4, hx4⟩
    clear hgc
    have hx5 := hx4.allocs (.cells #[.int .i64 p1, .int .i64 p2, .int .i64 p3, .int .i64 p4, .int .i64 p5, .int .i64 p6, .slice A4 n4 c4] THd)
    replace b0 := hx5.cell b0
    have d0 := cell_new w4 #[.int .i64 p1, .int .i64 p2, .int .i64 p3, .int .i64 p4, .int .i64 p5, .int .i64 p6, .slice A4 n4 c4] THd 0
    replace b1 := hx5.cell b1
    have d1 := cell_new w4 #[.int .i64 p1, .int .i64 p2, .int .i64 p3, .int .i64 p4, .int .i64 p5, .int .i64 p6, .slice A4 n4 c4] THd 1
    replace b2 := hx5.cell b2
    have d2 := cell_new w4 #[.int .i64 p1, .int .i64 p2, .int .i64 p3, .int .i64 p4, .int .i64 p5, .int .i64 p6, .slice A4 n4 c4] THd 2
    replace b3 := hx5.cell b3
    have d3 := cell_new w4 #[.int .i64 p1, .int .i64 p2, .int .i64 p3, .int .i64 p4, .int .i64 p5, .int .i64 p6, .slice A4 n4 c4] THd 3
    replace b4 := hx5.cell b4
    have d4 := cell_new w4 #[.int .i64 p1, .int .i64 p2, .int .i64 p3, .int .i64 p4, .int .i64 p5, .int .i64 p6, .slice A4 n4 c4] THd 4
    replace b5 := hx5.cell b5
    have d5 := cell_new w4 #[.int .i64 p1, .int .i64 p2, .int .i64 p3, .int .i64 p4, .int .i64 p5, .int .i64 p6, .slice A4 n4 c4] THd 5
    replace b6 := hx5.cell b6
    have d6 := cell_new w4 #[.int .i64 p1, .int .i64 p2, .int .i64 p3, .int .i64 p4, .int .i64 p5, .int .i64 p6, .slice A4 n4 c4] THd 6
    replace gx1 := gx1.trans hx5
    replace hsB := hsB.ext hx5
    replace tb2 := tb2.ext hx5
    replace tb3 := tb3.ext hx5
    have l4' := l4.lst.ext mk_rep (Ext.alloc w4 (.cells #[.int .i64 p1, .int .i64 p2, .int .i64 p3, .int .i64 p4, .int .i64 p5, .int .i64 p6, .slice A4 n4 c4] THd))
    clear hx4 hx5 l4
    go_wp2_with fail
    have hgc := ref_GetHead hsB (by omega) HO2 HY
    rw [HP.out] at hgc
    simp only at hgc
    refine hgc.mono ?_
    rintro e w6 ⟨A6, n6, c6, rfl, l6, hx6⟩
    clear hgc
    have hx7 := hx6.allocs (.cells #[.int .i64 p1, .int .i64 p2, .int .i64 p3, .int .i64 p4, .int .i64 p5, .int .i64 p6, .slice A6 n6 c6] THd)
    replace b0 := hx7.cell b0
    replace d0 := hx7.cell d0
    have f0 := cell_new w6 #[.int .i64 p1, .int .i64 p2, .int .i64 p3, .int .i64 p4, .int .i64 p5, .int .i64 p6, .slice A6 n6 c6] THd 0
    replace b1 := hx7.cell b1
    replace d1 := hx7.cell d1
    have f1 := cell_new w6 #[.int .i64 p1, .int .i64 p2, .int .i64 p3, .int .i64 p4, .int .i64 p5, .int .i64 p6, .slice A6 n6 c6] THd 1
    replace b2 := hx7.cell b2
    replace d2 := hx7.cell d2
    have f2 := cell_new w6 #[.int .i64 p1, .int .i64 p2, .int .i64 p3, .int .i64 p4, .int .i64 p5, .int .i64 p6, .slice A6 n6 c6] THd 2
    replace b3 := hx7.cell b3
    replace d3 := hx7.cell d3
    have f3 := cell_new w6 #[.int .i64 p1, .int .i64 p2, .int .i64 p3, .int .i64 p4, .int .i64 p5, .int .i64 p6, .slice A6 n6 c6] THd 3
    replace b4 := hx7.cell b4
    replace d4 := hx7.cell d4
    have f4 := cell_new w6 #[.int .i64 p1, .int .i64 p2, .int .i64 p3, .int .i64 p4, .int .i64 p5, .int .i64 p6, .slice A6 n6 c6] THd 4
    replace b5 := hx7.cell b5
    replace d5 := hx7.cell d5
    have f5 := cell_new w6 #[.int .i64 p1, .int .i64 p2, .int .i64 p3, .int .i64 p4, .int .i64 p5, .int .i64 p6, .slice A6 n6 c6] THd 5
    replace b6 := hx7.cell b6
    replace d6 := hx7.cell d6
    have f6 := cell_new w6 #[.int .i64 p1, .int .i64 p2, .int .i64 p3, .int .i64 p4, .int .i64 p5, .int .i64 p6, .slice A6 n6 c6] THd 6
    replace gx1 := gx1.trans hx7
    replace tb2 := tb2.ext hx7
    replace tb3 := tb3.ext hx7
    replace l4' := l4'.ext mk_rep hx7
    have l6' := l6.lst.ext mk_rep (Ext.alloc w6 (.cells #[.int .i64 p1, .int .i64 p2, .int .i64 p3, .int .i64 p4, .int .i64 p5, .int .i64 p6, .slice A6 n6 c6] THd))
    have t2 := run_text_u8 tb2
    have t3 := run_text_u8 tb3
    clear hx6 hx7 l6 hsB tb2 tb3
    go_wp2_with fail
    refine (ref_SameHead ⟨p1, p2, p3, p4, p5, p6, ps⟩ ⟨p1, p2, p3, p4, p5, p6, ps⟩ l4' l6' HSS).mono ?_
    rintro e w8 ⟨rfl, hx8⟩
    replace b0 := hx8.cell b0
    replace d0 := hx8.cell d0
    replace b1 := hx8.cell b1
    replace d1 := hx8.cell d1
    replace b2 := hx8.cell b2
    replace d2 := hx8.cell d2
    replace b3 := hx8.cell b3
    replace d3 := hx8.cell d3
    replace b4 := hx8.cell b4
    replace d4 := hx8.cell d4
    replace b5 := hx8.cell b5
    replace d5 := hx8.cell d5
    replace b6 := hx8.cell b6
    replace d6 := hx8.cell d6
    replace gx1 := gx1.trans hx8
    replace l4' := l4'.ext mk_rep hx8
    clear hx8 l6' f0 f1 f2 f3 f4 f5 f6 t2 t3
    have hlw := hl.ext mk_rep gx1
    go_wp2_with fail
    refine (ref_Seen ⟨r1, h2, h3, h4, nx, sq, xs⟩ hlw HSH (by omega) HRS).mono ?_
    rintro e w9 ⟨A9, n9, c9, rfl, l9, hx9⟩
    have hn9 : n9 ≤ 40 := by rw [← l9.len, ← HRS.out]; exact Nat.le_trans (List.length_filter_le _ _) HX40.out
    replace b0 := hx9.cell b0
    replace d0 := hx9.cell d0
    replace b1 := hx9.cell b1
    replace d1 := hx9.cell d1
    replace b2 := hx9.cell b2
    replace d2 := hx9.cell d2
    replace b3 := hx9.cell b3
    replace d3 := hx9.cell d3
    replace b4 := hx9.cell b4
    replace d4 := hx9.cell d4
    replace b5 := hx9.cell b5
    replace d5 := hx9.cell d5
    replace b6 := hx9.cell b6
    replace d6 := hx9.cell d6
    replace gx1 := gx1.trans hx9
    replace l4' := l4'.ext mk_rep hx9
    replace l9 := l9.lst
    clear hx9 hlw
    have hlw := hl.ext mk_rep gx1
    go_wp2_with fail
    have hfc := header_Find ⟨r1, h2, h3, h4, nx, sq, xs⟩ s hlw HSH HFM
    rw [HFG.out] at hfc
    refine hfc.mono ?_
    rintro e w10 ⟨rfl, hx10⟩
    clear hfc
    obtain ⟨f1, f2, f3, f4⟩ := fm
    have hx11 := hx10.allocs (.cells #[.int .i64 f1, .string f2, .int .i64 f3, .bool f4] TMk)
    replace b0 := hx11.cell b0
    replace d0 := hx11.cell d0
    replace b1 := hx11.cell b1
    replace d1 := hx11.cell d1
    replace b2 := hx11.cell b2
    replace d2 := hx11.cell d2
    replace b3 := hx11.cell b3
    replace d3 := hx11.cell d3
    replace b4 := hx11.cell b4
    replace d4 := hx11.cell d4
    replace b5 := hx11.cell b5
    replace d5 := hx11.cell d5
    replace b6 := hx11.cell b6
    replace d6 := hx11.cell d6
    have m0 := cell_new w10 #[.int .i64 f1, .string f2, .int .i64 f3, .bool f4] TMk 0
    have m1 := cell_new w10 #[.int .i64 f1, .string f2, .int .i64 f3, .bool f4] TMk 1
    have m2 := cell_new w10 #[.int .i64 f1, .string f2, .int .i64 f3, .bool f4] TMk 2
    have m3 := cell_new w10 #[.int .i64 f1, .string f2, .int .i64 f3, .bool f4] TMk 3
    replace gx1 := gx1.trans hx11
    replace l4' := l4'.ext mk_rep hx11
    replace l9 := l9.ext mk_rep hx11
    clear hx10 hx11 hlw
    obtain ⟨wk, hwk⟩ : ∃ q, q = w10.alloc (.cells #[.int .i64 f1, .string f2, .int .i64 f3, .bool f4] TMk) := ⟨_, rfl⟩
    rw [← hwk] at b0 b1 b2 b3 b4 b5 b6 d0 d1 d2 d3 d4 d5 d6 m0 m1 m2 m3 gx1 l4' l9
    have HGE : Hid (wk.heap.size = w10.heap.size + 1) := by unfold Hid; rw [hwk]; simp
    have HB0 : Hid ((wk.alloc (.cells #[.int .i64 0, .string ⟨#[]⟩, .int .i64 0, .bool false] TMk)).heap[w10.heap.size + 1]? = some (.cells (mkC mk0) TMk (0, 0))) := by unfold Hid; rw [← HGE.out]; exact heap_alloc_new _ _
    have h963 := l9.n63
    go_wp2_with fail
    rw [← hwk]
    clear hwk
    go_loopw [21, 23] (fun iv kv wr => ∃ (k : Nat) (fo2 : Option Mk) (kk : Int), k ≤ n9 ∧ kk = (k : Int) - 1 ∧ iv = .bool fo2.isSome ∧ kv = .int .i64 kk ∧ Hid (findN (R.drop k) s = fo2) ∧ Hid (wr.heap[w10.heap.size + 1]? = some (.cells (mkC (fo2.getD mk0)) TMk (0, 0))) ∧ Ext wk wr) (fun _ kv _ => (intOf kv + 1).toNat)
    case atStart => exact ⟨n9, none, (n9 : Int) - 1, by omega, rfl, rfl, rfl, by unfold Hid; rw [List.drop_of_length_le (by rw [l9.len]; exact Nat.le_refl _)]; rfl, HB0, Ext.alloc _ _⟩
    case round =>
      clear HB0
      obtain ⟨k, fo2, kk, hk, hkk, rfl, rfl, hfd, hbk, hxr⟩ := hrel
      rcases k with _ | j
      · obtain rfl : kk = -1 := by omega
        have efo : fo2 = fo := by rw [← hfd.out, ← HFN.out, List.drop_zero]
        subst efo
        have hbk2 : Hid (wr.heap[w10.heap.size + 1]? = some (.cells (mkC ⟨f1, f2, f3, f4⟩) TMk (0, 0))) := by unfold Hid; rw [← HFG.out]; exact hbk.out
        clear hbk hfd HFN hkk
        replace b0 := hxr.cell b0
        replace d0 := hxr.cell d0
        replace b1 := hxr.cell b1
        replace d1 := hxr.cell d1
        replace b2 := hxr.cell b2
        replace d2 := hxr.cell d2
        replace b3 := hxr.cell b3
        replace d3 := hxr.cell d3
        replace b4 := hxr.cell b4
        replace d4 := hxr.cell d4
        replace b5 := hxr.cell b5
        replace d5 := hxr.cell d5
        replace b6 := hxr.cell b6
        replace d6 := hxr.cell d6
        replace m0 := hxr.cell m0
        replace m1 := hxr.cell m1
        replace m2 := hxr.cell m2
        replace m3 := hxr.cell m3
        replace gx1 := gx1.trans hxr
        replace l4' := l4'.ext mk_rep hxr
        replace l9 := l9.ext mk_rep hxr
        obtain ⟨wo, rfl⟩ : ∃ q, q = wr := ⟨_, rfl⟩
        clear hxr
        go_wp2_with fail
        go_loopw [22, 24] (fun v i wr => ∃ (k : Nat) (d : Int), k ≤ n ∧ v = .int .i64 d ∧ i = .int .i64 k ∧ Hid (newestI (xs.take k) = d) ∧ Ext wo wr) (fun _ i _ => n - (intOf i).toNat)
        case atStart => exact ⟨0, 0, by omega, rfl, rfl, rfl, Ext.refl _⟩
        case round =>
          obtain ⟨k, d, hk, rfl, rfl, hd, hxr⟩ := hrel
          replace b0 := hxr.cell b0
          replace d0 := hxr.cell d0
          replace b1 := hxr.cell b1
          replace d1 := hxr.cell d1
          replace b2 := hxr.cell b2
          replace d2 := hxr.cell d2
          replace b3 := hxr.cell b3
          replace d3 := hxr.cell d3
          replace b4 := hxr.cell b4
          replace d4 := hxr.cell d4
          replace b5 := hxr.cell b5
          replace d5 := hxr.cell d5
          replace b6 := hxr.cell b6
          replace d6 := hxr.cell d6
          replace m0 := hxr.cell m0
          replace m1 := hxr.cell m1
          replace m2 := hxr.cell m2
          replace m3 := hxr.cell m3
          replace gx1 := gx1.trans hxr
          replace l4' := l4'.ext mk_rep hxr
          replace l9 := l9.ext mk_rep hxr
          by_cases hlt : k < n
          · obtain ⟨ga, oa, x, cs, rfl, hx, rfl, ha⟩ := hl.at2 mk_rep (by omega) hlt
            have a0 : wr.cell? ⟨ga, oa + k * 4, none⟩ = _ := gx1.cell (ha 0 _ rfl)
            have hn := newest_next hx
            rw [hd.out] at hn
            obtain ⟨x1, x2, x3, x4⟩ := x
            simp only at a0 hn
            by_cases hc : k = 0 ∨ d < x1
            · rw [if_pos hc] at hn
              have HN := Lib.hid hn
              clear hn hx hd ha
              by_cases hk0 : k = 0
              · have hkb : ((k : Int) == 0) = true := by simp; omega
                clear hc hk0
                go_wp2_with fail
                go_roundw
                case rel => exact ⟨k + 1, x1, by omega, rfl, by go_num, HN, hxr⟩
                case measure => simp [intOf]; omega
              · have hkb : ((k : Int) == 0) = false := by simp; omega
                have hdx : d < x1 := by omega
                clear hc hk0
                go_wp2_with fail
                go_roundw
                case rel => exact ⟨k + 1, x1, by omega, rfl, by go_num, HN, hxr⟩
                case measure => simp [intOf]; omega
            · rw [if_neg hc] at hn
              have HN := Lib.hid hn
              clear hn hx hd ha
              have hkb : ((k : Int) == 0) = false := by simp; omega
              have hdx : decide (d < x1) = false := by simp; omega
              clear hc
              go_wp2_with fail
              go_roundw
              case rel => exact ⟨k + 1, d, by omega, rfl, by go_num, HN, hxr⟩
              case measure => simp [intOf]; omega
          · obtain rfl : k = n := by omega
            have e := hd.out
            rw [List.take_of_length_le (by rw [hl.len]; exact Nat.le_refl _), HNE.out] at e
            subst e
            have hbk3 := Lib.hid (blk_ext hbk2.out hxr)
            have k0 : wr.cell? ⟨w10.heap.size + 1, 0, none⟩ = some (.int .i64 f1) := blk_cell hbk3.out 0
            have k1 : wr.cell? ⟨w10.heap.size + 1, 1, none⟩ = some (.string f2) := blk_cell hbk3.out 1
            have k2 : wr.cell? ⟨w10.heap.size + 1, 2, none⟩ = some (.int .i64 f3) := blk_cell hbk3.out 2
            have k3 : wr.cell? ⟨w10.heap.size + 1, 3, none⟩ = some (.bool f4) := blk_cell hbk3.out 3
            have hlw := hl.ext mk_rep gx1
            obtain ⟨wf, rfl⟩ : ∃ q, q = wr := ⟨_, rfl⟩
            clear hd hbk2 hbk3 hxr hl
            go_wp2_with fail
            refine wp_region_typed2 (R := But wf.heap.size (fun _ => False)) Ext.steady (But.steady _ _) (fun _ _ => But.of_ext) rfl 188 rfl [0, 1, 0, 7, 15, 31, 63, 127, 255, 63, 575, 2047, 4095, 8191, 16383, 32767, 65535, 32767, 262143, 524287, 1048575, 2097151, 2097151, 8388607, 16777215, 33554431, 67108863, 67108863, 268435455, 536870911, 1073741823, 2147483647, 4294967295, 2147483647, 17179869183, 34359738367, 68719476735, 137438953471, 137438953471, 549755813887, 137438953471, 137438953471, 4398046511103, 8796093022207, 17592186044415, 35184372088831, 70368744177663, 70368744177663, 281474976710655, 562949953421311, 1125899906842623, 2251799813685247, 4503599627370495, 9007199254740991] 0 (by kernel_rfl) ?_
            -- 0: Op.load 43 t4
            apply Stage2.step (Is (hdV ⟨r1, h2, h3, h4, nx, sq, xs⟩ A k c)) true [] true false (Is.keeps _) (fun _ => Is.keeps _) (by kernel_rfl)
            · intro w1 h1
              have h1 : Ext _ w1 := h1
              simp only [List.nil_append, List.cons_append, List.map_cons, List.map_nil, Given]
              have q0 := h1.cell b0
              have q1 := h1.cell b1
              have q2 := h1.cell b2
              have q3 := h1.cell b3
              have q4 := h1.cell b4
              have q5 := h1.cell b5
              have q6 := h1.cell b6
              go_wp2_with fail
              exact Post.isv (Ext.refl _) rfl rfl rfl
            -- 1: Op.call { value (Operand.func 21), args := #[t135], argTypes := #[43] }
            apply Stage2.step (Is (.bool r)) true [true] true false (Is.keeps _) (fun _ => Is.keeps _) (by kernel_rfl)
            · intro w1 h1
              have h1 : Ext _ w1 := h1
              simp only [List.nil_append, List.cons_append, List.map_cons, List.map_nil, Sp.pr, Given]
              rintro _ rfl
              go_wp2_with fail
              refine (header_Right ⟨r1, h2, h3, h4, nx, sq, xs⟩ (hlw.ext mk_rep h1) HSH (by omega) HR).mono ?_
              rintro e w2 ⟨rfl, hx2⟩
              go_wp2_with fail
              exact Post.isv hx2 rfl rfl rfl
            -- 2: Op.load 43 t4
            apply Stage2.step (Is (hdV ⟨r1, h2, h3, h4, nx, sq, xs⟩ A k c)) true [] true false (Is.keeps _) (fun _ => Is.keeps _) (by kernel_rfl)
            · intro w1 h1
              have h1 : Ext _ w1 := h1
              simp only [List.nil_append, List.cons_append, List.map_cons, List.map_nil, Given]
              have q0 := h1.cell b0
              have q1 := h1.cell b1
              have q2 := h1.cell b2
              have q3 := h1.cell b3
              have q4 := h1.cell b4
              have q5 := h1.cell b5
              have q6 := h1.cell b6
              go_wp2_with fail
              exact Post.isv (Ext.refl _) rfl rfl rfl
            -- 3: Op.call { value (Operand.func 22), args := #[t137], argTypes := #[43] }
            apply Stage2.step (Is (.bool r)) true [false, false, true] true false (Is.keeps _) (fun _ => Is.keeps _) (by kernel_rfl)
            · intro w1 h1
              have h1 : Ext _ w1 := h1
              simp only [List.nil_append, List.cons_append, List.map_cons, List.map_nil, Sp.pr, Given]
              rintro _ rfl
              go_wp2_with fail
              refine (ref_RightHead ⟨r1, h2, h3, h4, nx, sq, xs⟩ (hlw.ext mk_rep h1) HSH (by omega) HR).mono ?_
              rintro e w2 ⟨rfl, hx2⟩
              go_wp2_with fail
              exact Post.isv hx2 rfl rfl rfl
            -- 4: Op.binOp BinOp.eql 4 t136 t138 4
            apply Stage2.step (Is (.bool true)) true [false, true, false, true] true false (Is.keeps _) (fun _ => Is.keeps _) (by kernel_rfl)
            · intro w1 h1
              have h1 : Ext _ w1 := h1
              simp only [List.nil_append, List.cons_append, List.map_cons, List.map_nil, Sp.pr, Given]
              rintro _ rfl
              rintro _ rfl
              go_wp2_with fail
              exact Post.isv (Ext.refl _) rfl rfl rfl
            -- 5: Op.move t139
            apply Stage2.step (Is _) true [false, false, false, false, true] true false (Is.keeps _) (fun _ => Is.keeps _) (by kernel_rfl)
            · intro w1 h1
              have h1 : Ext _ w1 := h1
              simp only [List.nil_append, List.cons_append, List.map_cons, List.map_nil, Sp.pr, Given]
              rintro _ rfl
              go_wp2_with fail
              exact Post.isv (Ext.refl _) rfl rfl rfl
            -- 6: Op.fieldAddr 43 t4 1   [guarded: some (5, true)]
            apply Stage2.step (Is _) true [false, false, false, false, false, true] true false (Is.keeps _) (fun _ => Is.keeps _) (by kernel_rfl)
            · intro w1 h1
              have h1 : Ext _ w1 := h1
              simp only [List.nil_append, List.cons_append, List.map_cons, List.map_nil, Sp.pr, Given]
              rintro _ rfl
              go_wp2_with fail
              exact Post.isv (Ext.refl _) rfl rfl rfl
            -- 7: Op.load 41 t141   [guarded: some (5, true)]
            apply Stage2.step (Is (layV h2 h3 h4)) true [false, false, false, false, false, true, true] true false (Is.keeps _) (fun _ => Is.keeps _) (by kernel_rfl)
            · intro w1 h1
              have h1 : Ext _ w1 := h1
              simp only [List.nil_append, List.cons_append, List.map_cons, List.map_nil, Sp.pr, Given]
              rintro _ rfl
              rintro _ rfl
              have q1 := h1.cell b1
              have q2 := h1.cell b2
              have q3 := h1.cell b3
              go_wp2_with fail
              exact Post.isv (Ext.refl _) rfl rfl rfl
            -- 8: Op.call { value (Operand.func 31), args := #[t142], argTypes := #[41] }   [guarded: some (5, true)]
            apply Stage2.step (Is (.bool qs)) true [false, false, false, false, false, true, false, true] true false (Is.keeps _) (fun _ => Is.keeps _) (by kernel_rfl)
            · intro w1 h1
              have h1 : Ext _ w1 := h1
              simp only [List.nil_append, List.cons_append, List.map_cons, List.map_nil, Sp.pr, Given]
              rintro _ rfl
              rintro _ rfl
              go_wp2_with fail
              refine (header_Shape h2 h3 h4 _ HQS).mono ?_
              rintro e w2 ⟨rfl, hx2⟩
              go_wp2_with fail
              exact Post.isv hx2 rfl rfl rfl
            -- 9: Op.fieldAddr 43 t4 1   [guarded: some (5, true)]
            apply Stage2.step (Is _) true [false, false, false, false, false, true] true false (Is.keeps _) (fun _ => Is.keeps _) (by kernel_rfl)
            · intro w1 h1
              have h1 : Ext _ w1 := h1
              simp only [List.nil_append, List.cons_append, List.map_cons, List.map_nil, Sp.pr, Given]
              rintro _ rfl
              go_wp2_with fail
              exact Post.isv (Ext.refl _) rfl rfl rfl
            -- 10: Op.load 41 t144   [guarded: some (5, true)]
            apply Stage2.step (Is (layV h2 h3 h4)) true [false, false, false, false, false, true, false, false, false, true] true false (Is.keeps _) (fun _ => Is.keeps _) (by kernel_rfl)
            · intro w1 h1
              have h1 : Ext _ w1 := h1
              simp only [List.nil_append, List.cons_append, List.map_cons, List.map_nil, Sp.pr, Given]
              rintro _ rfl
              rintro _ rfl
              have q1 := h1.cell b1
              have q2 := h1.cell b2
              have q3 := h1.cell b3
              go_wp2_with fail
              exact Post.isv (Ext.refl _) rfl rfl rfl
            -- 11: Op.call { value (Operand.func 32), args := #[t145], argTypes := #[41] }   [guarded: some (5, true)]
            apply Stage2.step (Is (.bool qs)) true [false, false, false, false, false, true, false, false, false, false, true] true false (Is.keeps _) (fun _ => Is.keeps _) (by kernel_rfl)
            · intro w1 h1
              have h1 : Ext _ w1 := h1
              simp only [List.nil_append, List.cons_append, List.map_cons, List.map_nil, Sp.pr, Given]
              rintro _ rfl
              rintro _ rfl
              go_wp2_with fail
              refine (ref_Shape h2 h3 h4 _ HQS).mono ?_
              rintro e w2 ⟨rfl, hx2⟩
              go_wp2_with fail
              exact Post.isv hx2 rfl rfl rfl
            -- 12: Op.binOp BinOp.eql 4 t143 t146 4   [guarded: some (5, true)]
            apply Stage2.step (Is (.bool true)) true [false, false, false, false, false, true, false, false, true, false, false, true] true false (Is.keeps _) (fun _ => Is.keeps _) (by kernel_rfl)
            · intro w1 h1
              have h1 : Ext _ w1 := h1
              simp only [List.nil_append, List.cons_append, List.map_cons, List.map_nil, Sp.pr, Given]
              rintro _ rfl
              rintro _ rfl
              rintro _ rfl
              go_wp2_with fail
              exact Post.isv (Ext.refl _) rfl rfl rfl
            -- 13: Op.pick t140 t147 (const (Value.bool false))
            apply Stage2.step (Is _) true [false, false, false, false, false, true, false, false, false, false, false, false, true] true false (Is.keeps _) (fun _ => Is.keeps _) (by kernel_rfl)
            · intro w1 h1
              have h1 : Ext _ w1 := h1
              simp only [List.nil_append, List.cons_append, List.map_cons, List.map_nil, Sp.pr, Given]
              rintro _ rfl
              rintro _ rfl
              go_wp2_with fail
              exact Post.isv (Ext.refl _) rfl rfl rfl
            -- 14: Op.move t148
            apply Stage2.step (Is _) true [false, false, false, false, false, false, false, false, false, false, false, false, false, true] true false (Is.keeps _) (fun _ => Is.keeps _) (by kernel_rfl)
            · intro w1 h1
              have h1 : Ext _ w1 := h1
              simp only [List.nil_append, List.cons_append, List.map_cons, List.map_nil, Sp.pr, Given]
              rintro _ rfl
              go_wp2_with fail
              exact Post.isv (Ext.refl _) rfl rfl rfl
            -- 15: Op.load 43 t4   [guarded: some (14, true)]
            apply Stage2.step (Is (hdV ⟨r1, h2, h3, h4, nx, sq, xs⟩ A k c)) true [false, false, false, false, false, false, false, false, false, false, false, false, false, false, true] true false (Is.keeps _) (fun _ => Is.keeps _) (by kernel_rfl)
            · intro w1 h1
              have h1 : Ext _ w1 := h1
              simp only [List.nil_append, List.cons_append, List.map_cons, List.map_nil, Sp.pr, Given]
              rintro _ rfl
              have q0 := h1.cell b0
              have q1 := h1.cell b1
              have q2 := h1.cell b2
              have q3 := h1.cell b3
              have q4 := h1.cell b4
              have q5 := h1.cell b5
              have q6 := h1.cell b6
              go_wp2_with fail
              exact Post.isv (Ext.refl _) rfl rfl rfl
            -- 16: Op.call { value (Operand.func 25), args := #[t150], argTypes := #[43] }   [guarded: some (14, true)]
            apply Stage2.step (SeenT R) false [false, false, false, false, false, false, false, false, false, false, false, false, false, false, true, true] true false (SeenT.keeps _) (no_keeps) (by kernel_rfl)
            · intro w1 h1
              have h1 : Ext _ w1 := h1
              simp only [List.nil_append, List.cons_append, List.map_cons, List.map_nil, Sp.pr, Given]
              rintro _ rfl
              rintro _ rfl
              go_wp2_with fail
              refine (header_Seen ⟨r1, h2, h3, h4, nx, sq, xs⟩ (hlw.ext mk_rep h1) HSH (by omega) HRS).mono ?_
              rintro e w2 ⟨A7, n7, c7, rfl, l7, hx2⟩
              go_wp2_with fail
              exact ⟨rfl, rfl, hx2, _, _, _, rfl, l7.lst⟩
            -- 17: Op.move t17   [guarded: some (14, true)]
            apply Stage2.step (Is _) true [false, false, false, false, false, false, false, false, false, false, false, false, false, false, true] true false (Is.keeps _) (fun _ => Is.keeps _) (by kernel_rfl)
            · intro w1 h1
              have h1 : Ext _ w1 := h1
              simp only [List.nil_append, List.cons_append, List.map_cons, List.map_nil, Sp.pr, Given]
              rintro _ rfl
              go_wp2_with fail
              exact Post.isv (Ext.refl _) rfl rfl rfl
            -- 18: Op.call { value (Operand.func 33), args := #[t151, t152], argTypes := #[27, 27] }   [guarded: some (
            apply Stage2.step (Is (.bool true)) true [false, false, false, false, false, false, false, false, false, false, false, false, false, false, true, false, true, true] true false (Is.keeps _) (fun _ => Is.keeps _) (by kernel_rfl)
            · intro w1 h1
              have h1 : Ext _ w1 := h1
              simp only [List.nil_append, List.cons_append, List.map_cons, List.map_nil, Sp.pr, Given]
              rintro _ rfl
              rintro _ ⟨A7, n7, c7, rfl, l7⟩
              rintro _ rfl
              go_wp2_with fail
              refine (ref_SameMarks l7 (l9.ext mk_rep h1) HSR).mono ?_
              rintro e w2 ⟨rfl, hx2⟩
              go_wp2_with fail
              exact Post.isv hx2 rfl rfl rfl
            -- 19: Op.pick t149 t153 (const (Value.bool false))
            apply Stage2.step (Is _) true [false, false, false, false, false, false, false, false, false, false, false, false, false, false, true, false, false, false, true] true false (Is.keeps _) (fun _ => Is.keeps _) (by kernel_rfl)
            · intro w1 h1
              have h1 : Ext _ w1 := h1
              simp only [List.nil_append, List.cons_append, List.map_cons, List.map_nil, Sp.pr, Given]
              rintro _ rfl
              rintro _ rfl
              go_wp2_with fail
              exact Post.isv (Ext.refl _) rfl rfl rfl
            -- 20: Op.move t154
            apply Stage2.step (Is _) true [false, false, false, false, false, false, false, false, false, false, false, false, false, false, false, false, false, false, false, true] true false (Is.keeps _) (fun _ => Is.keeps _) (by kernel_rfl)
            · intro w1 h1
              have h1 : Ext _ w1 := h1
              simp only [List.nil_append, List.cons_append, List.map_cons, List.map_nil, Sp.pr, Given]
              rintro _ rfl
              go_wp2_with fail
              exact Post.isv (Ext.refl _) rfl rfl rfl
            -- 21: Op.load 48 t18   [guarded: some (20, true)]
            apply Stage2.step (Is (mkV ⟨f1, f2, f3, f4⟩)) true [false, false, false, false, false, false, false, false, false, false, false, false, false, false, false, false, false, false, false, false, true] true false (Is.keeps _) (fun _ => Is.keeps _) (by kernel_rfl)
            · intro w1 h1
              have h1 : Ext _ w1 := h1
              simp only [List.nil_append, List.cons_append, List.map_cons, List.map_nil, Sp.pr, Given]
              rintro _ rfl
              have q0 := h1.cell m0
              have q1 := h1.cell m1
              have q2 := h1.cell m2
              have q3 := h1.cell m3
              go_wp2_with fail
              exact Post.isv (Ext.refl _) rfl rfl rfl
            -- 22: Op.load 48 t20   [guarded: some (20, true)]
            apply Stage2.step (Is (mkV ⟨f1, f2, f3, f4⟩)) true [false, false, false, false, false, false, false, false, false, false, false, false, false, false, false, false, false, false, false, false, true] true false (Is.keeps _) (fun _ => Is.keeps _) (by kernel_rfl)
            · intro w1 h1
              have h1 : Ext _ w1 := h1
              simp only [List.nil_append, List.cons_append, List.map_cons, List.map_nil, Sp.pr, Given]
              rintro _ rfl
              have q0 := h1.cell k0
              have q1 := h1.cell k1
              have q2 := h1.cell k2
              have q3 := h1.cell k3
              go_wp2_with fail
              exact Post.isv (Ext.refl _) rfl rfl rfl
            -- 23: Op.binOp BinOp.eql 48 t156 t157 48   [guarded: some (20, true)]
            apply Stage2.step (Is (.bool true)) true [false, false, false, false, false, false, false, false, false, false, false, false, false, false, false, false, false, false, false, false, true, true, true] true false (Is.keeps _) (fun _ => Is.keeps _) (by kernel_rfl)
            · intro w1 h1
              have h1 : Ext _ w1 := h1
              simp only [List.nil_append, List.cons_append, List.map_cons, List.map_nil, Sp.pr, Given]
              rintro _ rfl
              rintro _ rfl
              rintro _ rfl
              go_wp2_with fail
              exact Post.isv (Ext.refl _) rfl rfl rfl
            -- 24: Op.pick t155 t158 (const (Value.bool false))
            apply Stage2.step (Is _) true [false, false, false, false, false, false, false, false, false, false, false, false, false, false, false, false, false, false, false, false, true, false, false, true] true false (Is.keeps _) (fun _ => Is.keeps _) (by kernel_rfl)
            · intro w1 h1
              have h1 : Ext _ w1 := h1
              simp only [List.nil_append, List.cons_append, List.map_cons, List.map_nil, Sp.pr, Given]
              rintro _ rfl
              rintro _ rfl
              go_wp2_with fail
              exact Post.isv (Ext.refl _) rfl rfl rfl
            -- 25: Op.move t159
            apply Stage2.step (Is _) true [false, false, false, false, false, false, false, false, false, false, false, false, false, false, false, false, false, false, false, false, false, false, false, false, true] true false (Is.keeps _) (fun _ => Is.keeps _) (by kernel_rfl)
            · intro w1 h1
              have h1 : Ext _ w1 := h1
              simp only [List.nil_append, List.cons_append, List.map_cons, List.map_nil, Sp.pr, Given]
              rintro _ rfl
              go_wp2_with fail
              exact Post.isv (Ext.refl _) rfl rfl rfl
            -- 26: Op.move t19   [guarded: some (25, true)]
            apply Stage2.step (Is _) true [false, false, false, false, false, false, false, false, false, false, false, false, false, false, false, false, false, false, false, false, false, false, false, false, false, true] true false (Is.keeps _) (fun _ => Is.keeps _) (by kernel_rfl)
            · intro w1 h1
              have h1 : Ext _ w1 := h1
              simp only [List.nil_append, List.cons_append, List.map_cons, List.map_nil, Sp.pr, Given]
              rintro _ rfl
              go_wp2_with fail
              exact Post.isv (Ext.refl _) rfl rfl rfl
            -- 27: Op.move t21   [guarded: some (25, true)]
            apply Stage2.step (Is _) true [false, false, false, false, false, false, false, false, false, false, false, false, false, false, false, false, false, false, false, false, false, false, false, false, false, true] true false (Is.keeps _) (fun _ => Is.keeps _) (by kernel_rfl)
            · intro w1 h1
              have h1 : Ext _ w1 := h1
              simp only [List.nil_append, List.cons_append, List.map_cons, List.map_nil, Sp.pr, Given]
              rintro _ rfl
              go_wp2_with fail
              exact Post.isv (Ext.refl _) rfl rfl rfl
            -- 28: Op.binOp BinOp.eql 4 t161 t162 4   [guarded: some (25, true)]
            apply Stage2.step (Is (.bool true)) true [false, false, false, false, false, false, false, false, false, false, false, false, false, false, false, false, false, false, false, false, false, false, false, false, false, true, true, true] true false (Is.keeps _) (fun _ => Is.keeps _) (by kernel_rfl)
            · intro w1 h1
              have h1 : Ext _ w1 := h1
              simp only [List.nil_append, List.cons_append, List.map_cons, List.map_nil, Sp.pr, Given]
              rintro _ rfl
              rintro _ rfl
              rintro _ rfl
              go_wp2_with fail
              exact Post.isv (Ext.refl _) rfl rfl rfl
            -- 29: Op.pick t160 t163 (const (Value.bool false))
            apply Stage2.step (Is _) true [false, false, false, false, false, false, false, false, false, false, false, false, false, false, false, false, false, false, false, false, false, false, false, false, false, true, false, false, true] true false (Is.keeps _) (fun _ => Is.keeps _) (by kernel_rfl)
            · intro w1 h1
              have h1 : Ext _ w1 := h1
              simp only [List.nil_append, List.cons_append, List.map_cons, List.map_nil, Sp.pr, Given]
              rintro _ rfl
              rintro _ rfl
              go_wp2_with fail
              exact Post.isv (Ext.refl _) rfl rfl rfl
            -- 30: Op.move t164
            apply Stage2.step (Is _) true [false, false, false, false, false, false, false, false, false, false, false, false, false, false, false, false, false, false, false, false, false, false, false, false, false, false, false, false, false, true] true false (Is.keeps _) (fun _ => Is.keeps _) (by kernel_rfl)
            · intro w1 h1
              have h1 : Ext _ w1 := h1
              simp only [List.nil_append, List.cons_append, List.map_cons, List.map_nil, Sp.pr, Given]
              rintro _ rfl
              go_wp2_with fail
              exact Post.isv (Ext.refl _) rfl rfl rfl
            -- 31: Op.load 43 t4   [guarded: some (30, true)]
            apply Stage2.step (Is (hdV ⟨r1, h2, h3, h4, nx, sq, xs⟩ A k c)) true [false, false, false, false, false, false, false, false, false, false, false, false, false, false, false, false, false, false, false, false, false, false, false, false, false, false, false, false, false, false, true] true false (Is.keeps _) (fun _ => Is.keeps _) (by kernel_rfl)
            · intro w1 h1
              have h1 : Ext _ w1 := h1
              simp only [List.nil_append, List.cons_append, List.map_cons, List.map_nil, Sp.pr, Given]
              rintro _ rfl
              have q0 := h1.cell b0
              have q1 := h1.cell b1
              have q2 := h1.cell b2
              have q3 := h1.cell b3
              have q4 := h1.cell b4
              have q5 := h1.cell b5
              have q6 := h1.cell b6
              go_wp2_with fail
              exact Post.isv (Ext.refl _) rfl rfl rfl
            -- 32: Op.call { value (Operand.func 27), args := #[t166], argTypes := #[43] }   [guarded: some (30, true)]
            apply Stage2.step (Is (.int .i64 ne)) true [false, false, false, false, false, false, false, false, false, false, false, false, false, false, false, false, false, false, false, false, false, false, false, false, false, false, false, false, false, false, true, true] true false (Is.keeps _) (fun _ => Is.keeps _) (by kernel_rfl)
            · intro w1 h1
              have h1 : Ext _ w1 := h1
              simp only [List.nil_append, List.cons_append, List.map_cons, List.map_nil, Sp.pr, Given]
              rintro _ rfl
              rintro _ rfl
              go_wp2_with fail
              refine (header_Newest ⟨r1, h2, h3, h4, nx, sq, xs⟩ (hlw.ext mk_rep h1) HNE).mono ?_
              rintro e w2 ⟨rfl, hx2⟩
              go_wp2_with fail
              exact Post.isv hx2 rfl rfl rfl
            -- 33: Op.move t22   [guarded: some (30, true)]
            apply Stage2.step (Is _) true [false, false, false, false, false, false, false, false, false, false, false, false, false, false, false, false, false, false, false, false, false, false, false, false, false, false, false, false, false, false, true] true false (Is.keeps _) (fun _ => Is.keeps _) (by kernel_rfl)
            · intro w1 h1
              have h1 : Ext _ w1 := h1
              simp only [List.nil_append, List.cons_append, List.map_cons, List.map_nil, Sp.pr, Given]
              rintro _ rfl
              go_wp2_with fail
              exact Post.isv (Ext.refl _) rfl rfl rfl
            -- 34: Op.binOp BinOp.eql 3 t167 t168 3   [guarded: some (30, true)]
            apply Stage2.step (Is (.bool true)) true [false, false, false, false, false, false, false, false, false, false, false, false, false, false, false, false, false, false, false, false, false, false, false, false, false, false, false, false, false, false, true, false, true, true] true false (Is.keeps _) (fun _ => Is.keeps _) (by kernel_rfl)
            · intro w1 h1
              have h1 : Ext _ w1 := h1
              simp only [List.nil_append, List.cons_append, List.map_cons, List.map_nil, Sp.pr, Given]
              rintro _ rfl
              rintro _ rfl
              rintro _ rfl
              go_wp2_with fail
              exact Post.isv (Ext.refl _) rfl rfl rfl
            -- 35: Op.pick t165 t169 (const (Value.bool false))
            apply Stage2.step (Is _) true [false, false, false, false, false, false, false, false, false, false, false, false, false, false, false, false, false, false, false, false, false, false, false, false, false, false, false, false, false, false, true, false, false, false, true] true false (Is.keeps _) (fun _ => Is.keeps _) (by kernel_rfl)
            · intro w1 h1
              have h1 : Ext _ w1 := h1
              simp only [List.nil_append, List.cons_append, List.map_cons, List.map_nil, Sp.pr, Given]
              rintro _ rfl
              rintro _ rfl
              go_wp2_with fail
              exact Post.isv (Ext.refl _) rfl rfl rfl
            -- 36: Op.move t170
            apply Stage2.step (Is _) true [false, false, false, false, false, false, false, false, false, false, false, false, false, false, false, false, false, false, false, false, false, false, false, false, false, false, false, false, false, false, false, false, false, false, false, true] true false (Is.keeps _) (fun _ => Is.keeps _) (by kernel_rfl)
            · intro w1 h1
              have h1 : Ext _ w1 := h1
              simp only [List.nil_append, List.cons_append, List.map_cons, List.map_nil, Sp.pr, Given]
              rintro _ rfl
              go_wp2_with fail
              exact Post.isv (Ext.refl _) rfl rfl rfl
            -- 37: Op.load 43 t4   [guarded: some (36, true)]
            apply Stage2.step (Is (hdV ⟨r1, h2, h3, h4, nx, sq, xs⟩ A k c)) true [false, false, false, false, false, false, false, false, false, false, false, false, false, false, false, false, false, false, false, false, false, false, false, false, false, false, false, false, false, false, false, false, false, false, false, false, true] true false (Is.keeps _) (fun _ => Is.keeps _) (by kernel_rfl)
            · intro w1 h1
              have h1 : Ext _ w1 := h1
              simp only [List.nil_append, List.cons_append, List.map_cons, List.map_nil, Sp.pr, Given]
              rintro _ rfl
              have q0 := h1.cell b0
              have q1 := h1.cell b1
              have q2 := h1.cell b2
              have q3 := h1.cell b3
              have q4 := h1.cell b4
              have q5 := h1.cell b5
              have q6 := h1.cell b6
              go_wp2_with fail
              exact Post.isv (Ext.refl _) rfl rfl rfl
            -- 38: Op.load 43 t13   [guarded: some (36, true)]
            apply Stage2.step (Is (hdV ⟨p1, p2, p3, p4, p5, p6, ps⟩ A4 n4 c4)) true [false, false, false, false, false, false, false, false, false, false, false, false, false, false, false, false, false, false, false, false, false, false, false, false, false, false, false, false, false, false, false, false, false, false, false, false, true] true false (Is.keeps _) (fun _ => Is.keeps _) (by kernel_rfl)
            · intro w1 h1
              have h1 : Ext _ w1 := h1
              simp only [List.nil_append, List.cons_append, List.map_cons, List.map_nil, Sp.pr, Given]
              rintro _ rfl
              have q0 := h1.cell d0
              have q1 := h1.cell d1
              have q2 := h1.cell d2
              have q3 := h1.cell d3
              have q4 := h1.cell d4
              have q5 := h1.cell d5
              have q6 := h1.cell d6
              go_wp2_with fail
              exact Post.isv (Ext.refl _) rfl rfl rfl
            -- 39: Op.call { value (Operand.func 34), args := #[t172, t173], argTypes := #[43, 43] }   [guarded: some (
            apply Stage2.step (Is (.bool sp)) true [false, false, false, false, false, false, false, false, false, false, false, false, false, false, false, false, false, false, false, false, false, false, false, false, false, false, false, false, false, false, false, false, false, false, false, false, true, true, true] true false (Is.keeps _) (fun _ => Is.keeps _) (by kernel_rfl)
            · intro w1 h1
              have h1 : Ext _ w1 := h1
              simp only [List.nil_append, List.cons_append, List.map_cons, List.map_nil, Sp.pr, Given]
              rintro _ rfl
              rintro _ rfl
              rintro _ rfl
              go_wp2_with fail
              refine (header_Same ⟨r1, h2, h3, h4, nx, sq, xs⟩ ⟨p1, p2, p3, p4, p5, p6, ps⟩ (hlw.ext mk_rep h1) (l4'.ext mk_rep h1) HSP).mono ?_
              rintro e w2 ⟨rfl, hx2⟩
              go_wp2_with fail
              exact Post.isv hx2 rfl rfl rfl
            -- 40: Op.load 43 t4   [guarded: some (36, true)]
            apply Stage2.step (Is (hdV ⟨r1, h2, h3, h4, nx, sq, xs⟩ A k c)) true [false, false, false, false, false, false, false, false, false, false, false, false, false, false, false, false, false, false, false, false, false, false, false, false, false, false, false, false, false, false, false, false, false, false, false, false, true] true false (Is.keeps _) (fun _ => Is.keeps _) (by kernel_rfl)
            · intro w1 h1
              have h1 : Ext _ w1 := h1
              simp only [List.nil_append, List.cons_append, List.map_cons, List.map_nil, Sp.pr, Given]
              rintro _ rfl
              have q0 := h1.cell b0
              have q1 := h1.cell b1
              have q2 := h1.cell b2
              have q3 := h1.cell b3
              have q4 := h1.cell b4
              have q5 := h1.cell b5
              have q6 := h1.cell b6
              go_wp2_with fail
              exact Post.isv (Ext.refl _) rfl rfl rfl
            -- 41: Op.load 43 t13   [guarded: some (36, true)]
            apply Stage2.step (Is (hdV ⟨p1, p2, p3, p4, p5, p6, ps⟩ A4 n4 c4)) true [false, false, false, false, false, false, false, false, false, false, false, false, false, false, false, false, false, false, false, false, false, false, false, false, false, false, false, false, false, false, false, false, false, false, false, false, true] true false (Is.keeps _) (fun _ => Is.keeps _) (by kernel_rfl)
            · intro w1 h1
              have h1 : Ext _ w1 := h1
              simp only [List.nil_append, List.cons_append, List.map_cons, List.map_nil, Sp.pr, Given]
              rintro _ rfl
              have q0 := h1.cell d0
              have q1 := h1.cell d1
              have q2 := h1.cell d2
              have q3 := h1.cell d3
              have q4 := h1.cell d4
              have q5 := h1.cell d5
              have q6 := h1.cell d6
              go_wp2_with fail
              exact Post.isv (Ext.refl _) rfl rfl rfl
            -- 42: Op.call { value (Operand.func 24), args := #[t175, t176], argTypes := #[43, 43] }   [guarded: some (
            apply Stage2.step (Is (.bool sp)) true [false, false, false, false, false, false, false, false, false, false, false, false, false, false, false, false, false, false, false, false, false, false, false, false, false, false, false, false, false, false, false, false, false, false, false, false, true, false, false, false, true, true] true false (Is.keeps _) (fun _ => Is.keeps _) (by kernel_rfl)
            · intro w1 h1
              have h1 : Ext _ w1 := h1
              simp only [List.nil_append, List.cons_append, List.map_cons, List.map_nil, Sp.pr, Given]
              rintro _ rfl
              rintro _ rfl
              rintro _ rfl
              go_wp2_with fail
              refine (ref_SameHead ⟨r1, h2, h3, h4, nx, sq, xs⟩ ⟨p1, p2, p3, p4, p5, p6, ps⟩ (hlw.ext mk_rep h1) (l4'.ext mk_rep h1) HSP).mono ?_
              rintro e w2 ⟨rfl, hx2⟩
              go_wp2_with fail
              exact Post.isv hx2 rfl rfl rfl
            -- 43: Op.binOp BinOp.eql 4 t174 t177 4   [guarded: some (36, true)]
            apply Stage2.step (Is (.bool true)) true [false, false, false, false, false, false, false, false, false, false, false, false, false, false, false, false, false, false, false, false, false, false, false, false, false, false, false, false, false, false, false, false, false, false, false, false, true, false, false, true, false, false, true] true false (Is.keeps _) (fun _ => Is.keeps _) (by kernel_rfl)
            · intro w1 h1
              have h1 : Ext _ w1 := h1
              simp only [List.nil_append, List.cons_append, List.map_cons, List.map_nil, Sp.pr, Given]
              rintro _ rfl
              rintro _ rfl
              rintro _ rfl
              go_wp2_with fail
              exact Post.isv (Ext.refl _) rfl rfl rfl
            -- 44: Op.pick t171 t178 (const (Value.bool false))
            apply Stage2.step (Is _) true [false, false, false, false, false, false, false, false, false, false, false, false, false, false, false, false, false, false, false, false, false, false, false, false, false, false, false, false, false, false, false, false, false, false, false, false, true, false, false, false, false, false, false, true] true false (Is.keeps _) (fun _ => Is.keeps _) (by kernel_rfl)
            · intro w1 h1
              have h1 : Ext _ w1 := h1
              simp only [List.nil_append, List.cons_append, List.map_cons, List.map_nil, Sp.pr, Given]
              rintro _ rfl
              rintro _ rfl
              go_wp2_with fail
              exact Post.isv (Ext.refl _) rfl rfl rfl
            -- 45: Op.move t179
            apply Stage2.step (Is _) true [false, false, false, false, false, false, false, false, false, false, false, false, false, false, false, false, false, false, false, false, false, false, false, false, false, false, false, false, false, false, false, false, false, false, false, false, false, false, false, false, false, false, false, false, true] true false (Is.keeps _) (fun _ => Is.keeps _) (by kernel_rfl)
            · intro w1 h1
              have h1 : Ext _ w1 := h1
              simp only [List.nil_append, List.cons_append, List.map_cons, List.map_nil, Sp.pr, Given]
              rintro _ rfl
              go_wp2_with fail
              exact Post.isv (Ext.refl _) rfl rfl rfl
            -- 46: Op.load 43 t4   [guarded: some (45, true)]
            apply Stage2.step (Is (hdV ⟨r1, h2, h3, h4, nx, sq, xs⟩ A k c)) true [false, false, false, false, false, false, false, false, false, false, false, false, false, false, false, false, false, false, false, false, false, false, false, false, false, false, false, false, false, false, false, false, false, false, false, false, false, false, false, false, false, false, false, false, false, true] true false (Is.keeps _) (fun _ => Is.keeps _) (by kernel_rfl)
            · intro w1 h1
              have h1 : Ext _ w1 := h1
              simp only [List.nil_append, List.cons_append, List.map_cons, List.map_nil, Sp.pr, Given]
              rintro _ rfl
              have q0 := h1.cell b0
              have q1 := h1.cell b1
              have q2 := h1.cell b2
              have q3 := h1.cell b3
              have q4 := h1.cell b4
              have q5 := h1.cell b5
              have q6 := h1.cell b6
              go_wp2_with fail
              exact Post.isv (Ext.refl _) rfl rfl rfl
            -- 47: Op.load 43 t4   [guarded: some (45, true)]
            apply Stage2.step (Is (hdV ⟨r1, h2, h3, h4, nx, sq, xs⟩ A k c)) true [false, false, false, false, false, false, false, false, false, false, false, false, false, false, false, false, false, false, false, false, false, false, false, false, false, false, false, false, false, false, false, false, false, false, false, false, false, false, false, false, false, false, false, false, false, true] true false (Is.keeps _) (fun _ => Is.keeps _) (by kernel_rfl)
            · intro w1 h1
              have h1 : Ext _ w1 := h1
              simp only [List.nil_append, List.cons_append, List.map_cons, List.map_nil, Sp.pr, Given]
              rintro _ rfl
              have q0 := h1.cell b0
              have q1 := h1.cell b1
              have q2 := h1.cell b2
              have q3 := h1.cell b3
              have q4 := h1.cell b4
              have q5 := h1.cell b5
              have q6 := h1.cell b6
              go_wp2_with fail
              exact Post.isv (Ext.refl _) rfl rfl rfl
            -- 48: Op.call { value (Operand.func 34), args := #[t181, t182], argTypes := #[43, 43] }   [guarded: some (
            apply Stage2.step (Is (.bool true)) true [false, false, false, false, false, false, false, false, false, false, false, false, false, false, false, false, false, false, false, false, false, false, false, false, false, false, false, false, false, false, false, false, false, false, false, false, false, false, false, false, false, false, false, false, false, true, true, true] true false (Is.keeps _) (fun _ => Is.keeps _) (by kernel_rfl)
            · intro w1 h1
              have h1 : Ext _ w1 := h1
              simp only [List.nil_append, List.cons_append, List.map_cons, List.map_nil, Sp.pr, Given]
              rintro _ rfl
              rintro _ rfl
              rintro _ rfl
              go_wp2_with fail
              refine (header_Same ⟨r1, h2, h3, h4, nx, sq, xs⟩ ⟨r1, h2, h3, h4, nx, sq, xs⟩ (hlw.ext mk_rep h1) (hlw.ext mk_rep h1) HSA).mono ?_
              rintro e w2 ⟨rfl, hx2⟩
              go_wp2_with fail
              exact Post.isv hx2 rfl rfl rfl
            -- 49: Op.pick t180 t183 (const (Value.bool false))
            apply Stage2.step (Is _) true [false, false, false, false, false, false, false, false, false, false, false, false, false, false, false, false, false, false, false, false, false, false, false, false, false, false, false, false, false, false, false, false, false, false, false, false, false, false, false, false, false, false, false, false, false, true, false, false, true] true false (Is.keeps _) (fun _ => Is.keeps _) (by kernel_rfl)
            · intro w1 h1
              have h1 : Ext _ w1 := h1
              simp only [List.nil_append, List.cons_append, List.map_cons, List.map_nil, Sp.pr, Given]
              rintro _ rfl
              rintro _ rfl
              go_wp2_with fail
              exact Post.isv (Ext.refl _) rfl rfl rfl
            -- 50: Op.move t184
            apply Stage2.step (Is _) true [false, false, false, false, false, false, false, false, false, false, false, false, false, false, false, false, false, false, false, false, false, false, false, false, false, false, false, false, false, false, false, false, false, false, false, false, false, false, false, false, false, false, false, false, false, false, false, false, false, true] true false (Is.keeps _) (fun _ => Is.keeps _) (by kernel_rfl)
            · intro w1 h1
              have h1 : Ext _ w1 := h1
              simp only [List.nil_append, List.cons_append, List.map_cons, List.map_nil, Sp.pr, Given]
              rintro _ rfl
              go_wp2_with fail
              exact Post.isv (Ext.refl _) rfl rfl rfl
            -- 51: Op.call { value (Operand.func 17), args := #[], argTypes := #[] }   [guarded: some (50, true)]
            apply Stage2.step (Is (.bool true)) true [false, false, false, false, false, false, false, false, false, false, false, false, false, false, false, false, false, false, false, false, false, false, false, false, false, false, false, false, false, false, false, false, false, false, false, false, false, false, false, false, false, false, false, false, false, false, false, false, false, false, true] true false (Is.keeps _) (fun _ => Is.keeps _) (by kernel_rfl)
            · intro w1 h1
              have h1 : Ext _ w1 := h1
              simp only [List.nil_append, List.cons_append, List.map_cons, List.map_nil, Sp.pr, Given]
              rintro _ rfl
              go_wp2_with fail
              refine (law8_known _).mono ?_
              rintro e w2 ⟨rfl, hx2⟩
              go_wp2_with fail
              exact Post.isv hx2 rfl rfl rfl
            -- 52: Op.pick t185 t186 (const (Value.bool false))
            apply Stage2.step (Is _) true [false, false, false, false, false, false, false, false, false, false, false, false, false, false, false, false, false, false, false, false, false, false, false, false, false, false, false, false, false, false, false, false, false, false, false, false, false, false, false, false, false, false, false, false, false, false, false, false, false, false, true, true] true false (Is.keeps _) (fun _ => Is.keeps _) (by kernel_rfl)
            · intro w1 h1
              have h1 : Ext _ w1 := h1
              simp only [List.nil_append, List.cons_append, List.map_cons, List.map_nil, Sp.pr, Given]
              rintro _ rfl
              rintro _ rfl
              go_wp2_with fail
              exact Post.isv (Ext.refl _) rfl rfl rfl
            -- 53: Op.assign t187
            apply Stage2.step (Is _) true [false, false, false, false, false, false, false, false, false, false, false, false, false, false, false, false, false, false, false, false, false, false, false, false, false, false, false, false, false, false, false, false, false, false, false, false, false, false, false, false, false, false, false, false, false, false, false, false, false, false, false, false, true] true false (Is.keeps _) (fun _ => Is.keeps _) (by kernel_rfl)
            · intro w1 h1
              have h1 : Ext _ w1 := h1
              simp only [List.nil_append, List.cons_append, List.map_cons, List.map_nil, Sp.pr, Given]
              rintro _ rfl
              go_wp2_with fail
              exact Post.isv (Ext.refl _) rfl rfl rfl
            apply Stage2.nil [true, true, true, true, true, true, true, true, true, true, true, true, true, true, true, true, true, true, true, true, true, true, true, true, true, true, true, true, true, true, true, true, true, true, true, true, true, true, true, true, true, true, true, true, true, true, true, true, true, true, true, true, true, true] (by kernel_rfl)
            intro w1 h1
            have h1 : (Ext) _ w1 := h1
            simp only [List.nil_append, List.cons_append, List.map_cons, List.map_nil, Sp.pr]
            refine Fin2.is_ ?_
            refine Fin2.is_ ?_
            refine Fin2.is_ ?_
            refine Fin2.is_ ?_
            refine Fin2.is_ ?_
            refine Fin2.is_ ?_
            refine Fin2.is_ ?_
            refine Fin2.is_ ?_
            refine Fin2.is_ ?_
            refine Fin2.is_ ?_
            refine Fin2.is_ ?_
            refine Fin2.is_ ?_
            refine Fin2.is_ ?_
            refine Fin2.is_ ?_
            refine Fin2.is_ ?_
            refine Fin2.is_ ?_
            refine Fin2.step_ ?_
            rintro _ ⟨A7, n7, c7, rfl, l7⟩
            refine Fin2.is_ ?_
            refine Fin2.is_ ?_
            refine Fin2.is_ ?_
            refine Fin2.is_ ?_
            refine Fin2.is_ ?_
            refine Fin2.is_ ?_
            refine Fin2.is_ ?_
            refine Fin2.is_ ?_
            refine Fin2.is_ ?_
            refine Fin2.is_ ?_
            refine Fin2.is_ ?_
            refine Fin2.is_ ?_
            refine Fin2.is_ ?_
            refine Fin2.is_ ?_
            refine Fin2.is_ ?_
            refine Fin2.is_ ?_
            refine Fin2.is_ ?_
            refine Fin2.is_ ?_
            refine Fin2.is_ ?_
            refine Fin2.is_ ?_
            refine Fin2.is_ ?_
            refine Fin2.is_ ?_
            refine Fin2.is_ ?_
            refine Fin2.is_ ?_
            refine Fin2.is_ ?_
            refine Fin2.is_ ?_
            refine Fin2.is_ ?_
            refine Fin2.is_ ?_
            refine Fin2.is_ ?_
            refine Fin2.is_ ?_
            refine Fin2.is_ ?_
            refine Fin2.is_ ?_
            refine Fin2.is_ ?_
            refine Fin2.is_ ?_
            refine Fin2.is_ ?_
            refine Fin2.is_ ?_
            refine Fin2.is_ ?_
            refine Fin2.nil_ ?_
            go_simp
            go_wp2_with fail
            go_ret
            exact ⟨rfl, gx1.trans h1⟩
      · obtain rfl : kk = (j : Int) := by omega
        clear hkk
        obtain ⟨gb, ob, x, cs, hA9, hx, rfl, ha⟩ := l9.at2 mk_rep (by omega) (show j < n9 by omega)
        subst hA9
        have e0 : wr.cell? ⟨gb, ob + j * 4, none⟩ = _ := hxr.cell (ha 0 _ rfl)
        have e1 := hxr.cell (ha 1 _ rfl)
        have e2 := hxr.cell (ha 2 _ rfl)
        have e3 := hxr.cell (ha 3 _ rfl)
        have hnx := findN_at (s := s) hx
        rw [hfd.out] at hnx
        obtain ⟨x1, x2, x3, x4⟩ := x
        simp only at e0 e1 e2 e3 hnx
        clear ha hx hfd
        by_cases he : x2 = s
        · subst he
          rw [if_pos rfl] at hnx
          have HN := Lib.hid hnx
          have u0 : wr.cell? ⟨w10.heap.size + 1, 0, none⟩ = _ := blk_cell hbk.out 0
          have v0 := blk_frozen hbk.out 0
          have u1 : wr.cell? ⟨w10.heap.size + 1, 1, none⟩ = _ := blk_cell hbk.out 1
          have v1 := blk_frozen hbk.out 1
          have u2 : wr.cell? ⟨w10.heap.size + 1, 2, none⟩ = _ := blk_cell hbk.out 2
          have v2 := blk_frozen hbk.out 2
          have u3 : wr.cell? ⟨w10.heap.size + 1, 3, none⟩ = _ := blk_cell hbk.out 3
          have v3 := blk_frozen hbk.out 3
          have hB2 : Hid (((((wr.setCell ⟨w10.heap.size + 1, 0, none⟩ (.int .i64 x1)).setCell ⟨w10.heap.size + 1, 1, none⟩ (.string x2)).setCell ⟨w10.heap.size + 1, 2, none⟩ (.int .i64 x3)).setCell ⟨w10.heap.size + 1, 3, none⟩ (.bool x4)).heap[w10.heap.size + 1]? = some (.cells (mkC ⟨x1, x2, x3, x4⟩) TMk (0, 0))) := by
            unfold Hid
            have := blk_set (blk_set (blk_set (blk_set hbk.out 0 (.int .i64 x1)) 1 (.string x2)) 2 (.int .i64 x3)) 3 (.bool x4)
            simpa using this
          have hx2 : Ext wk ((((wr.setCell ⟨w10.heap.size + 1, 0, none⟩ (.int .i64 x1)).setCell ⟨w10.heap.size + 1, 1, none⟩ (.string x2)).setCell ⟨w10.heap.size + 1, 2, none⟩ (.int .i64 x3)).setCell ⟨w10.heap.size + 1, 3, none⟩ (.bool x4)) := (((hxr.sets (Nat.le_of_eq HGE.out) _).sets (Nat.le_of_eq HGE.out) _).sets (Nat.le_of_eq HGE.out) _).sets (Nat.le_of_eq HGE.out) _
          clear hnx hbk hxr
          go_wp2_with fail
          go_roundw
          case rel => exact ⟨j, some ⟨x1, x2, x3, x4⟩, (j : Int) - 1, by omega, rfl, rfl, by go_num, HN, hB2, hx2⟩
          case measure => simp [intOf]
        · have heb : (x2.toList == s.toList) = false := by
            rw [beq_eq_false_iff_ne]
            exact fun h => he (bytes_inj h)
          rw [if_neg he] at hnx
          have HN := Lib.hid hnx
          clear hnx he
          go_wp2_with fail
          go_roundw
          case rel => exact ⟨j, fo2, (j : Int) - 1, by omega, rfl, rfl, by go_num, HN, hbk, hxr⟩
          case measure => simp [intOf]
  | true =>
    have hBl : (put b (crcOf b) 4).length = b.length + 4 := by unfold put; rw [List.length_append, le_length]
    obtain rfl : put b (crcOf b) 4 = B := hB
    go_wp2_with fail
    refine (ref_Seal A1 n1 c1 b _ (hb.ext gx1) (by omega)).mono ?_
    rintro e u2 ⟨AS, nS, cS, rfl, hS, hxS⟩
    replace b0 := hxS.cell b0
    replace b1 := hxS.cell b1
    replace b2 := hxS.cell b2
    replace b3 := hxS.cell b3
    replace b4 := hxS.cell b4
    replace b5 := hxS.cell b5
    replace b6 := hxS.cell b6
    replace gx1 := gx1.trans hxS
    have hsB := hS.sl
    have hnB : nS ≤ 304 := by rw [← hS.len, hBl, hb.len]; omega
    obtain ⟨B, hB⟩ : ∃ B, put b (crcOf b) 4 = B := ⟨_, rfl⟩
    rw [hB] at HO HO2 HY hsB
    clear hxS hS hBl hB
    have hlw := hl.ext mk_rep gx1
    go_wp2_with fail
    refine (header_Put ⟨r1, h2, h3, h4, nx, sq, xs⟩ hlw HSH (by omega) HR HL).mono ?_
    rintro e w2 ⟨A2, n2, c2, rfl, hb2, hx2⟩
    rw [her]
    replace b0 := hx2.cell b0
    replace b1 := hx2.cell b1
    replace b2 := hx2.cell b2
    replace b3 := hx2.cell b3
    replace b4 := hx2.cell b4
    replace b5 := hx2.cell b5
    replace b6 := hx2.cell b6
    replace gx1 := gx1.trans hx2
    replace hsB := hsB.ext hx2
    clear hx2 hlw
    have hlw := hl.ext mk_rep gx1
    go_wp2_with fail
    refine (ref_PutHead ⟨r1, h2, h3, h4, nx, sq, xs⟩ hlw HSH (by omega) HR HL).mono ?_
    rintro e w3 ⟨A3, n3, c3, rfl, hb3, hx3⟩
    rw [her]
    replace b0 := hx3.cell b0
    replace b1 := hx3.cell b1
    replace b2 := hx3.cell b2
    replace b3 := hx3.cell b3
    replace b4 := hx3.cell b4
    replace b5 := hx3.cell b5
    replace b6 := hx3.cell b6
    replace gx1 := gx1.trans hx3
    replace hsB := hsB.ext hx3
    have tb2 := hb2.sl.ext hx3
    have tb3 := hb3.sl
    clear hx3 hlw hb2 hb3
    go_wp2_with fail
    have hgc := header_Get hsB (by omega) HO HY
    rw [HP.out] at hgc
    simp only at hgc
    refine hgc.mono ?_
    rintro e w4 ⟨A4, n4, c4, rfl, l4, hx4⟩
    clear hgc
    have hx5 := hx4.allocs (.cells #[.int .i64 p1, .int .i64 p2, .int .i64 p3, .int .i64 p4, .int .i64 p5, .int .i64 p6, .slice A4 n4 c4] THd)
    replace b0 := hx5.cell b0
    have d0 := cell_new w4 #[.int .i64 p1, .int .i64 p2, .int .i64 p3, .int .i64 p4, .int .i64 p5, .int .i64 p6, .slice A4 n4 c4] THd 0
    replace b1 := hx5.cell b1
    have d1 := cell_new w4 #[.int .i64 p1, .int .i64 p2, .int .i64 p3, .int .i64 p4, .int .i64 p5, .int .i64 p6, .slice A4 n4 c4] THd 1
    replace b2 := hx5.cell b2
    have d2 := cell_new w4 #[.int .i64 p1, .int .i64 p2, .int .i64 p3, .int .i64 p4, .int .i64 p5, .int .i64 p6, .slice A4 n4 c4] THd 2
    replace b3 := hx5.cell b3
    have d3 := cell_new w4 #[.int .i64 p1, .int .i64 p2, .int .i64 p3, .int .i64 p4, .int .i64 p5, .int .i64 p6, .slice A4 n4 c4] THd 3
    replace b4 := hx5.cell b4
    have d4 := cell_new w4 #[.int .i64 p1, .int .i64 p2, .int .i64 p3, .int .i64 p4, .int .i64 p5, .int .i64 p6, .slice A4 n4 c4] THd 4
    replace b5 := hx5.cell b5
    have d5 := cell_new w4 #[.int .i64 p1, .int .i64 p2, .int .i64 p3, .int .i64 p4, .int .i64 p5, .int .i64 p6, .slice A4 n4 c4] THd 5
    replace b6 := hx5.cell b6
    have d6 := cell_new w4 #[.int .i64 p1, .int .i64 p2, .int .i64 p3, .int .i64 p4, .int .i64 p5, .int .i64 p6, .slice A4 n4 c4] THd 6
    replace gx1 := gx1.trans hx5
    replace hsB := hsB.ext hx5
    replace tb2 := tb2.ext hx5
    replace tb3 := tb3.ext hx5
    have l4' := l4.lst.ext mk_rep (Ext.alloc w4 (.cells #[.int .i64 p1, .int .i64 p2, .int .i64 p3, .int .i64 p4, .int .i64 p5, .int .i64 p6, .slice A4 n4 c4] THd))
    clear hx4 hx5 l4
    go_wp2_with fail
    have hgc := ref_GetHead hsB (by omega) HO2 HY
    rw [HP.out] at hgc
    simp only at hgc
    refine hgc.mono ?_
    rintro e w6 ⟨A6, n6, c6, rfl, l6, hx6⟩
    clear hgc
    have hx7 := hx6.allocs (.cells #[.int .i64 p1, .int .i64 p2, .int .i64 p3, .int .i64 p4, .int .i64 p5, .int .i64 p6, .slice A6 n6 c6] THd)
    replace b0 := hx7.cell b0
    replace d0 := hx7.cell d0
    have f0 := cell_new w6 #[.int .i64 p1, .int .i64 p2, .int .i64 p3, .int .i64 p4, .int .i64 p5, .int .i64 p6, .slice A6 n6 c6] THd 0
    replace b1 := hx7.cell b1
    replace d1 := hx7.cell d1
    have f1 := cell_new w6 #[.int .i64 p1, .int .i64 p2, .int .i64 p3, .int .i64 p4, .int .i64 p5, .int .i64 p6, .slice A6 n6 c6] THd 1
    replace b2 := hx7.cell b2
    replace d2 := hx7.cell d2
    have f2 := cell_new w6 #[.int .i64 p1, .int .i64 p2, .int .i64 p3, .int .i64 p4, .int .i64 p5, .int .i64 p6, .slice A6 n6 c6] THd 2
    replace b3 := hx7.cell b3
    replace d3 := hx7.cell d3
    have f3 := cell_new w6 #[.int .i64 p1, .int .i64 p2, .int .i64 p3, .int .i64 p4, .int .i64 p5, .int .i64 p6, .slice A6 n6 c6] THd 3
    replace b4 := hx7.cell b4
    replace d4 := hx7.cell d4
    have f4 := cell_new w6 #[.int .i64 p1, .int .i64 p2, .int .i64 p3, .int .i64 p4, .int .i64 p5, .int .i64 p6, .slice A6 n6 c6] THd 4
    replace b5 := hx7.cell b5
    replace d5 := hx7.cell d5
    have f5 := cell_new w6 #[.int .i64 p1, .int .i64 p2, .int .i64 p3, .int .i64 p4, .int .i64 p5, .int .i64 p6, .slice A6 n6 c6] THd 5
    replace b6 := hx7.cell b6
    replace d6 := hx7.cell d6
    have f6 := cell_new w6 #[.int .i64 p1, .int .i64 p2, .int .i64 p3, .int .i64 p4, .int .i64 p5, .int .i64 p6, .slice A6 n6 c6] THd 6
    replace gx1 := gx1.trans hx7
    replace tb2 := tb2.ext hx7
    replace tb3 := tb3.ext hx7
    replace l4' := l4'.ext mk_rep hx7
    have l6' := l6.lst.ext mk_rep (Ext.alloc w6 (.cells #[.int .i64 p1, .int .i64 p2, .int .i64 p3, .int .i64 p4, .int .i64 p5, .int .i64 p6, .slice A6 n6 c6] THd))
    have t2 := run_text_u8 tb2
    have t3 := run_text_u8 tb3
    clear hx6 hx7 l6 hsB tb2 tb3
    go_wp2_with fail
    refine (ref_SameHead ⟨p1, p2, p3, p4, p5, p6, ps⟩ ⟨p1, p2, p3, p4, p5, p6, ps⟩ l4' l6' HSS).mono ?_
    rintro e w8 ⟨rfl, hx8⟩
    replace b0 := hx8.cell b0
    replace d0 := hx8.cell d0
    replace b1 := hx8.cell b1
    replace d1 := hx8.cell d1
    replace b2 := hx8.cell b2
    replace d2 := hx8.cell d2
    replace b3 := hx8.cell b3
    replace d3 := hx8.cell d3
    replace b4 := hx8.cell b4
    replace d4 := hx8.cell d4
    replace b5 := hx8.cell b5
    replace d5 := hx8.cell d5
    replace b6 := hx8.cell b6
    replace d6 := hx8.cell d6
    replace gx1 := gx1.trans hx8
    replace l4' := l4'.ext mk_rep hx8
    clear hx8 l6' f0 f1 f2 f3 f4 f5 f6 t2 t3
    have hlw := hl.ext mk_rep gx1
    go_wp2_with fail
    refine (ref_Seen ⟨r1, h2, h3, h4, nx, sq, xs⟩ hlw HSH (by omega) HRS).mono ?_
    rintro e w9 ⟨A9, n9, c9, rfl, l9, hx9⟩
    have hn9 : n9 ≤ 40 := by rw [← l9.len, ← HRS.out]; exact Nat.le_trans (List.length_filter_le _ _) HX40.out
    replace b0 := hx9.cell b0
    replace d0 := hx9.cell d0
    replace b1 := hx9.cell b1
    replace d1 := hx9.cell d1
    replace b2 := hx9.cell b2
    replace d2 := hx9.cell d2
    replace b3 := hx9.cell b3
    replace d3 := hx9.cell d3
    replace b4 := hx9.cell b4
    replace d4 := hx9.cell d4
    replace b5 := hx9.cell b5
    replace d5 := hx9.cell d5
    replace b6 := hx9.cell b6
    replace d6 := hx9.cell d6
    replace gx1 := gx1.trans hx9
    replace l4' := l4'.ext mk_rep hx9
    replace l9 := l9.lst
    clear hx9 hlw
    have hlw := hl.ext mk_rep gx1
    go_wp2_with fail
    have hfc := header_Find ⟨r1, h2, h3, h4, nx, sq, xs⟩ s hlw HSH HFM
    rw [HFG.out] at hfc
    refine hfc.mono ?_
    rintro e w10 ⟨rfl, hx10⟩
    clear hfc
    obtain ⟨f1, f2, f3, f4⟩ := fm
    have hx11 := hx10.allocs (.cells #[.int .i64 f1, .string f2, .int .i64 f3, .bool f4] TMk)
    replace b0 := hx11.cell b0
    replace d0 := hx11.cell d0
    replace b1 := hx11.cell b1
    replace d1 := hx11.cell d1
    replace b2 := hx11.cell b2
    replace d2 := hx11.cell d2
    replace b3 := hx11.cell b3
    replace d3 := hx11.cell d3
    replace b4 := hx11.cell b4
    replace d4 := hx11.cell d4
    replace b5 := hx11.cell b5
    replace d5 := hx11.cell d5
    replace b6 := hx11.cell b6
    replace d6 := hx11.cell d6
    have m0 := cell_new w10 #[.int .i64 f1, .string f2, .int .i64 f3, .bool f4] TMk 0
    have m1 := cell_new w10 #[.int .i64 f1, .string f2, .int .i64 f3, .bool f4] TMk 1
    have m2 := cell_new w10 #[.int .i64 f1, .string f2, .int .i64 f3, .bool f4] TMk 2
    have m3 := cell_new w10 #[.int .i64 f1, .string f2, .int .i64 f3, .bool f4] TMk 3
    replace gx1 := gx1.trans hx11
    replace l4' := l4'.ext mk_rep hx11
    replace l9 := l9.ext mk_rep hx11
    clear hx10 hx11 hlw
    obtain ⟨wk, hwk⟩ : ∃ q, q = w10.alloc (.cells #[.int .i64 f1, .string f2, .int .i64 f3, .bool f4] TMk) := ⟨_, rfl⟩
    rw [← hwk] at b0 b1 b2 b3 b4 b5 b6 d0 d1 d2 d3 d4 d5 d6 m0 m1 m2 m3 gx1 l4' l9
    have HGE : Hid (wk.heap.size = w10.heap.size + 1) := by unfold Hid; rw [hwk]; simp
    have HB0 : Hid ((wk.alloc (.cells #[.int .i64 0, .string ⟨#[]⟩, .int .i64 0, .bool false] TMk)).heap[w10.heap.size + 1]? = some (.cells (mkC mk0) TMk (0, 0))) := by unfold Hid; rw [← HGE.out]; exact heap_alloc_new _ _
    have h963 := l9.n63
    go_wp2_with fail
    rw [← hwk]
    clear hwk
    go_loopw [21, 23] (fun iv kv wr => ∃ (k : Nat) (fo2 : Option Mk) (kk : Int), k ≤ n9 ∧ kk = (k : Int) - 1 ∧ iv = .bool fo2.isSome ∧ kv = .int .i64 kk ∧ Hid (findN (R.drop k) s = fo2) ∧ Hid (wr.heap[w10.heap.size + 1]? = some (.cells (mkC (fo2.getD mk0)) TMk (0, 0))) ∧ Ext wk wr) (fun _ kv _ => (intOf kv + 1).toNat)
    case atStart => exact ⟨n9, none, (n9 : Int) - 1, by omega, rfl, rfl, rfl, by unfold Hid; rw [List.drop_of_length_le (by rw [l9.len]; exact Nat.le_refl _)]; rfl, HB0, Ext.alloc _ _⟩
    case round =>
      clear HB0
      obtain ⟨k, fo2, kk, hk, hkk, rfl, rfl, hfd, hbk, hxr⟩ := hrel
      rcases k with _ | j
      · obtain rfl : kk = -1 := by omega
        have efo : fo2 = fo := by rw [← hfd.out, ← HFN.out, List.drop_zero]
        subst efo
        have hbk2 : Hid (wr.heap[w10.heap.size + 1]? = some (.cells (mkC ⟨f1, f2, f3, f4⟩) TMk (0, 0))) := by unfold Hid; rw [← HFG.out]; exact hbk.out
        clear hbk hfd HFN hkk
        replace b0 := hxr.cell b0
        replace d0 := hxr.cell d0
        replace b1 := hxr.cell b1
        replace d1 := hxr.cell d1
        replace b2 := hxr.cell b2
        replace d2 := hxr.cell d2
        replace b3 := hxr.cell b3
        replace d3 := hxr.cell d3
        replace b4 := hxr.cell b4
        replace d4 := hxr.cell d4
        replace b5 := hxr.cell b5
        replace d5 := hxr.cell d5
        replace b6 := hxr.cell b6
        replace d6 := hxr.cell d6
        replace m0 := hxr.cell m0
        replace m1 := hxr.cell m1
        replace m2 := hxr.cell m2
        replace m3 := hxr.cell m3
        replace gx1 := gx1.trans hxr
        replace l4' := l4'.ext mk_rep hxr
        replace l9 := l9.ext mk_rep hxr
        obtain ⟨wo, rfl⟩ : ∃ q, q = wr := ⟨_, rfl⟩
        clear hxr
        go_wp2_with fail
        go_loopw [22, 24] (fun v i wr => ∃ (k : Nat) (d : Int), k ≤ n ∧ v = .int .i64 d ∧ i = .int .i64 k ∧ Hid (newestI (xs.take k) = d) ∧ Ext wo wr) (fun _ i _ => n - (intOf i).toNat)
        case atStart => exact ⟨0, 0, by omega, rfl, rfl, rfl, Ext.refl _⟩
        case round =>
          obtain ⟨k, d, hk, rfl, rfl, hd, hxr⟩ := hrel
          replace b0 := hxr.cell b0
          replace d0 := hxr.cell d0
          replace b1 := hxr.cell b1
          replace d1 := hxr.cell d1
          replace b2 := hxr.cell b2
          replace d2 := hxr.cell d2
          replace b3 := hxr.cell b3
          replace d3 := hxr.cell d3
          replace b4 := hxr.cell b4
          replace d4 := hxr.cell d4
          replace b5 := hxr.cell b5
          replace d5 := hxr.cell d5
          replace b6 := hxr.cell b6
          replace d6 := hxr.cell d6
          replace m0 := hxr.cell m0
          replace m1 := hxr.cell m1
          replace m2 := hxr.cell m2
          replace m3 := hxr.cell m3
          replace gx1 := gx1.trans hxr
          replace l4' := l4'.ext mk_rep hxr
          replace l9 := l9.ext mk_rep hxr
          by_cases hlt : k < n
          · obtain ⟨ga, oa, x, cs, rfl, hx, rfl, ha⟩ := hl.at2 mk_rep (by omega) hlt
            have a0 : wr.cell? ⟨ga, oa + k * 4, none⟩ = _ := gx1.cell (ha 0 _ rfl)
            have hn := newest_next hx
            rw [hd.out] at hn
            obtain ⟨x1, x2, x3, x4⟩ := x
            simp only at a0 hn
            by_cases hc : k = 0 ∨ d < x1
            · rw [if_pos hc] at hn
              have HN := Lib.hid hn
              clear hn hx hd ha
              by_cases hk0 : k = 0
              · have hkb : ((k : Int) == 0) = true := by simp; omega
                clear hc hk0
                go_wp2_with fail
                go_roundw
                case rel => exact ⟨k + 1, x1, by omega, rfl, by go_num, HN, hxr⟩
                case measure => simp [intOf]; omega
              · have hkb : ((k : Int) == 0) = false := by simp; omega
                have hdx : d < x1 := by omega
                clear hc hk0
                go_wp2_with fail
                go_roundw
                case rel => exact ⟨k + 1, x1, by omega, rfl, by go_num, HN, hxr⟩
                case measure => simp [intOf]; omega
            · rw [if_neg hc] at hn
              have HN := Lib.hid hn
              clear hn hx hd ha
              have hkb : ((k : Int) == 0) = false := by simp; omega
              have hdx : decide (d < x1) = false := by simp; omega
              clear hc
              go_wp2_with fail
              go_roundw
              case rel => exact ⟨k + 1, d, by omega, rfl, by go_num, HN, hxr⟩
              case measure => simp [intOf]; omega
          · obtain rfl : k = n := by omega
            have e := hd.out
            rw [List.take_of_length_le (by rw [hl.len]; exact Nat.le_refl _), HNE.out] at e
            subst e
            have hbk3 := Lib.hid (blk_ext hbk2.out hxr)
            have k0 : wr.cell? ⟨w10.heap.size + 1, 0, none⟩ = some (.int .i64 f1) := blk_cell hbk3.out 0
            have k1 : wr.cell? ⟨w10.heap.size + 1, 1, none⟩ = some (.string f2) := blk_cell hbk3.out 1
            have k2 : wr.cell? ⟨w10.heap.size + 1, 2, none⟩ = some (.int .i64 f3) := blk_cell hbk3.out 2
            have k3 : wr.cell? ⟨w10.heap.size + 1, 3, none⟩ = some (.bool f4) := blk_cell hbk3.out 3
            have hlw := hl.ext mk_rep gx1
            obtain ⟨wf, rfl⟩ : ∃ q, q = wr := ⟨_, rfl⟩
            clear hd hbk2 hbk3 hxr hl
            go_wp2_with fail
            refine wp_region_typed2 (R := But wf.heap.size (fun _ => False)) Ext.steady (But.steady _ _) (fun _ _ => But.of_ext) rfl 188 rfl [0, 1, 0, 7, 15, 31, 63, 127, 255, 63, 575, 2047, 4095, 8191, 16383, 32767, 65535, 32767, 262143, 524287, 1048575, 2097151, 2097151, 8388607, 16777215, 33554431, 67108863, 67108863, 268435455, 536870911, 1073741823, 2147483647, 4294967295, 2147483647, 17179869183, 34359738367, 68719476735, 137438953471, 137438953471, 549755813887, 137438953471, 137438953471, 4398046511103, 8796093022207, 17592186044415, 35184372088831, 70368744177663, 70368744177663, 281474976710655, 562949953421311, 1125899906842623, 2251799813685247, 4503599627370495, 9007199254740991] 0 (by kernel_rfl) ?_
            -- 0: Op.load 43 t4
            apply Stage2.step (Is (hdV ⟨r1, h2, h3, h4, nx, sq, xs⟩ A k c)) true [] true false (Is.keeps _) (fun _ => Is.keeps _) (by kernel_rfl)
            · intro w1 h1
              have h1 : Ext _ w1 := h1
              simp only [List.nil_append, List.cons_append, List.map_cons, List.map_nil, Given]
              have q0 := h1.cell b0
              have q1 := h1.cell b1
              have q2 := h1.cell b2
              have q3 := h1.cell b3
              have q4 := h1.cell b4
              have q5 := h1.cell b5
              have q6 := h1.cell b6
              go_wp2_with fail
              exact Post.isv (Ext.refl _) rfl rfl rfl
            -- 1: Op.call { value (Operand.func 21), args := #[t135], argTypes := #[43] }
            apply Stage2.step (Is (.bool r)) true [true] true false (Is.keeps _) (fun _ => Is.keeps _) (by kernel_rfl)
            · intro w1 h1
              have h1 : Ext _ w1 := h1
              simp only [List.nil_append, List.cons_append, List.map_cons, List.map_nil, Sp.pr, Given]
              rintro _ rfl
              go_wp2_with fail
              refine (header_Right ⟨r1, h2, h3, h4, nx, sq, xs⟩ (hlw.ext mk_rep h1) HSH (by omega) HR).mono ?_
              rintro e w2 ⟨rfl, hx2⟩
              go_wp2_with fail
              exact Post.isv hx2 rfl rfl rfl
            -- 2: Op.load 43 t4
            apply Stage2.step (Is (hdV ⟨r1, h2, h3, h4, nx, sq, xs⟩ A k c)) true [] true false (Is.keeps _) (fun _ => Is.keeps _) (by kernel_rfl)
            · intro w1 h1
              have h1 : Ext _ w1 := h1
              simp only [List.nil_append, List.cons_append, List.map_cons, List.map_nil, Given]
              have q0 := h1.cell b0
              have q1 := h1.cell b1
              have q2 := h1.cell b2
              have q3 := h1.cell b3
              have q4 := h1.cell b4
              have q5 := h1.cell b5
              have q6 := h1.cell b6
              go_wp2_with fail
              exact Post.isv (Ext.refl _) rfl rfl rfl
            -- 3: Op.call { value (Operand.func 22), args := #[t137], argTypes := #[43] }
            apply Stage2.step (Is (.bool r)) true [false, false, true] true false (Is.keeps _) (fun _ => Is.keeps _) (by kernel_rfl)
            · intro w1 h1
              have h1 : Ext _ w1 := h1
              simp only [List.nil_append, List.cons_append, List.map_cons, List.map_nil, Sp.pr, Given]
              rintro _ rfl
              go_wp2_with fail
              refine (ref_RightHead ⟨r1, h2, h3, h4, nx, sq, xs⟩ (hlw.ext mk_rep h1) HSH (by omega) HR).mono ?_
              rintro e w2 ⟨rfl, hx2⟩
              go_wp2_with fail
              exact Post.isv hx2 rfl rfl rfl
            -- 4: Op.binOp BinOp.eql 4 t136 t138 4
            apply Stage2.step (Is (.bool true)) true [false, true, false, true] true false (Is.keeps _) (fun _ => Is.keeps _) (by kernel_rfl)
            · intro w1 h1
              have h1 : Ext _ w1 := h1
              simp only [List.nil_append, List.cons_append, List.map_cons, List.map_nil, Sp.pr, Given]
              rintro _ rfl
              rintro _ rfl
              go_wp2_with fail
              exact Post.isv (Ext.refl _) rfl rfl rfl
            -- 5: Op.move t139
            apply Stage2.step (Is _) true [false, false, false, false, true] true false (Is.keeps _) (fun _ => Is.keeps _) (by kernel_rfl)
            · intro w1 h1
              have h1 : Ext _ w1 := h1
              simp only [List.nil_append, List.cons_append, List.map_cons, List.map_nil, Sp.pr, Given]
              rintro _ rfl
              go_wp2_with fail
              exact Post.isv (Ext.refl _) rfl rfl rfl
            -- 6: Op.fieldAddr 43 t4 1   [guarded: some (5, true)]
            apply Stage2.step (Is _) true [false, false, false, false, false, true] true false (Is.keeps _) (fun _ => Is.keeps _) (by kernel_rfl)
            · intro w1 h1
              have h1 : Ext _ w1 := h1
              simp only [List.nil_append, List.cons_append, List.map_cons, List.map_nil, Sp.pr, Given]
              rintro _ rfl
              go_wp2_with fail
              exact Post.isv (Ext.refl _) rfl rfl rfl
            -- 7: Op.load 41 t141   [guarded: some (5, true)]
            apply Stage2.step (Is (layV h2 h3 h4)) true [false, false, false, false, false, true, true] true false (Is.keeps _) (fun _ => Is.keeps _) (by kernel_rfl)
            · intro w1 h1
              have h1 : Ext _ w1 := h1
              simp only [List.nil_append, List.cons_append, List.map_cons, List.map_nil, Sp.pr, Given]
              rintro _ rfl
              rintro _ rfl
              have q1 := h1.cell b1
              have q2 := h1.cell b2
              have q3 := h1.cell b3
              go_wp2_with fail
              exact Post.isv (Ext.refl _) rfl rfl rfl
            -- 8: Op.call { value (Operand.func 31), args := #[t142], argTypes := #[41] }   [guarded: some (5, true)]
            apply Stage2.step (Is (.bool qs)) true [false, false, false, false, false, true, false, true] true false (Is.keeps _) (fun _ => Is.keeps _) (by kernel_rfl)
            · intro w1 h1
              have h1 : Ext _ w1 := h1
              simp only [List.nil_append, List.cons_append, List.map_cons, List.map_nil, Sp.pr, Given]
              rintro _ rfl
              rintro _ rfl
              go_wp2_with fail
              refine (header_Shape h2 h3 h4 _ HQS).mono ?_
              rintro e w2 ⟨rfl, hx2⟩
              go_wp2_with fail
              exact Post.isv hx2 rfl rfl rfl
            -- 9: Op.fieldAddr 43 t4 1   [guarded: some (5, true)]
            apply Stage2.step (Is _) true [false, false, false, false, false, true] true false (Is.keeps _) (fun _ => Is.keeps _) (by kernel_rfl)
            · intro w1 h1
              have h1 : Ext _ w1 := h1
              simp only [List.nil_append, List.cons_append, List.map_cons, List.map_nil, Sp.pr, Given]
              rintro _ rfl
              go_wp2_with fail
              exact Post.isv (Ext.refl _) rfl rfl rfl
            -- 10: Op.load 41 t144   [guarded: some (5, true)]
            apply Stage2.step (Is (layV h2 h3 h4)) true [false, false, false, false, false, true, false, false, false, true] true false (Is.keeps _) (fun _ => Is.keeps _) (by kernel_rfl)
            · intro w1 h1
              have h1 : Ext _ w1 := h1
              simp only [List.nil_append, List.cons_append, List.map_cons, List.map_nil, Sp.pr, Given]
              rintro _ rfl
              rintro _ rfl
              have q1 := h1.cell b1
              have q2 := h1.cell b2
              have q3 := h1.cell b3
              go_wp2_with fail
              exact Post.isv (Ext.refl _) rfl rfl rfl
            -- 11: Op.call { value (Operand.func 32), args := #[t145], argTypes := #[41] }   [guarded: some (5, true)]
            apply Stage2.step (Is (.bool qs)) true [false, false, false, false, false, true, false, false, false, false, true] true false (Is.keeps _) (fun _ => Is.keeps _) (by kernel_rfl)
            · intro w1 h1
              have h1 : Ext _ w1 := h1
              simp only [List.nil_append, List.cons_append, List.map_cons, List.map_nil, Sp.pr, Given]
              rintro _ rfl
              rintro _ rfl
              go_wp2_with fail
              refine (ref_Shape h2 h3 h4 _ HQS).mono ?_
              rintro e w2 ⟨rfl, hx2⟩
              go_wp2_with fail
              exact Post.isv hx2 rfl rfl rfl
            -- 12: Op.binOp BinOp.eql 4 t143 t146 4   [guarded: some (5, true)]
            apply Stage2.step (Is (.bool true)) true [false, false, false, false, false, true, false, false, true, false, false, true] true false (Is.keeps _) (fun _ => Is.keeps _) (by kernel_rfl)
            · intro w1 h1
              have h1 : Ext _ w1 := h1
              simp only [List.nil_append, List.cons_append, List.map_cons, List.map_nil, Sp.pr, Given]
              rintro _ rfl
              rintro _ rfl
              rintro _ rfl
              go_wp2_with fail
              exact Post.isv (Ext.refl _) rfl rfl rfl
            -- 13: Op.pick t140 t147 (const (Value.bool false))
            apply Stage2.step (Is _) true [false, false, false, false, false, true, false, false, false, false, false, false, true] true false (Is.keeps _) (fun _ => Is.keeps _) (by kernel_rfl)
            · intro w1 h1
              have h1 : Ext _ w1 := h1
              simp only [List.nil_append, List.cons_append, List.map_cons, List.map_nil, Sp.pr, Given]
              rintro _ rfl
              rintro _ rfl
              go_wp2_with fail
              exact Post.isv (Ext.refl _) rfl rfl rfl
            -- 14: Op.move t148
            apply Stage2.step (Is _) true [false, false, false, false, false, false, false, false, false, false, false, false, false, true] true false (Is.keeps _) (fun _ => Is.keeps _) (by kernel_rfl)
            · intro w1 h1
              have h1 : Ext _ w1 := h1
              simp only [List.nil_append, List.cons_append, List.map_cons, List.map_nil, Sp.pr, Given]
              rintro _ rfl
              go_wp2_with fail
              exact Post.isv (Ext.refl _) rfl rfl rfl
            -- 15: Op.load 43 t4   [guarded: some (14, true)]
            apply Stage2.step (Is (hdV ⟨r1, h2, h3, h4, nx, sq, xs⟩ A k c)) true [false, false, false, false, false, false, false, false, false, false, false, false, false, false, true] true false (Is.keeps _) (fun _ => Is.keeps _) (by kernel_rfl)
            · intro w1 h1
              have h1 : Ext _ w1 := h1
              simp only [List.nil_append, List.cons_append, List.map_cons, List.map_nil, Sp.pr, Given]
              rintro _ rfl
              have q0 := h1.cell b0
              have q1 := h1.cell b1
              have q2 := h1.cell b2
              have q3 := h1.cell b3
              have q4 := h1.cell b4
              have q5 := h1.cell b5
              have q6 := h1.cell b6
              go_wp2_with fail
              exact Post.isv (Ext.refl _) rfl rfl rfl
            -- 16: Op.call { value (Operand.func 25), args := #[t150], argTypes := #[43] }   [guarded: some (14, true)]
            apply Stage2.step (SeenT R) false [false, false, false, false, false, false, false, false, false, false, false, false, false, false, true, true] true false (SeenT.keeps _) (no_keeps) (by kernel_rfl)
            · intro w1 h1
              have h1 : Ext _ w1 := h1
              simp only [List.nil_append, List.cons_append, List.map_cons, List.map_nil, Sp.pr, Given]
              rintro _ rfl
              rintro _ rfl
              go_wp2_with fail
              refine (header_Seen ⟨r1, h2, h3, h4, nx, sq, xs⟩ (hlw.ext mk_rep h1) HSH (by omega) HRS).mono ?_
              rintro e w2 ⟨A7, n7, c7, rfl, l7, hx2⟩
              go_wp2_with fail
              exact ⟨rfl, rfl, hx2, _, _, _, rfl, l7.lst⟩
            -- 17: Op.move t17   [guarded: some (14, true)]
            apply Stage2.step (Is _) true [false, false, false, false, false, false, false, false, false, false, false, false, false, false, true] true false (Is.keeps _) (fun _ => Is.keeps _) (by kernel_rfl)
            · intro w1 h1
              have h1 : Ext _ w1 := h1
              simp only [List.nil_append, List.cons_append, List.map_cons, List.map_nil, Sp.pr, Given]
              rintro _ rfl
              go_wp2_with fail
              exact Post.isv (Ext.refl _) rfl rfl rfl
            -- 18: Op.call { value (Operand.func 33), args := #[t151, t152], argTypes := #[27, 27] }   [guarded: some (
            apply Stage2.step (Is (.bool true)) true [false, false, false, false, false, false, false, false, false, false, false, false, false, false, true, false, true, true] true false (Is.keeps _) (fun _ => Is.keeps _) (by kernel_rfl)
            · intro w1 h1
              have h1 : Ext _ w1 := h1
              simp only [List.nil_append, List.cons_append, List.map_cons, List.map_nil, Sp.pr, Given]
              rintro _ rfl
              rintro _ ⟨A7, n7, c7, rfl, l7⟩
              rintro _ rfl
              go_wp2_with fail
              refine (ref_SameMarks l7 (l9.ext mk_rep h1) HSR).mono ?_
              rintro e w2 ⟨rfl, hx2⟩
              go_wp2_with fail
              exact Post.isv hx2 rfl rfl rfl
            -- 19: Op.pick t149 t153 (const (Value.bool false))
            apply Stage2.step (Is _) true [false, false, false, false, false, false, false, false, false, false, false, false, false, false, true, false, false, false, true] true false (Is.keeps _) (fun _ => Is.keeps _) (by kernel_rfl)
            · intro w1 h1
              have h1 : Ext _ w1 := h1
              simp only [List.nil_append, List.cons_append, List.map_cons, List.map_nil, Sp.pr, Given]
              rintro _ rfl
              rintro _ rfl
              go_wp2_with fail
              exact Post.isv (Ext.refl _) rfl rfl rfl
            -- 20: Op.move t154
            apply Stage2.step (Is _) true [false, false, false, false, false, false, false, false, false, false, false, false, false, false, false, false, false, false, false, true] true false (Is.keeps _) (fun _ => Is.keeps _) (by kernel_rfl)
            · intro w1 h1
              have h1 : Ext _ w1 := h1
              simp only [List.nil_append, List.cons_append, List.map_cons, List.map_nil, Sp.pr, Given]
              rintro _ rfl
              go_wp2_with fail
              exact Post.isv (Ext.refl _) rfl rfl rfl
            -- 21: Op.load 48 t18   [guarded: some (20, true)]
            apply Stage2.step (Is (mkV ⟨f1, f2, f3, f4⟩)) true [false, false, false, false, false, false, false, false, false, false, false, false, false, false, false, false, false, false, false, false, true] true false (Is.keeps _) (fun _ => Is.keeps _) (by kernel_rfl)
            · intro w1 h1
              have h1 : Ext _ w1 := h1
              simp only [List.nil_append, List.cons_append, List.map_cons, List.map_nil, Sp.pr, Given]
              rintro _ rfl
              have q0 := h1.cell m0
              have q1 := h1.cell m1
              have q2 := h1.cell m2
              have q3 := h1.cell m3
              go_wp2_with fail
              exact Post.isv (Ext.refl _) rfl rfl rfl
            -- 22: Op.load 48 t20   [guarded: some (20, true)]
            apply Stage2.step (Is (mkV ⟨f1, f2, f3, f4⟩)) true [false, false, false, false, false, false, false, false, false, false, false, false, false, false, false, false, false, false, false, false, true] true false (Is.keeps _) (fun _ => Is.keeps _) (by kernel_rfl)
            · intro w1 h1
              have h1 : Ext _ w1 := h1
              simp only [List.nil_append, List.cons_append, List.map_cons, List.map_nil, Sp.pr, Given]
              rintro _ rfl
              have q0 := h1.cell k0
              have q1 := h1.cell k1
              have q2 := h1.cell k2
              have q3 := h1.cell k3
              go_wp2_with fail
              exact Post.isv (Ext.refl _) rfl rfl rfl
            -- 23: Op.binOp BinOp.eql 48 t156 t157 48   [guarded: some (20, true)]
            apply Stage2.step (Is (.bool true)) true [false, false, false, false, false, false, false, false, false, false, false, false, false, false, false, false, false, false, false, false, true, true, true] true false (Is.keeps _) (fun _ => Is.keeps _) (by kernel_rfl)
            · intro w1 h1
              have h1 : Ext _ w1 := h1
              simp only [List.nil_append, List.cons_append, List.map_cons, List.map_nil, Sp.pr, Given]
              rintro _ rfl
              rintro _ rfl
              rintro _ rfl
              go_wp2_with fail
              exact Post.isv (Ext.refl _) rfl rfl rfl
            -- 24: Op.pick t155 t158 (const (Value.bool false))
            apply Stage2.step (Is _) true [false, false, false, false, false, false, false, false, false, false, false, false, false, false, false, false, false, false, false, false, true, false, false, true] true false (Is.keeps _) (fun _ => Is.keeps _) (by kernel_rfl)
            · intro w1 h1
              have h1 : Ext _ w1 := h1
              simp only [List.nil_append, List.cons_append, List.map_cons, List.map_nil, Sp.pr, Given]
              rintro _ rfl
              rintro _ rfl
              go_wp2_with fail
              exact Post.isv (Ext.refl _) rfl rfl rfl
            -- 25: Op.move t159
            apply Stage2.step (Is _) true [false, false, false, false, false, false, false, false, false, false, false, false, false, false, false, false, false, false, false, false, false, false, false, false, true] true false (Is.keeps _) (fun _ => Is.keeps _) (by kernel_rfl)
            · intro w1 h1
              have h1 : Ext _ w1 := h1
              simp only [List.nil_append, List.cons_append, List.map_cons, List.map_nil, Sp.pr, Given]
              rintro _ rfl
              go_wp2_with fail
              exact Post.isv (Ext.refl _) rfl rfl rfl
            -- 26: Op.move t19   [guarded: some (25, true)]
            apply Stage2.step (Is _) true [false, false, false, false, false, false, false, false, false, false, false, false, false, false, false, false, false, false, false, false, false, false, false, false, false, true] true false (Is.keeps _) (fun _ => Is.keeps _) (by kernel_rfl)
            · intro w1 h1
              have h1 : Ext _ w1 := h1
              simp only [List.nil_append, List.cons_append, List.map_cons, List.map_nil, Sp.pr, Given]
              rintro _ rfl
              go_wp2_with fail
              exact Post.isv (Ext.refl _) rfl rfl rfl
            -- 27: Op.move t21   [guarded: some (25, true)]
            apply Stage2.step (Is _) true [false, false, false, false, false, false, false, false, false, false, false, false, false, false, false, false, false, false, false, false, false, false, false, false, false, true] true false (Is.keeps _) (fun _ => Is.keeps _) (by kernel_rfl)
            · intro w1 h1
              have h1 : Ext _ w1 := h1
              simp only [List.nil_append, List.cons_append, List.map_cons, List.map_nil, Sp.pr, Given]
              rintro _ rfl
              go_wp2_with fail
              exact Post.isv (Ext.refl _) rfl rfl rfl
            -- 28: Op.binOp BinOp.eql 4 t161 t162 4   [guarded: some (25, true)]
            apply Stage2.step (Is (.bool true)) true [false, false, false, false, false, false, false, false, false, false, false, false, false, false, false, false, false, false, false, false, false, false, false, false, false, true, true, true] true false (Is.keeps _) (fun _ => Is.keeps _) (by kernel_rfl)
            · intro w1 h1
              have h1 : Ext _ w1 := h1
              simp only [List.nil_append, List.cons_append, List.map_cons, List.map_nil, Sp.pr, Given]
              rintro _ rfl
              rintro _ rfl
              rintro _ rfl
              go_wp2_with fail
              exact Post.isv (Ext.refl _) rfl rfl rfl
            -- 29: Op.pick t160 t163 (const (Value.bool false))
            apply Stage2.step (Is _) true [false, false, false, false, false, false, false, false, false, false, false, false, false, false, false, false, false, false, false, false, false, false, false, false, false, true, false, false, true] true false (Is.keeps _) (fun _ => Is.keeps _) (by kernel_rfl)
            · intro w1 h1
              have h1 : Ext _ w1 := h1
              simp only [List.nil_append, List.cons_append, List.map_cons, List.map_nil, Sp.pr, Given]
              rintro _ rfl
              rintro _ rfl
              go_wp2_with fail
              exact Post.isv (Ext.refl _) rfl rfl rfl
            -- 30: Op.move t164
            apply Stage2.step (Is _) true [false, false, false, false, false, false, false, false, false, false, false, false, false, false, false, false, false, false, false, false, false, false, false, false, false, false, false, false, false, true] true false (Is.keeps _) (fun _ => Is.keeps _) (by kernel_rfl)
            · intro w1 h1
              have h1 : Ext _ w1 := h1
              simp only [List.nil_append, List.cons_append, List.map_cons, List.map_nil, Sp.pr, Given]
              rintro _ rfl
              go_wp2_with fail
              exact Post.isv (Ext.refl _) rfl rfl rfl
            -- 31: Op.load 43 t4   [guarded: some (30, true)]
            apply Stage2.step (Is (hdV ⟨r1, h2, h3, h4, nx, sq, xs⟩ A k c)) true [false, false, false, false, false, false, false, false, false, false, false, false, false, false, false, false, false, false, false, false, false, false, false, false, false, false, false, false, false, false, true] true false (Is.keeps _) (fun _ => Is.keeps _) (by kernel_rfl)
            · intro w1 h1
              have h1 : Ext _ w1 := h1
              simp only [List.nil_append, List.cons_append, List.map_cons, List.map_nil, Sp.pr, Given]
              rintro _ rfl
              have q0 := h1.cell b0
              have q1 := h1.cell b1
              have q2 := h1.cell b2
              have q3 := h1.cell b3
              have q4 := h1.cell b4
              have q5 := h1.cell b5
              have q6 := h1.cell b6
              go_wp2_with fail
              exact Post.isv (Ext.refl _) rfl rfl rfl
            -- 32: Op.call { value (Operand.func 27), args := #[t166], argTypes := #[43] }   [guarded: some (30, true)]
            apply Stage2.step (Is (.int .i64 ne)) true [false, false, false, false, false, false, false, false, false, false, false, false, false, false, false, false, false, false, false, false, false, false, false, false, false, false, false, false, false, false, true, true] true false (Is.keeps _) (fun _ => Is.keeps _) (by kernel_rfl)
            · intro w1 h1
              have h1 : Ext _ w1 := h1
              simp only [List.nil_append, List.cons_append, List.map_cons, List.map_nil, Sp.pr, Given]
              rintro _ rfl
              rintro _ rfl
              go_wp2_with fail
              refine (header_Newest ⟨r1, h2, h3, h4, nx, sq, xs⟩ (hlw.ext mk_rep h1) HNE).mono ?_
              rintro e w2 ⟨rfl, hx2⟩
              go_wp2_with fail
              exact Post.isv hx2 rfl rfl rfl
            -- 33: Op.move t22   [guarded: some (30, true)]
            apply Stage2.step (Is _) true [false, false, false, false, false, false, false, false, false, false, false, false, false, false, false, false, false, false, false, false, false, false, false, false, false, false, false, false, false, false, true] true false (Is.keeps _) (fun _ => Is.keeps _) (by kernel_rfl)
            · intro w1 h1
              have h1 : Ext _ w1 := h1
              simp only [List.nil_append, List.cons_append, List.map_cons, List.map_nil, Sp.pr, Given]
              rintro _ rfl
              go_wp2_with fail
              exact Post.isv (Ext.refl _) rfl rfl rfl
            -- 34: Op.binOp BinOp.eql 3 t167 t168 3   [guarded: some (30, true)]
            apply Stage2.step (Is (.bool true)) true [false, false, false, false, false, false, false, false, false, false, false, false, false, false, false, false, false, false, false, false, false, false, false, false, false, false, false, false, false, false, true, false, true, true] true false (Is.keeps _) (fun _ => Is.keeps _) (by kernel_rfl)
            · intro w1 h1
              have h1 : Ext _ w1 := h1
              simp only [List.nil_append, List.cons_append, List.map_cons, List.map_nil, Sp.pr, Given]
              rintro _ rfl
              rintro _ rfl
              rintro _ rfl
              go_wp2_with fail
              exact Post.isv (Ext.refl _) rfl rfl rfl
            -- 35: Op.pick t165 t169 (const (Value.bool false))
            apply Stage2.step (Is _) true [false, false, false, false, false, false, false, false, false, false, false, false, false, false, false, false, false, false, false, false, false, false, false, false, false, false, false, false, false, false, true, false, false, false, true] true false (Is.keeps _) (fun _ => Is.keeps _) (by kernel_rfl)
            · intro w1 h1
              have h1 : Ext _ w1 := h1
              simp only [List.nil_append, List.cons_append, List.map_cons, List.map_nil, Sp.pr, Given]
              rintro _ rfl
              rintro _ rfl
              go_wp2_with fail
              exact Post.isv (Ext.refl _) rfl rfl rfl
            -- 36: Op.move t170
            apply Stage2.step (Is _) true [false, false, false, false, false, false, false, false, false, false, false, false, false, false, false, false, false, false, false, false, false, false, false, false, false, false, false, false, false, false, false, false, false, false, false, true] true false (Is.keeps _) (fun _ => Is.keeps _) (by kernel_rfl)
            · intro w1 h1
              have h1 : Ext _ w1 := h1
              simp only [List.nil_append, List.cons_append, List.map_cons, List.map_nil, Sp.pr, Given]
              rintro _ rfl
              go_wp2_with fail
              exact Post.isv (Ext.refl _) rfl rfl rfl
            -- 37: Op.load 43 t4   [guarded: some (36, true)]
            apply Stage2.step (Is (hdV ⟨r1, h2, h3, h4, nx, sq, xs⟩ A k c)) true [false, false, false, false, false, false, false, false, false, false, false, false, false, false, false, false, false, false, false, false, false, false, false, false, false, false, false, false, false, false, false, false, false, false, false, false, true] true false (Is.keeps _) (fun _ => Is.keeps _) (by kernel_rfl)
            · intro w1 h1
              have h1 : Ext _ w1 := h1
              simp only [List.nil_append, List.cons_append, List.map_cons, List.map_nil, Sp.pr, Given]
              rintro _ rfl
              have q0 := h1.cell b0
              have q1 := h1.cell b1
              have q2 := h1.cell b2
              have q3 := h1.cell b3
              have q4 := h1.cell b4
              have q5 := h1.cell b5
              have q6 := h1.cell b6
              go_wp2_with fail
              exact Post.isv (Ext.refl _) rfl rfl rfl
            -- 38: Op.load 43 t13   [guarded: some (36, true)]
            apply Stage2.step (Is (hdV ⟨p1, p2, p3, p4, p5, p6, ps⟩ A4 n4 c4)) true [false, false, false, false, false, false, false, false, false, false, false, false, false, false, false, false, false, false, false, false, false, false, false, false, false, false, false, false, false, false, false, false, false, false, false, false, true] true false (Is.keeps _) (fun _ => Is.keeps _) (by kernel_rfl)
            · intro w1 h1
              have h1 : Ext _ w1 := h1
              simp only [List.nil_append, List.cons_append, List.map_cons, List.map_nil, Sp.pr, Given]
              rintro _ rfl
              have q0 := h1.cell d0
              have q1 := h1.cell d1
              have q2 := h1.cell d2
              have q3 := h1.cell d3
              have q4 := h1.cell d4
              have q5 := h1.cell d5
              have q6 := h1.cell d6
              go_wp2_with fail
              exact Post.isv (Ext.refl _) rfl rfl rfl
            -- 39: Op.call { value (Operand.func 34), args := #[t172, t173], argTypes := #[43, 43] }   [guarded: some (
            apply Stage2.step (Is (.bool sp)) true [false, false, false, false, false, false, false, false, false, false, false, false, false, false, false, false, false, false, false, false, false, false, false, false, false, false, false, false, false, false, false, false, false, false, false, false, true, true, true] true false (Is.keeps _) (fun _ => Is.keeps _) (by kernel_rfl)
            · intro w1 h1
              have h1 : Ext _ w1 := h1
              simp only [List.nil_append, List.cons_append, List.map_cons, List.map_nil, Sp.pr, Given]
              rintro _ rfl
              rintro _ rfl
              rintro _ rfl
              go_wp2_with fail
              refine (header_Same ⟨r1, h2, h3, h4, nx, sq, xs⟩ ⟨p1, p2, p3, p4, p5, p6, ps⟩ (hlw.ext mk_rep h1) (l4'.ext mk_rep h1) HSP).mono ?_
              rintro e w2 ⟨rfl, hx2⟩
              go_wp2_with fail
              exact Post.isv hx2 rfl rfl rfl
            -- 40: Op.load 43 t4   [guarded: some (36, true)]
            apply Stage2.step (Is (hdV ⟨r1, h2, h3, h4, nx, sq, xs⟩ A k c)) true [false, false, false, false, false, false, false, false, false, false, false, false, false, false, false, false, false, false, false, false, false, false, false, false, false, false, false, false, false, false, false, false, false, false, false, false, true] true false (Is.keeps _) (fun _ => Is.keeps _) (by kernel_rfl)
            · intro w1 h1
              have h1 : Ext _ w1 := h1
              simp only [List.nil_append, List.cons_append, List.map_cons, List.map_nil, Sp.pr, Given]
              rintro _ rfl
              have q0 := h1.cell b0
              have q1 := h1.cell b1
              have q2 := h1.cell b2
              have q3 := h1.cell b3
              have q4 := h1.cell b4
              have q5 := h1.cell b5
              have q6 := h1.cell b6
              go_wp2_with fail
              exact Post.isv (Ext.refl _) rfl rfl rfl
            -- 41: Op.load 43 t13   [guarded: some (36, true)]
            apply Stage2.step (Is (hdV ⟨p1, p2, p3, p4, p5, p6, ps⟩ A4 n4 c4)) true [false, false, false, false, false, false, false, false, false, false, false, false, false, false, false, false, false, false, false, false, false, false, false, false, false, false, false, false, false, false, false, false, false, false, false, false, true] true false (Is.keeps _) (fun _ => Is.keeps _) (by kernel_rfl)
            · intro w1 h1
              have h1 : Ext _ w1 := h1
              simp only [List.nil_append, List.cons_append, List.map_cons, List.map_nil, Sp.pr, Given]
              rintro _ rfl
              have q0 := h1.cell d0
              have q1 := h1.cell d1
              have q2 := h1.cell d2
              have q3 := h1.cell d3
              have q4 := h1.cell d4
              have q5 := h1.cell d5
              have q6 := h1.cell d6
              go_wp2_with fail
              exact Post.isv (Ext.refl _) rfl rfl rfl
            -- 42: Op.call { value (Operand.func 24), args := #[t175, t176], argTypes := #[43, 43] }   [guarded: some (
            apply Stage2.step (Is (.bool sp)) true [false, false, false, false, false, false, false, false, false, false, false, false, false, false, false, false, false, false, false, false, false, false, false, false, false, false, false, false, false, false, false, false, false, false, false, false, true, false, false, false, true, true] true false (Is.keeps _) (fun _ => Is.keeps _) (by kernel_rfl)
            · intro w1 h1
              have h1 : Ext _ w1 := h1
              simp only [List.nil_append, List.cons_append, List.map_cons, List.map_nil, Sp.pr, Given]
              rintro _ rfl
              rintro _ rfl
              rintro _ rfl
              go_wp2_with fail
              refine (ref_SameHead ⟨r1, h2, h3, h4, nx, sq, xs⟩ ⟨p1, p2, p3, p4, p5, p6, ps⟩ (hlw.ext mk_rep h1) (l4'.ext mk_rep h1) HSP).mono ?_
              rintro e w2 ⟨rfl, hx2⟩
              go_wp2_with fail
              exact Post.isv hx2 rfl rfl rfl
            -- 43: Op.binOp BinOp.eql 4 t174 t177 4   [guarded: some (36, true)]
            apply Stage2.step (Is (.bool true)) true [false, false, false, false, false, false, false, false, false, false, false, false, false, false, false, false, false, false, false, false, false, false, false, false, false, false, false, false, false, false, false, false, false, false, false, false, true, false, false, true, false, false, true] true false (Is.keeps _) (fun _ => Is.keeps _) (by kernel_rfl)
            · intro w1 h1
              have h1 : Ext _ w1 := h1
              simp only [List.nil_append, List.cons_append, List.map_cons, List.map_nil, Sp.pr, Given]
              rintro _ rfl
              rintro _ rfl
              rintro _ rfl
              go_wp2_with fail
              exact Post.isv (Ext.refl _) rfl rfl rfl
            -- 44: Op.pick t171 t178 (const (Value.bool false))
            apply Stage2.step (Is _) true [false, false, false, false, false, false, false, false, false, false, false, false, false, false, false, false, false, false, false, false, false, false, false, false, false, false, false, false, false, false, false, false, false, false, false, false, true, false, false, false, false, false, false, true] true false (Is.keeps _) (fun _ => Is.keeps _) (by kernel_rfl)
            · intro w1 h1
              have h1 : Ext _ w1 := h1
              simp only [List.nil_append, List.cons_append, List.map_cons, List.map_nil, Sp.pr, Given]
              rintro _ rfl
              rintro _ rfl
              go_wp2_with fail
              exact Post.isv (Ext.refl _) rfl rfl rfl
            -- 45: Op.move t179
            apply Stage2.step (Is _) true [false, false, false, false, false, false, false, false, false, false, false, false, false, false, false, false, false, false, false, false, false, false, false, false, false, false, false, false, false, false, false, false, false, false, false, false, false, false, false, false, false, false, false, false, true] true false (Is.keeps _) (fun _ => Is.keeps _) (by kernel_rfl)
            · intro w1 h1
              have h1 : Ext _ w1 := h1
              simp only [List.nil_append, List.cons_append, List.map_cons, List.map_nil, Sp.pr, Given]
              rintro _ rfl
              go_wp2_with fail
              exact Post.isv (Ext.refl _) rfl rfl rfl
            -- 46: Op.load 43 t4   [guarded: some (45, true)]
            apply Stage2.step (Is (hdV ⟨r1, h2, h3, h4, nx, sq, xs⟩ A k c)) true [false, false, false, false, false, false, false, false, false, false, false, false, false, false, false, false, false, false, false, false, false, false, false, false, false, false, false, false, false, false, false, false, false, false, false, false, false, false, false, false, false, false, false, false, false, true] true false (Is.keeps _) (fun _ => Is.keeps _) (by kernel_rfl)
            · intro w1 h1
              have h1 : Ext _ w1 := h1
              simp only [List.nil_append, List.cons_append, List.map_cons, List.map_nil, Sp.pr, Given]
              rintro _ rfl
              have q0 := h1.cell b0
              have q1 := h1.cell b1
              have q2 := h1.cell b2
              have q3 := h1.cell b3
              have q4 := h1.cell b4
              have q5 := h1.cell b5
              have q6 := h1.cell b6
              go_wp2_with fail
              exact Post.isv (Ext.refl _) rfl rfl rfl
            -- 47: Op.load 43 t4   [guarded: some (45, true)]
            apply Stage2.step (Is (hdV ⟨r1, h2, h3, h4, nx, sq, xs⟩ A k c)) true [false, false, false, false, false, false, false, false, false, false, false, false, false, false, false, false, false, false, false, false, false, false, false, false, false, false, false, false, false, false, false, false, false, false, false, false, false, false, false, false, false, false, false, false, false, true] true false (Is.keeps _) (fun _ => Is.keeps _) (by kernel_rfl)
            · intro w1 h1
              have h1 : Ext _ w1 := h1
              simp only [List.nil_append, List.cons_append, List.map_cons, List.map_nil, Sp.pr, Given]
              rintro _ rfl
              have q0 := h1.cell b0
              have q1 := h1.cell b1
              have q2 := h1.cell b2
              have q3 := h1.cell b3
              have q4 := h1.cell b4
              have q5 := h1.cell b5
              have q6 := h1.cell b6
              go_wp2_with fail
              exact Post.isv (Ext.refl _) rfl rfl rfl
            -- 48: Op.call { value (Operand.func 34), args := #[t181, t182], argTypes := #[43, 43] }   [guarded: some (
            apply Stage2.step (Is (.bool true)) true [false, false, false, false, false, false, false, false, false, false, false, false, false, false, false, false, false, false, false, false, false, false, false, false, false, false, false, false, false, false, false, false, false, false, false, false, false, false, false, false, false, false, false, false, false, true, true, true] true false (Is.keeps _) (fun _ => Is.keeps _) (by kernel_rfl)
            · intro w1 h1
              have h1 : Ext _ w1 := h1
              simp only [List.nil_append, List.cons_append, List.map_cons, List.map_nil, Sp.pr, Given]
              rintro _ rfl
              rintro _ rfl
              rintro _ rfl
              go_wp2_with fail
              refine (header_Same ⟨r1, h2, h3, h4, nx, sq, xs⟩ ⟨r1, h2, h3, h4, nx, sq, xs⟩ (hlw.ext mk_rep h1) (hlw.ext mk_rep h1) HSA).mono ?_
              rintro e w2 ⟨rfl, hx2⟩
              go_wp2_with fail
              exact Post.isv hx2 rfl rfl rfl
            -- 49: Op.pick t180 t183 (const (Value.bool false))
            apply Stage2.step (Is _) true [false, false, false, false, false, false, false, false, false, false, false, false, false, false, false, false, false, false, false, false, false, false, false, false, false, false, false, false, false, false, false, false, false, false, false, false, false, false, false, false, false, false, false, false, false, true, false, false, true] true false (Is.keeps _) (fun _ => Is.keeps _) (by kernel_rfl)
            · intro w1 h1
              have h1 : Ext _ w1 := h1
              simp only [List.nil_append, List.cons_append, List.map_cons, List.map_nil, Sp.pr, Given]
              rintro _ rfl
              rintro _ rfl
              go_wp2_with fail
              exact Post.isv (Ext.refl _) rfl rfl rfl
            -- 50: Op.move t184
            apply Stage2.step (Is _) true [false, false, false, false, false, false, false, false, false, false, false, false, false, false, false, false, false, false, false, false, false, false, false, false, false, false, false, false, false, false, false, false, false, false, false, false, false, false, false, false, false, false, false, false, false, false, false, false, false, true] true false (Is.keeps _) (fun _ => Is.keeps _) (by kernel_rfl)
            · intro w1 h1
              have h1 : Ext _ w1 := h1
              simp only [List.nil_append, List.cons_append, List.map_cons, List.map_nil, Sp.pr, Given]
              rintro _ rfl
              go_wp2_with fail
              exact Post.isv (Ext.refl _) rfl rfl rfl
            -- 51: Op.call { value (Operand.func 17), args := #[], argTypes := #[] }   [guarded: some (50, true)]
            apply Stage2.step (Is (.bool true)) true [false, false, false, false, false, false, false, false, false, false, false, false, false, false, false, false, false, false, false, false, false, false, false, false, false, false, false, false, false, false, false, false, false, false, false, false, false, false, false, false, false, false, false, false, false, false, false, false, false, false, true] true false (Is.keeps _) (fun _ => Is.keeps _) (by kernel_rfl)
            · intro w1 h1
              have h1 : Ext _ w1 := h1
              simp only [List.nil_append, List.cons_append, List.map_cons, List.map_nil, Sp.pr, Given]
              rintro _ rfl
              go_wp2_with fail
              refine (law8_known _).mono ?_
              rintro e w2 ⟨rfl, hx2⟩
              go_wp2_with fail
              exact Post.isv hx2 rfl rfl rfl
            -- 52: Op.pick t185 t186 (const (Value.bool false))
            apply Stage2.step (Is _) true [false, false, false, false, false, false, false, false, false, false, false, false, false, false, false, false, false, false, false, false, false, false, false, false, false, false, false, false, false, false, false, false, false, false, false, false, false, false, false, false, false, false, false, false, false, false, false, false, false, false, true, true] true false (Is.keeps _) (fun _ => Is.keeps _) (by kernel_rfl)
            · intro w1 h1
              have h1 : Ext _ w1 := h1
              simp only [List.nil_append, List.cons_append, List.map_cons, List.map_nil, Sp.pr, Given]
              rintro _ rfl
              rintro _ rfl
              go_wp2_with fail
              exact Post.isv (Ext.refl _) rfl rfl rfl
            -- 53: Op.assign t187
            apply Stage2.step (Is _) true [false, false, false, false, false, false, false, false, false, false, false, false, false, false, false, false, false, false, false, false, false, false, false, false, false, false, false, false, false, false, false, false, false, false, false, false, false, false, false, false, false, false, false, false, false, false, false, false, false, false, false, false, true] true false (Is.keeps _) (fun _ => Is.keeps _) (by kernel_rfl)
            · intro w1 h1
              have h1 : Ext _ w1 := h1
              simp only [List.nil_append, List.cons_append, List.map_cons, List.map_nil, Sp.pr, Given]
              rintro _ rfl
              go_wp2_with fail
              exact Post.isv (Ext.refl _) rfl rfl rfl
            apply Stage2.nil [true, true, true, true, true, true, true, true, true, true, true, true, true, true, true, true, true, true, true, true, true, true, true, true, true, true, true, true, true, true, true, true, true, true, true, true, true, true, true, true, true, true, true, true, true, true, true, true, true, true, true, true, true, true] (by kernel_rfl)
            intro w1 h1
            have h1 : (Ext) _ w1 := h1
            simp only [List.nil_append, List.cons_append, List.map_cons, List.map_nil, Sp.pr]
            refine Fin2.is_ ?_
            refine Fin2.is_ ?_
            refine Fin2.is_ ?_
            refine Fin2.is_ ?_
            refine Fin2.is_ ?_
            refine Fin2.is_ ?_
            refine Fin2.is_ ?_
            refine Fin2.is_ ?_
            refine Fin2.is_ ?_
            refine Fin2.is_ ?_
            refine Fin2.is_ ?_
            refine Fin2.is_ ?_
            refine Fin2.is_ ?_
            refine Fin2.is_ ?_
            refine Fin2.is_ ?_
            refine Fin2.is_ ?_
            refine Fin2.step_ ?_
            rintro _ ⟨A7, n7, c7, rfl, l7⟩
            refine Fin2.is_ ?_
            refine Fin2.is_ ?_
            refine Fin2.is_ ?_
            refine Fin2.is_ ?_
            refine Fin2.is_ ?_
            refine Fin2.is_ ?_
            refine Fin2.is_ ?_
            refine Fin2.is_ ?_
            refine Fin2.is_ ?_
            refine Fin2.is_ ?_
            refine Fin2.is_ ?_
            refine Fin2.is_ ?_
            refine Fin2.is_ ?_
            refine Fin2.is_ ?_
            refine Fin2.is_ ?_
            refine Fin2.is_ ?_
            refine Fin2.is_ ?_
            refine Fin2.is_ ?_
            refine Fin2.is_ ?_
            refine Fin2.is_ ?_
            refine Fin2.is_ ?_
            refine Fin2.is_ ?_
            refine Fin2.is_ ?_
            refine Fin2.is_ ?_
            refine Fin2.is_ ?_
            refine Fin2.is_ ?_
            refine Fin2.is_ ?_
            refine Fin2.is_ ?_
            refine Fin2.is_ ?_
            refine Fin2.is_ ?_
            refine Fin2.is_ ?_
            refine Fin2.is_ ?_
            refine Fin2.is_ ?_
            refine Fin2.is_ ?_
            refine Fin2.is_ ?_
            refine Fin2.is_ ?_
            refine Fin2.is_ ?_
            refine Fin2.nil_ ?_
            go_simp
            go_wp2_with fail
            go_ret
            exact ⟨rfl, gx1.trans h1⟩
      · obtain rfl : kk = (j : Int) := by omega
        clear hkk
        obtain ⟨gb, ob, x, cs, hA9, hx, rfl, ha⟩ := l9.at2 mk_rep (by omega) (show j < n9 by omega)
        subst hA9
        have e0 : wr.cell? ⟨gb, ob + j * 4, none⟩ = _ := hxr.cell (ha 0 _ rfl)
        have e1 := hxr.cell (ha 1 _ rfl)
        have e2 := hxr.cell (ha 2 _ rfl)
        have e3 := hxr.cell (ha 3 _ rfl)
        have hnx := findN_at (s := s) hx
        rw [hfd.out] at hnx
        obtain ⟨x1, x2, x3, x4⟩ := x
        simp only at e0 e1 e2 e3 hnx
        clear ha hx hfd
        by_cases he : x2 = s
        · subst he
          rw [if_pos rfl] at hnx
          have HN := Lib.hid hnx
          have u0 : wr.cell? ⟨w10.heap.size + 1, 0, none⟩ = _ := blk_cell hbk.out 0
          have v0 := blk_frozen hbk.out 0
          have u1 : wr.cell? ⟨w10.heap.size + 1, 1, none⟩ = _ := blk_cell hbk.out 1
          have v1 := blk_frozen hbk.out 1
          have u2 : wr.cell? ⟨w10.heap.size + 1, 2, none⟩ = _ := blk_cell hbk.out 2
          have v2 := blk_frozen hbk.out 2
          have u3 : wr.cell? ⟨w10.heap.size + 1, 3, none⟩ = _ := blk_cell hbk.out 3
          have v3 := blk_frozen hbk.out 3
          have hB2 : Hid (((((wr.setCell ⟨w10.heap.size + 1, 0, none⟩ (.int .i64 x1)).setCell ⟨w10.heap.size + 1, 1, none⟩ (.string x2)).setCell ⟨w10.heap.size + 1, 2, none⟩ (.int .i64 x3)).setCell ⟨w10.heap.size + 1, 3, none⟩ (.bool x4)).heap[w10.heap.size + 1]? = some (.cells (mkC ⟨x1, x2, x3, x4⟩) TMk (0, 0))) := by
            unfold Hid
            have := blk_set (blk_set (blk_set (blk_set hbk.out 0 (.int .i64 x1)) 1 (.string x2)) 2 (.int .i64 x3)) 3 (.bool x4)
            simpa using this
          have hx2 : Ext wk ((((wr.setCell ⟨w10.heap.size + 1, 0, none⟩ (.int .i64 x1)).setCell ⟨w10.heap.size + 1, 1, none⟩ (.string x2)).setCell ⟨w10.heap.size + 1, 2, none⟩ (.int .i64 x3)).setCell ⟨w10.heap.size + 1, 3, none⟩ (.bool x4)) := (((hxr.sets (Nat.le_of_eq HGE.out) _).sets (Nat.le_of_eq HGE.out) _).sets (Nat.le_of_eq HGE.out) _).sets (Nat.le_of_eq HGE.out) _
          clear hnx hbk hxr
          go_wp2_with fail
          go_roundw
          case rel => exact ⟨j, some ⟨x1, x2, x3, x4⟩, (j : Int) - 1, by omega, rfl, rfl, by go_num, HN, hB2, hx2⟩
          case measure => simp [intOf]
        · have heb : (x2.toList == s.toList) = false := by
            rw [beq_eq_false_iff_ne]
            exact fun h => he (bytes_inj h)
          rw [if_neg he] at hnx
          have HN := Lib.hid hnx
          clear hnx he
          go_wp2_with fail
          go_roundw
          case rel => exact ⟨j, fo2, (j : Int) - 1, by omega, rfl, rfl, by go_num, HN, hbk, hxr⟩
          case measure => simp [intOf]
end Go.Proofs.Ytoeknbogaclfdaa
