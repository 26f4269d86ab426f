/-
  Chapter 8: the statement HeaderMakes, walked.
-/
import Derived.Test.YtoeknbogaclfdaaZLaw8
import Derived.Test.YtoeknbogaclfdaaZMake8
import Derived.Test.YtoeknbogaclfdaaZBackPlain
import Derived.Test.YtoeknbogaclfdaaZMkSet
import Derived.Test.YtoeknbogaclfdaaZHdPutR
namespace Go.Proofs.Ytoeknbogaclfdaa
open Go.RowKit
set_option linter.unusedVariables false
set_option linter.unusedSimpArgs false
set_option linter.unnecessarySimpa false
set_option maxRecDepth 100000

abbrev hdC (h : Hd) (A : Option Addr) (n c : Nat) : Array Value := #[.int .i64 h.size, .int .i64 h.order, .int .i64 h.unit, .int .i64 h.count, .int .i64 h.next, .int .i64 h.seq, .slice A n c]
theorem shorts_set {xs : List Mk} {k : Nat} {x : Mk} (h : Shorts xs) (hx : x.nm.size ≤ 1000) : Shorts (xs.set k x) := by
  intro y hy
  rcases List.mem_or_eq_of_mem_set hy with hy | rfl
  · exact h y hy
  · exact hx
theorem shorts_at {xs : List Mk} {k : Nat} {x1 : Int} {x2 : ByteArray} {x3 : Int} {x4 : Bool} (h : Shorts xs) (hx : xs[k]? = some ⟨x1, x2, x3, x4⟩) : x2.size ≤ 1000 := h _ (List.mem_of_getElem? hx)
theorem own_open2 {w : World} {B n c k : Nat} {A : Option Addr} {xs : List Mk} (h : OwnL TMk 4 mkR w B A n c xs) (hs : Shorts xs) (hk : k < n) :
    ∃ (g : Nat) (x1 : Int) (x2 : ByteArray) (x3 : Int) (x4 : Bool) (v2 : ByteArray), A = some ⟨g, 0, none⟩ ∧ B ≤ g ∧ xs[k]? = some ⟨x1, x2, x3, x4⟩ ∧ v2.size ≤ 1000 ∧ w.cell? ⟨g, k * 4, none⟩ = some (.int .i64 x1) ∧ w.cell? ⟨g, k * 4 + 1, none⟩ = some (.string x2) ∧ w.cell? ⟨g, k * 4 + 2, none⟩ = some (.int .i64 x3) ∧ w.cell? ⟨g, k * 4 + 3, none⟩ = some (.bool x4) ∧ w.cell? ⟨g, 1, none⟩ = some (.string v2) ∧ ∀ q, w.frozen? ⟨g, q, none⟩ = false := by
  obtain ⟨g0, x0, hA0, _, _, hx0, ⟨_, e01, _, _⟩, _⟩ := h.openM (k := 0) (by omega)
  obtain ⟨g, x, rfl, hg, _, hx, ⟨e0, e1, e2, e3⟩, ef⟩ := h.openM hk
  injection hA0 with hA0
  injection hA0 with hA0
  subst hA0
  exact ⟨_, x.id, x.nm, x.sz, x.gone, x0.nm, rfl, hg, hx, hs _ (List.mem_of_getElem? hx0), e0, e1, e2, e3, by simpa using e01, ef⟩
def AftM (g : Nat) (C : Array Value) (B : Nat) (A : Option Addr) (n c : Nat) (xs : List Mk) : Ty := fun _ u => u.heap[g]? = some (.cells C THd (0, 0)) ∧ OwnL TMk 4 mkR u B A n c xs
theorem AftM.keeps (g : Nat) (C : Array Value) (B : Nat) (A : Option Addr) (n c : Nat) (xs : List Mk) : Keeps Ext (AftM g C B A n c xs) := fun _ _ _ hx ⟨h1, h2⟩ => ⟨blk_ext h1 hx, h2.ext mk_rep hx⟩
theorem own_frozen {w : World} {B n c k g : Nat} {xs : List Mk} (h : OwnL TMk 4 mkR w B (some ⟨g, 0, none⟩) n c xs) (hk : k < n) (q : Nat) : w.frozen? ⟨g, q, none⟩ = false := by
  obtain ⟨g0, x0, hA0, _, _, _, _, ef⟩ := h.openM hk
  injection hA0 with hA0
  injection hA0 with hA0
  subst hA0
  exact ef q
set_option maxHeartbeats 8000000 in
theorem law_HeaderMakes (a0 a1 a2 a3 : Int) (Ai : Option Addr) (n ci : Nat) (l : List Int) (wi by_ : Int) (w : World) (hi : Lst 1 intR w Ai n ci l) :
    Calls Try.prog 5 #[.int .i64 a0, .int .i64 a1, .int .i64 a2, .int .i64 a3, .slice Ai n ci, .int .i64 wi, .int .i64 by_] w fun e w' => e = .returned (.bool true) ∧ Ext w w' := by
  have h63 := hi.n63
  by_cases hn30 : 30 < n
  · go_enter Try.func5, Try.ntmps5
    go_wp2_with fail
    refine (law8_known _).mono ?_
    rintro e wz ⟨rfl, hxz⟩
    go_wp2_with fail
    go_ret
    exact ⟨rfl, hxz⟩
  have d30 : decide ((30 : Int) < (n : Int)) = false := by simp; omega
  obtain ⟨im, him, hm0, hm1, hm2⟩ := info_parts info_mk
  obtain ⟨h, hh⟩ : ∃ h, makeH a0 a1 a2 a3 l = h := ⟨_, rfl⟩
  have hr : rightH h = true := by rw [← hh]; exact make_right a0 a1 a2 a3 l
  have HH := Lib.hid hh
  have HR := Lib.hid hr
  obtain ⟨L, hL⟩ : ∃ L, putH h = L := ⟨_, rfl⟩
  have HPL : Hid (putHr h true = L) := hL
  obtain ⟨_, hf, h17⟩ := right_bds hr
  have HSH : Hid (Shorts h.marks) := fun x hx => by have := (hf x hx).2.2; omega
  have H17 := Lib.hid h17
  obtain ⟨q1, q2, q3, q4, q5, q6, ps⟩ := h
  simp only at HSH H17
  obtain ⟨e, he⟩ : ∃ q, bits BinOp.and IntKind.i64 wi 7 = q := ⟨_, rfl⟩
  have heb : e = 0 ∨ e = 1 ∨ e = 2 ∨ e = 3 ∨ e = 4 ∨ e = 5 ∨ e = 6 ∨ e = 7 := by rw [← he, and7]; omega
  have HE := Lib.hid heb
  have h15 : bits BinOp.and IntKind.i64 (wi / 256) 15 = wi / 256 % 16 := i64_low (wi / 256) 15 4 (by omega) (by decide)
  obtain ⟨f, hf15, hfb⟩ : ∃ f : Nat, bits BinOp.and IntKind.i64 (wi / 256) 15 = (f : Int) ∧ f ≤ 15 := ⟨(wi / 256 % 16).toNat, by rw [h15]; omega, by omega⟩
  clear hh hr hL hf h17 heb h15
  go_enter Try.func5, Try.ntmps5
  go_wp2_with fail
  refine (law8_Make a0 a1 a2 a3 hi (by omega) HH).mono ?_
  rintro e w1 ⟨A1, n1, c1, rfl, ol, hx1⟩
  have hn17 : n1 ≤ 17 := by rw [← ol.len]; exact H17.out
  have b0 := cell_new w1 #[.int .i64 q1, .int .i64 q2, .int .i64 q3, .int .i64 q4, .int .i64 q5, .int .i64 q6, .slice A1 n1 c1] THd 0
  have b1 := cell_new w1 #[.int .i64 q1, .int .i64 q2, .int .i64 q3, .int .i64 q4, .int .i64 q5, .int .i64 q6, .slice A1 n1 c1] THd 1
  have b2 := cell_new w1 #[.int .i64 q1, .int .i64 q2, .int .i64 q3, .int .i64 q4, .int .i64 q5, .int .i64 q6, .slice A1 n1 c1] THd 2
  have b3 := cell_new w1 #[.int .i64 q1, .int .i64 q2, .int .i64 q3, .int .i64 q4, .int .i64 q5, .int .i64 q6, .slice A1 n1 c1] THd 3
  have b4 := cell_new w1 #[.int .i64 q1, .int .i64 q2, .int .i64 q3, .int .i64 q4, .int .i64 q5, .int .i64 q6, .slice A1 n1 c1] THd 4
  have b5 := cell_new w1 #[.int .i64 q1, .int .i64 q2, .int .i64 q3, .int .i64 q4, .int .i64 q5, .int .i64 q6, .slice A1 n1 c1] THd 5
  have b6 := cell_new w1 #[.int .i64 q1, .int .i64 q2, .int .i64 q3, .int .i64 q4, .int .i64 q5, .int .i64 q6, .slice A1 n1 c1] THd 6
  have gx1 := hx1.allocs (.cells #[.int .i64 q1, .int .i64 q2, .int .i64 q3, .int .i64 q4, .int .i64 q5, .int .i64 q6, .slice A1 n1 c1] THd)
  have l1 := ol.lst.ext mk_rep (Ext.alloc w1 (.cells #[.int .i64 q1, .int .i64 q2, .int .i64 q3, .int .i64 q4, .int .i64 q5, .int .i64 q6, .slice A1 n1 c1] THd))
  clear hx1 ol
  go_wp2_with fail
  refine (header_Put ⟨q1, q2, q3, q4, q5, q6, ps⟩ l1 HSH (by omega) HR HPL).mono ?_
  rintro e w2 ⟨A2, n2, c2, rfl, hb2, hx2⟩
  have her : (if true = true then (0 : Int) else 1) = 0 := rfl
  rw [her]
  clear her
  replace b0 := hx2.cell b0
  replace b1 := hx2.cell b1
  replace b2 := hx2.cell b2
  replace b3 := hx2.cell b3
  replace b4 := hx2.cell b4
  replace b5 := hx2.cell b5
  replace b6 := hx2.cell b6
  replace gx1 := gx1.trans hx2
  replace l1 := l1.ext mk_rep hx2
  clear hx2
  go_wp2_with fail
  refine (ref_PutHead ⟨q1, q2, q3, q4, q5, q6, ps⟩ l1 HSH (by omega) HR HPL).mono ?_
  rintro e w3 ⟨A3, n3, c3, rfl, hb3, hx3⟩
  have her : (if true = true then (0 : Int) else 1) = 0 := rfl
  rw [her]
  clear her
  replace b0 := hx3.cell b0
  replace b1 := hx3.cell b1
  replace b2 := hx3.cell b2
  replace b3 := hx3.cell b3
  replace b4 := hx3.cell b4
  replace b5 := hx3.cell b5
  replace b6 := hx3.cell b6
  replace gx1 := gx1.trans hx3
  replace l1 := l1.ext mk_rep hx3
  have t2 := run_text_u8 (hb2.sl.ext hx3)
  have t3 := run_text_u8 hb3.sl
  clear hx3 hb2 hb3
  obtain ⟨w4, hw4⟩ : ∃ q, q = w3.alloc (.cells #[.int .i64 q1, .int .i64 q2, .int .i64 q3, .int .i64 q4, .int .i64 q5, .int .i64 q6, .slice A1 n1 c1] THd) := ⟨_, rfl⟩
  have gx4 : Ext w3 w4 := by rw [hw4]; exact Ext.alloc _ _
  have hsz4 : w4.heap.size = w3.heap.size + 1 := by rw [hw4]; simp
  have B4 : Hid (w4.heap[w3.heap.size]? = some (.cells (hdC ⟨q1, q2, q3, q4, q5, q6, ps⟩ A1 n1 c1) THd (0, 0))) := by unfold Hid; rw [hw4]; exact heap_alloc_new _ _
  have bm := gx4.cell b6
  have bm' : (w3.alloc (.cells #[.int .i64 q1, .int .i64 q2, .int .i64 q3, .int .i64 q4, .int .i64 q5, .int .i64 q6, .slice A1 n1 c1] THd)).cell? ⟨w1.heap.size, 6, none⟩ = _ := (Ext.alloc w3 _).cell b6
  have bm2 : ((w3.alloc (.cells #[.int .i64 q1, .int .i64 q2, .int .i64 q3, .int .i64 q4, .int .i64 q5, .int .i64 q6, .slice A1 n1 c1] THd)).alloc (.cells #[] TMk)).cell? ⟨w1.heap.size, 6, none⟩ = _ := (Ext.alloc _ _).cell bm'
  have hwb : w.heap.size ≤ w3.heap.size := gx1.size
  by_cases hn0 : n1 = 0
  · have hn0b : ((n1 : Int) == 0) = true := by simp; omega
    have hn0d : decide ((0 : Int) < (n1 : Int)) = false := by simp; omega
    have hn0e : decide (0 < n1) = false := by simp; omega
    have hn0l : n1 < 1 := by omega
    clear hn0
    rcases (show e = 0 ∨ e = 1 ∨ e = 2 ∨ (e ≠ 0 ∧ e ≠ 1 ∧ e ≠ 2) by omega) with rfl | rfl | rfl | ⟨v0, v1, v2⟩
    · skip
      go_wp2_with (
        at_builtin
        rw [← hw4]
        refine wpList_append_flatB mk_rep (fun x cs w h => mk_nop h) rfl _ _ _ _ rfl w4.heap.size (by rw [World.size_alloc]; omega) TMk TMk im _ 40 under_mks under_mks him hm0 hm1 hm2 rfl _ 0 0 [] rfl (OwnL.nil _ _ _ _) A1 n1 c1 ps rfl ((l1.ext mk_rep gx4).ext mk_rep (Ext.alloc _ _)) n1 (by omega) ps rfl (by simp only [maxLen]; omega) (by omega) ?_
        intro A5 c5 w5 own5 hkeep hext hsz5
        have hx5 := hext w4 (Ext.alloc _ _) (Nat.le_refl _)
        have B5 := Lib.hid (blk_ext B4.out hx5)
        have q6c := blk_cell B5.out 6
        have q6f := blk_frozen B5.out 6
        have B6 : Hid ((w5.setCell ⟨w3.heap.size, 6, none⟩ (.slice A5 n1 c5)).heap[w3.heap.size]? = some (.cells (hdC ⟨q1, q2, q3, q4, q5, q6, ps⟩ A5 n1 c5) THd (0, 0))) := by
          unfold Hid
          have := blk_set B5.out 6 (.slice A5 n1 c5)
          simpa using this
        have own6 : OwnL TMk 4 mkR (w5.setCell ⟨w3.heap.size, 6, none⟩ (.slice A5 n1 c5)) w4.heap.size A5 n1 c5 ps := own5.farM (p := ⟨w3.heap.size, 6, none⟩) (fun g hg => by have := (own5.row_lt g hg).1; simp only; omega) _
        have gx6 : Ext w (w5.setCell ⟨w3.heap.size, 6, none⟩ (.slice A5 n1 c5)) := ((gx1.trans gx4).trans hx5).sets (p := ⟨w3.heap.size, 6, none⟩) hwb _
        have y6 := blk_cell B6.out 6
        clear hx5 B5 hkeep hext hsz5 own5
        have z0c := blk_cell B6.out 0
        have z0f := blk_frozen B6.out 0
        have BW : ((w5.setCell ⟨w3.heap.size, 6, none⟩ (.slice A5 n1 c5)).setCell ⟨w3.heap.size, 0, none⟩ (.int .i64 by_)).heap[w3.heap.size]? = some (.cells (hdC ⟨by_, q2, q3, q4, q5, q6, ps⟩ A5 n1 c5) THd (0, 0)) := by
          have := blk_set B6.out 0 (.int .i64 by_)
          simpa using this
        have ownW := own6.farM (p := ⟨w3.heap.size, 0, none⟩) (fun g hg => by have := (own6.row_lt g hg).1; simp only; omega) (.int .i64 by_)
        have gxW := gx6.sets (p := ⟨w3.heap.size, 0, none⟩) hwb (.int .i64 by_)
        have x0 := blk_cell BW 0
        have x1 := blk_cell BW 1
        have x2 := blk_cell BW 2
        have x3 := blk_cell BW 3
        have x4 := blk_cell BW 4
        have x5 := blk_cell BW 5
        have x6 := blk_cell BW 6
        have lW := ownW.lst
        have GXW := Lib.hid gxW
        clear ownW gxW BW own6 B6 gx6
        )
      obtain ⟨wf, hwf⟩ : ∃ q, q = (w5.setCell ⟨w3.heap.size, 6, none⟩ (.slice A5 n1 c5)).setCell ⟨w3.heap.size, 0, none⟩ (.int .i64 by_) := ⟨_, rfl⟩
      rw [← hwf] at x0 x1 x2 x3 x4 x5 x6 lW GXW
      rw [← hwf]
      clear hwf
      have HSW : Hid (Shorts (ps)) := HSH.out
      obtain ⟨XS, hXS⟩ : ∃ X, ps = X := ⟨_, rfl⟩
      rw [hXS] at lW HSW
      clear hXS
      obtain ⟨r, hr⟩ : ∃ q, rightH ⟨by_, q2, q3, q4, q5, q6, XS⟩ = q := ⟨_, rfl⟩
      have HR2 := Lib.hid hr
      obtain ⟨M, hM⟩ : ∃ q, putHr ⟨by_, q2, q3, q4, q5, q6, XS⟩ r = q := ⟨_, rfl⟩
      have HM2 := Lib.hid hM
      clear hr hM
      refine (header_Put ⟨by_, q2, q3, q4, q5, q6, XS⟩ lW HSW (by omega) HR2 HM2).mono ?_
      rintro e w7 ⟨A7, n7, c7, rfl, hb7, hx7⟩
      obtain ⟨er, her⟩ : ∃ q : Int, (if r = true then (0 : Int) else 1) = q := ⟨_, rfl⟩
      rw [her]
      have HER := Lib.hid her
      clear her
      replace x0 := hx7.cell x0
      replace x1 := hx7.cell x1
      replace x2 := hx7.cell x2
      replace x3 := hx7.cell x3
      replace x4 := hx7.cell x4
      replace x5 := hx7.cell x5
      replace x6 := hx7.cell x6
      have gx7 := GXW.out.trans hx7
      replace lW := lW.ext mk_rep hx7
      clear GXW hx7
      go_wp2_with fail
      refine (ref_PutHead ⟨by_, q2, q3, q4, q5, q6, XS⟩ lW HSW (by omega) HR2 HM2).mono ?_
      rintro e w8 ⟨A8, n8, c8, rfl, hb8, hx8⟩
      rw [HER.out]
      replace x0 := hx8.cell x0
      replace x1 := hx8.cell x1
      replace x2 := hx8.cell x2
      replace x3 := hx8.cell x3
      replace x4 := hx8.cell x4
      replace x5 := hx8.cell x5
      replace x6 := hx8.cell x6
      replace gx7 := gx7.trans hx8
      replace lW := lW.ext mk_rep hx8
      have tb7 := hb7.sl.ext hx8
      have tb8 := hb8.sl
      clear hx8 hb7 hb8 HER HM2
      go_wp2_with fail
      refine wp_region_typed2 (R := But w8.heap.size (fun _ => False)) Ext.steady (But.steady _ _) (fun _ _ => But.of_ext) rfl 187 rfl [0, 1, 0, 4, 15, 31, 63, 63, 255, 511, 1023, 2047, 4095, 2047, 16383, 32767, 65535, 131071, 262143, 524287, 1048575] 0 (by kernel_rfl) ?_
      -- 0: Op.move t22
      apply Stage2.step (Is _) true [] true false (Is.keeps _) (fun _ => Is.keeps _) (by kernel_rfl)
      · intro w1 h1
        have h1 : Ext _ w1 := h1
        simp only [List.nil_append, List.cons_append, List.map_cons, List.map_nil, Given]
        go_wp2_with fail
        exact Post.isv (Ext.refl _) rfl rfl rfl
      -- 1: Op.convert 23 9 t167
      apply Stage2.step (Is (.string ⟨M.toArray⟩)) true [true] true false (Is.keeps _) (fun _ => Is.keeps _) (by kernel_rfl)
      · intro w1 h1
        have h1 : Ext _ w1 := h1
        simp only [List.nil_append, List.cons_append, List.map_cons, List.map_nil, Sp.pr, Given]
        rintro _ rfl
        have tx := run_text_u8 (tb7.ext h1)
        go_wp2_with fail
        exact Post.isv (Ext.refl _) rfl rfl rfl
      -- 2: Op.move t24
      apply Stage2.step (Is _) true [] true false (Is.keeps _) (fun _ => Is.keeps _) (by kernel_rfl)
      · intro w1 h1
        have h1 : Ext _ w1 := h1
        simp only [List.nil_append, List.cons_append, List.map_cons, List.map_nil, Given]
        go_wp2_with fail
        exact Post.isv (Ext.refl _) rfl rfl rfl
      -- 3: Op.convert 23 9 t169
      apply Stage2.step (Is (.string ⟨M.toArray⟩)) true [false, false, true] true false (Is.keeps _) (fun _ => Is.keeps _) (by kernel_rfl)
      · intro w1 h1
        have h1 : Ext _ w1 := h1
        simp only [List.nil_append, List.cons_append, List.map_cons, List.map_nil, Sp.pr, Given]
        rintro _ rfl
        have tx := run_text_u8 (tb8.ext h1)
        go_wp2_with fail
        exact Post.isv (Ext.refl _) rfl rfl rfl
      -- 4: Op.binOp BinOp.eql 9 t168 t170 9
      apply Stage2.step (Is (.bool true)) true [false, true, false, true] true false (Is.keeps _) (fun _ => Is.keeps _) (by kernel_rfl)
      · intro w1 h1
        have h1 : Ext _ w1 := h1
        simp only [List.nil_append, List.cons_append, List.map_cons, List.map_nil, Sp.pr, Given]
        rintro _ rfl
        rintro _ rfl
        go_wp2_with fail
        exact Post.isv (Ext.refl _) rfl rfl rfl
      -- 5: Op.move t171
      apply Stage2.step (Is _) true [false, false, false, false, true] true false (Is.keeps _) (fun _ => Is.keeps _) (by kernel_rfl)
      · intro w1 h1
        have h1 : Ext _ w1 := h1
        simp only [List.nil_append, List.cons_append, List.map_cons, List.map_nil, Sp.pr, Given]
        rintro _ rfl
        go_wp2_with fail
        exact Post.isv (Ext.refl _) rfl rfl rfl
      -- 6: Op.move t23   [guarded: some (5, true)]
      apply Stage2.step (Is _) true [false, false, false, false, false, true] true false (Is.keeps _) (fun _ => Is.keeps _) (by kernel_rfl)
      · intro w1 h1
        have h1 : Ext _ w1 := h1
        simp only [List.nil_append, List.cons_append, List.map_cons, List.map_nil, Sp.pr, Given]
        rintro _ rfl
        go_wp2_with fail
        exact Post.isv (Ext.refl _) rfl rfl rfl
      -- 7: Op.move t25   [guarded: some (5, true)]
      apply Stage2.step (Is _) true [false, false, false, false, false, true] true false (Is.keeps _) (fun _ => Is.keeps _) (by kernel_rfl)
      · intro w1 h1
        have h1 : Ext _ w1 := h1
        simp only [List.nil_append, List.cons_append, List.map_cons, List.map_nil, Sp.pr, Given]
        rintro _ rfl
        go_wp2_with fail
        exact Post.isv (Ext.refl _) rfl rfl rfl
      -- 8: Op.binOp BinOp.eql 31 t173 t174 31   [guarded: some (5, true)]
      apply Stage2.step (Is (.bool true)) true [false, false, false, false, false, true, true, true] true false (Is.keeps _) (fun _ => Is.keeps _) (by kernel_rfl)
      · intro w1 h1
        have h1 : Ext _ w1 := h1
        simp only [List.nil_append, List.cons_append, List.map_cons, List.map_nil, Sp.pr, Given]
        rintro _ rfl
        rintro _ rfl
        rintro _ rfl
        go_wp2_with fail
        exact Post.isv (Ext.refl _) rfl rfl rfl
      -- 9: Op.pick t172 t175 (const (Value.bool false))
      apply Stage2.step (Is (.bool true)) true [false, false, false, false, false, true, false, false, true] true false (Is.keeps _) (fun _ => Is.keeps _) (by kernel_rfl)
      · intro w1 h1
        have h1 : Ext _ w1 := h1
        simp only [List.nil_append, List.cons_append, List.map_cons, List.map_nil, Sp.pr, Given]
        rintro _ rfl
        rintro _ rfl
        go_wp2_with fail
        exact Post.isv (Ext.refl _) rfl rfl rfl
      -- 10: Op.move t176
      apply Stage2.step (Is _) true [false, false, false, false, false, false, false, false, false, true] true false (Is.keeps _) (fun _ => Is.keeps _) (by kernel_rfl)
      · intro w1 h1
        have h1 : Ext _ w1 := h1
        simp only [List.nil_append, List.cons_append, List.map_cons, List.map_nil, Sp.pr, Given]
        rintro _ rfl
        go_wp2_with fail
        exact Post.isv (Ext.refl _) rfl rfl rfl
      -- 11: Op.load 43 t20   [guarded: some (10, true)]
      apply Stage2.step (Is (hdV ⟨by_, q2, q3, q4, q5, q6, XS⟩ A5 n1 c5)) true [false, false, false, false, false, false, false, false, false, false, true] true false (Is.keeps _) (fun _ => Is.keeps _) (by kernel_rfl)
      · intro w1 h1
        have h1 : Ext _ w1 := h1
        simp only [List.nil_append, List.cons_append, List.map_cons, List.map_nil, Sp.pr, Given]
        rintro _ rfl
        have u0 := h1.cell x0
        have u1 := h1.cell x1
        have u2 := h1.cell x2
        have u3 := h1.cell x3
        have u4 := h1.cell x4
        have u5 := h1.cell x5
        have u6 := h1.cell x6
        go_wp2_with fail
        exact Post.isv (Ext.refl _) rfl rfl rfl
      -- 12: Op.call { value (Operand.func 21), args := #[t178], argTypes := #[43] }   [guarded: some (10, true)]
      apply Stage2.step (Is (.bool r)) true [false, false, false, false, false, false, false, false, false, false, true, true] true false (Is.keeps _) (fun _ => Is.keeps _) (by kernel_rfl)
      · intro w1 h1
        have h1 : Ext _ w1 := h1
        simp only [List.nil_append, List.cons_append, List.map_cons, List.map_nil, Sp.pr, Given]
        rintro _ rfl
        rintro _ rfl
        go_wp2_with fail
        refine (header_Right ⟨by_, q2, q3, q4, q5, q6, XS⟩ (lW.ext mk_rep h1) HSW (by omega) HR2).mono ?_
        rintro e w2 ⟨rfl, hx2⟩
        go_wp2_with fail
        exact Post.isv hx2 rfl rfl rfl
      -- 13: Op.load 43 t20   [guarded: some (10, true)]
      apply Stage2.step (Is (hdV ⟨by_, q2, q3, q4, q5, q6, XS⟩ A5 n1 c5)) true [false, false, false, false, false, false, false, false, false, false, true] true false (Is.keeps _) (fun _ => Is.keeps _) (by kernel_rfl)
      · intro w1 h1
        have h1 : Ext _ w1 := h1
        simp only [List.nil_append, List.cons_append, List.map_cons, List.map_nil, Sp.pr, Given]
        rintro _ rfl
        have u0 := h1.cell x0
        have u1 := h1.cell x1
        have u2 := h1.cell x2
        have u3 := h1.cell x3
        have u4 := h1.cell x4
        have u5 := h1.cell x5
        have u6 := h1.cell x6
        go_wp2_with fail
        exact Post.isv (Ext.refl _) rfl rfl rfl
      -- 14: Op.call { value (Operand.func 22), args := #[t180], argTypes := #[43] }   [guarded: some (10, true)]
      apply Stage2.step (Is (.bool r)) true [false, false, false, false, false, false, false, false, false, false, true, false, false, true] true false (Is.keeps _) (fun _ => Is.keeps _) (by kernel_rfl)
      · intro w1 h1
        have h1 : Ext _ w1 := h1
        simp only [List.nil_append, List.cons_append, List.map_cons, List.map_nil, Sp.pr, Given]
        rintro _ rfl
        rintro _ rfl
        go_wp2_with fail
        refine (ref_RightHead ⟨by_, q2, q3, q4, q5, q6, XS⟩ (lW.ext mk_rep h1) HSW (by omega) HR2).mono ?_
        rintro e w2 ⟨rfl, hx2⟩
        go_wp2_with fail
        exact Post.isv hx2 rfl rfl rfl
      -- 15: Op.binOp BinOp.eql 4 t179 t181 4   [guarded: some (10, true)]
      apply Stage2.step (Is (.bool true)) true [false, false, false, false, false, false, false, false, false, false, true, false, true, false, true] true false (Is.keeps _) (fun _ => Is.keeps _) (by kernel_rfl)
      · intro w1 h1
        have h1 : Ext _ w1 := h1
        simp only [List.nil_append, List.cons_append, List.map_cons, List.map_nil, Sp.pr, Given]
        rintro _ rfl
        rintro _ rfl
        rintro _ rfl
        go_wp2_with fail
        exact Post.isv (Ext.refl _) rfl rfl rfl
      -- 16: Op.pick t177 t182 (const (Value.bool false))
      apply Stage2.step (Is (.bool true)) true [false, false, false, false, false, false, false, false, false, false, true, false, false, false, false, true] true false (Is.keeps _) (fun _ => Is.keeps _) (by kernel_rfl)
      · intro w1 h1
        have h1 : Ext _ w1 := h1
        simp only [List.nil_append, List.cons_append, List.map_cons, List.map_nil, Sp.pr, Given]
        rintro _ rfl
        rintro _ rfl
        go_wp2_with fail
        exact Post.isv (Ext.refl _) rfl rfl rfl
      -- 17: Op.move t183
      apply Stage2.step (Is _) true [false, false, false, false, false, false, false, false, false, false, false, false, false, false, false, false, true] true false (Is.keeps _) (fun _ => Is.keeps _) (by kernel_rfl)
      · intro w1 h1
        have h1 : Ext _ w1 := h1
        simp only [List.nil_append, List.cons_append, List.map_cons, List.map_nil, Sp.pr, Given]
        rintro _ rfl
        go_wp2_with fail
        exact Post.isv (Ext.refl _) rfl rfl rfl
      -- 18: Op.call { value (Operand.func 17), args := #[], argTypes := #[] }   [guarded: some (17, true)]
      apply Stage2.step (Is (.bool true)) true [false, false, false, false, false, false, false, false, false, false, false, false, false, false, false, false, false, true] true false (Is.keeps _) (fun _ => Is.keeps _) (by kernel_rfl)
      · intro w1 h1
        have h1 : Ext _ w1 := h1
        simp only [List.nil_append, List.cons_append, List.map_cons, List.map_nil, Sp.pr, Given]
        rintro _ rfl
        go_wp2_with fail
        refine (law8_known _).mono ?_
        rintro e w2 ⟨rfl, hx2⟩
        go_wp2_with fail
        exact Post.isv hx2 rfl rfl rfl
      -- 19: Op.pick t184 t185 (const (Value.bool false))
      apply Stage2.step (Is _) true [false, false, false, false, false, false, false, false, false, false, false, false, false, false, false, false, false, true, true] true false (Is.keeps _) (fun _ => Is.keeps _) (by kernel_rfl)
      · intro w1 h1
        have h1 : Ext _ w1 := h1
        simp only [List.nil_append, List.cons_append, List.map_cons, List.map_nil, Sp.pr, Given]
        rintro _ rfl
        rintro _ rfl
        go_wp2_with fail
        exact Post.isv (Ext.refl _) rfl rfl rfl
      -- 20: Op.assign t186
      apply Stage2.step (Is _) true [false, false, false, false, false, false, false, false, false, false, false, false, false, false, false, false, false, false, false, true] true false (Is.keeps _) (fun _ => Is.keeps _) (by kernel_rfl)
      · intro w1 h1
        have h1 : Ext _ w1 := h1
        simp only [List.nil_append, List.cons_append, List.map_cons, List.map_nil, Sp.pr, Given]
        rintro _ rfl
        go_wp2_with fail
        exact Post.isv (Ext.refl _) rfl rfl rfl
      apply Stage2.nil [true, true, true, true, true, true, true, true, true, true, true, true, true, true, true, true, true, true, true, true, true] (by kernel_rfl)
      intro w1 h1
      have h1 : (Ext) _ w1 := h1
      simp only [List.nil_append, List.cons_append, List.map_cons, List.map_nil, Sp.pr]
      refine Fin2.is_ ?_
      refine Fin2.is_ ?_
      refine Fin2.is_ ?_
      refine Fin2.is_ ?_
      refine Fin2.is_ ?_
      refine Fin2.is_ ?_
      refine Fin2.is_ ?_
      refine Fin2.is_ ?_
      refine Fin2.is_ ?_
      refine Fin2.is_ ?_
      refine Fin2.is_ ?_
      refine Fin2.is_ ?_
      refine Fin2.is_ ?_
      refine Fin2.is_ ?_
      refine Fin2.is_ ?_
      refine Fin2.is_ ?_
      refine Fin2.is_ ?_
      refine Fin2.is_ ?_
      refine Fin2.is_ ?_
      refine Fin2.is_ ?_
      refine Fin2.is_ ?_
      refine Fin2.nil_ ?_
      go_simp
      go_wp2_with fail
      go_ret
      exact ⟨rfl, gx7.trans h1⟩
    · skip
      go_wp2_with (
        at_builtin
        rw [← hw4]
        refine wpList_append_flatB mk_rep (fun x cs w h => mk_nop h) rfl _ _ _ _ rfl w4.heap.size (by rw [World.size_alloc]; omega) TMk TMk im _ 40 under_mks under_mks him hm0 hm1 hm2 rfl _ 0 0 [] rfl (OwnL.nil _ _ _ _) A1 n1 c1 ps rfl ((l1.ext mk_rep gx4).ext mk_rep (Ext.alloc _ _)) n1 (by omega) ps rfl (by simp only [maxLen]; omega) (by omega) ?_
        intro A5 c5 w5 own5 hkeep hext hsz5
        have hx5 := hext w4 (Ext.alloc _ _) (Nat.le_refl _)
        have B5 := Lib.hid (blk_ext B4.out hx5)
        have q6c := blk_cell B5.out 6
        have q6f := blk_frozen B5.out 6
        have B6 : Hid ((w5.setCell ⟨w3.heap.size, 6, none⟩ (.slice A5 n1 c5)).heap[w3.heap.size]? = some (.cells (hdC ⟨q1, q2, q3, q4, q5, q6, ps⟩ A5 n1 c5) THd (0, 0))) := by
          unfold Hid
          have := blk_set B5.out 6 (.slice A5 n1 c5)
          simpa using this
        have own6 : OwnL TMk 4 mkR (w5.setCell ⟨w3.heap.size, 6, none⟩ (.slice A5 n1 c5)) w4.heap.size A5 n1 c5 ps := own5.farM (p := ⟨w3.heap.size, 6, none⟩) (fun g hg => by have := (own5.row_lt g hg).1; simp only; omega) _
        have gx6 : Ext w (w5.setCell ⟨w3.heap.size, 6, none⟩ (.slice A5 n1 c5)) := ((gx1.trans gx4).trans hx5).sets (p := ⟨w3.heap.size, 6, none⟩) hwb _
        have y6 := blk_cell B6.out 6
        clear hx5 B5 hkeep hext hsz5 own5
        have z4c := blk_cell B6.out 4
        have z4f := blk_frozen B6.out 4
        have BW : ((w5.setCell ⟨w3.heap.size, 6, none⟩ (.slice A5 n1 c5)).setCell ⟨w3.heap.size, 4, none⟩ (.int .i64 by_)).heap[w3.heap.size]? = some (.cells (hdC ⟨q1, q2, q3, q4, by_, q6, ps⟩ A5 n1 c5) THd (0, 0)) := by
          have := blk_set B6.out 4 (.int .i64 by_)
          simpa using this
        have ownW := own6.farM (p := ⟨w3.heap.size, 4, none⟩) (fun g hg => by have := (own6.row_lt g hg).1; simp only; omega) (.int .i64 by_)
        have gxW := gx6.sets (p := ⟨w3.heap.size, 4, none⟩) hwb (.int .i64 by_)
        have x0 := blk_cell BW 0
        have x1 := blk_cell BW 1
        have x2 := blk_cell BW 2
        have x3 := blk_cell BW 3
        have x4 := blk_cell BW 4
        have x5 := blk_cell BW 5
        have x6 := blk_cell BW 6
        have lW := ownW.lst
        have GXW := Lib.hid gxW
        clear ownW gxW BW own6 B6 gx6
        )
      obtain ⟨wf, hwf⟩ : ∃ q, q = (w5.setCell ⟨w3.heap.size, 6, none⟩ (.slice A5 n1 c5)).setCell ⟨w3.heap.size, 4, none⟩ (.int .i64 by_) := ⟨_, rfl⟩
      rw [← hwf] at x0 x1 x2 x3 x4 x5 x6 lW GXW
      rw [← hwf]
      clear hwf
      have HSW : Hid (Shorts (ps)) := HSH.out
      obtain ⟨XS, hXS⟩ : ∃ X, ps = X := ⟨_, rfl⟩
      rw [hXS] at lW HSW
      clear hXS
      obtain ⟨r, hr⟩ : ∃ q, rightH ⟨q1, q2, q3, q4, by_, q6, XS⟩ = q := ⟨_, rfl⟩
      have HR2 := Lib.hid hr
      obtain ⟨M, hM⟩ : ∃ q, putHr ⟨q1, q2, q3, q4, by_, q6, XS⟩ r = q := ⟨_, rfl⟩
      have HM2 := Lib.hid hM
      clear hr hM
      refine (header_Put ⟨q1, q2, q3, q4, by_, q6, XS⟩ lW HSW (by omega) HR2 HM2).mono ?_
      rintro e w7 ⟨A7, n7, c7, rfl, hb7, hx7⟩
      obtain ⟨er, her⟩ : ∃ q : Int, (if r = true then (0 : Int) else 1) = q := ⟨_, rfl⟩
      rw [her]
      have HER := Lib.hid her
      clear her
      replace x0 := hx7.cell x0
      replace x1 := hx7.cell x1
      replace x2 := hx7.cell x2
      replace x3 := hx7.cell x3
      replace x4 := hx7.cell x4
      replace x5 := hx7.cell x5
      replace x6 := hx7.cell x6
      have gx7 := GXW.out.trans hx7
      replace lW := lW.ext mk_rep hx7
      clear GXW hx7
      go_wp2_with fail
      refine (ref_PutHead ⟨q1, q2, q3, q4, by_, q6, XS⟩ lW HSW (by omega) HR2 HM2).mono ?_
      rintro e w8 ⟨A8, n8, c8, rfl, hb8, hx8⟩
      rw [HER.out]
      replace x0 := hx8.cell x0
      replace x1 := hx8.cell x1
      replace x2 := hx8.cell x2
      replace x3 := hx8.cell x3
      replace x4 := hx8.cell x4
      replace x5 := hx8.cell x5
      replace x6 := hx8.cell x6
      replace gx7 := gx7.trans hx8
      replace lW := lW.ext mk_rep hx8
      have tb7 := hb7.sl.ext hx8
      have tb8 := hb8.sl
      clear hx8 hb7 hb8 HER HM2
      go_wp2_with fail
      refine wp_region_typed2 (R := But w8.heap.size (fun _ => False)) Ext.steady (But.steady _ _) (fun _ _ => But.of_ext) rfl 187 rfl [0, 1, 0, 4, 15, 31, 63, 63, 255, 511, 1023, 2047, 4095, 2047, 16383, 32767, 65535, 131071, 262143, 524287, 1048575] 0 (by kernel_rfl) ?_
      -- 0: Op.move t22
      apply Stage2.step (Is _) true [] true false (Is.keeps _) (fun _ => Is.keeps _) (by kernel_rfl)
      · intro w1 h1
        have h1 : Ext _ w1 := h1
        simp only [List.nil_append, List.cons_append, List.map_cons, List.map_nil, Given]
        go_wp2_with fail
        exact Post.isv (Ext.refl _) rfl rfl rfl
      -- 1: Op.convert 23 9 t167
      apply Stage2.step (Is (.string ⟨M.toArray⟩)) true [true] true false (Is.keeps _) (fun _ => Is.keeps _) (by kernel_rfl)
      · intro w1 h1
        have h1 : Ext _ w1 := h1
        simp only [List.nil_append, List.cons_append, List.map_cons, List.map_nil, Sp.pr, Given]
        rintro _ rfl
        have tx := run_text_u8 (tb7.ext h1)
        go_wp2_with fail
        exact Post.isv (Ext.refl _) rfl rfl rfl
      -- 2: Op.move t24
      apply Stage2.step (Is _) true [] true false (Is.keeps _) (fun _ => Is.keeps _) (by kernel_rfl)
      · intro w1 h1
        have h1 : Ext _ w1 := h1
        simp only [List.nil_append, List.cons_append, List.map_cons, List.map_nil, Given]
        go_wp2_with fail
        exact Post.isv (Ext.refl _) rfl rfl rfl
      -- 3: Op.convert 23 9 t169
      apply Stage2.step (Is (.string ⟨M.toArray⟩)) true [false, false, true] true false (Is.keeps _) (fun _ => Is.keeps _) (by kernel_rfl)
      · intro w1 h1
        have h1 : Ext _ w1 := h1
        simp only [List.nil_append, List.cons_append, List.map_cons, List.map_nil, Sp.pr, Given]
        rintro _ rfl
        have tx := run_text_u8 (tb8.ext h1)
        go_wp2_with fail
        exact Post.isv (Ext.refl _) rfl rfl rfl
      -- 4: Op.binOp BinOp.eql 9 t168 t170 9
      apply Stage2.step (Is (.bool true)) true [false, true, false, true] true false (Is.keeps _) (fun _ => Is.keeps _) (by kernel_rfl)
      · intro w1 h1
        have h1 : Ext _ w1 := h1
        simp only [List.nil_append, List.cons_append, List.map_cons, List.map_nil, Sp.pr, Given]
        rintro _ rfl
        rintro _ rfl
        go_wp2_with fail
        exact Post.isv (Ext.refl _) rfl rfl rfl
      -- 5: Op.move t171
      apply Stage2.step (Is _) true [false, false, false, false, true] true false (Is.keeps _) (fun _ => Is.keeps _) (by kernel_rfl)
      · intro w1 h1
        have h1 : Ext _ w1 := h1
        simp only [List.nil_append, List.cons_append, List.map_cons, List.map_nil, Sp.pr, Given]
        rintro _ rfl
        go_wp2_with fail
        exact Post.isv (Ext.refl _) rfl rfl rfl
      -- 6: Op.move t23   [guarded: some (5, true)]
      apply Stage2.step (Is _) true [false, false, false, false, false, true] true false (Is.keeps _) (fun _ => Is.keeps _) (by kernel_rfl)
      · intro w1 h1
        have h1 : Ext _ w1 := h1
        simp only [List.nil_append, List.cons_append, List.map_cons, List.map_nil, Sp.pr, Given]
        rintro _ rfl
        go_wp2_with fail
        exact Post.isv (Ext.refl _) rfl rfl rfl
      -- 7: Op.move t25   [guarded: some (5, true)]
      apply Stage2.step (Is _) true [false, false, false, false, false, true] true false (Is.keeps _) (fun _ => Is.keeps _) (by kernel_rfl)
      · intro w1 h1
        have h1 : Ext _ w1 := h1
        simp only [List.nil_append, List.cons_append, List.map_cons, List.map_nil, Sp.pr, Given]
        rintro _ rfl
        go_wp2_with fail
        exact Post.isv (Ext.refl _) rfl rfl rfl
      -- 8: Op.binOp BinOp.eql 31 t173 t174 31   [guarded: some (5, true)]
      apply Stage2.step (Is (.bool true)) true [false, false, false, false, false, true, true, true] true false (Is.keeps _) (fun _ => Is.keeps _) (by kernel_rfl)
      · intro w1 h1
        have h1 : Ext _ w1 := h1
        simp only [List.nil_append, List.cons_append, List.map_cons, List.map_nil, Sp.pr, Given]
        rintro _ rfl
        rintro _ rfl
        rintro _ rfl
        go_wp2_with fail
        exact Post.isv (Ext.refl _) rfl rfl rfl
      -- 9: Op.pick t172 t175 (const (Value.bool false))
      apply Stage2.step (Is (.bool true)) true [false, false, false, false, false, true, false, false, true] true false (Is.keeps _) (fun _ => Is.keeps _) (by kernel_rfl)
      · intro w1 h1
        have h1 : Ext _ w1 := h1
        simp only [List.nil_append, List.cons_append, List.map_cons, List.map_nil, Sp.pr, Given]
        rintro _ rfl
        rintro _ rfl
        go_wp2_with fail
        exact Post.isv (Ext.refl _) rfl rfl rfl
      -- 10: Op.move t176
      apply Stage2.step (Is _) true [false, false, false, false, false, false, false, false, false, true] true false (Is.keeps _) (fun _ => Is.keeps _) (by kernel_rfl)
      · intro w1 h1
        have h1 : Ext _ w1 := h1
        simp only [List.nil_append, List.cons_append, List.map_cons, List.map_nil, Sp.pr, Given]
        rintro _ rfl
        go_wp2_with fail
        exact Post.isv (Ext.refl _) rfl rfl rfl
      -- 11: Op.load 43 t20   [guarded: some (10, true)]
      apply Stage2.step (Is (hdV ⟨q1, q2, q3, q4, by_, q6, XS⟩ A5 n1 c5)) true [false, false, false, false, false, false, false, false, false, false, true] true false (Is.keeps _) (fun _ => Is.keeps _) (by kernel_rfl)
      · intro w1 h1
        have h1 : Ext _ w1 := h1
        simp only [List.nil_append, List.cons_append, List.map_cons, List.map_nil, Sp.pr, Given]
        rintro _ rfl
        have u0 := h1.cell x0
        have u1 := h1.cell x1
        have u2 := h1.cell x2
        have u3 := h1.cell x3
        have u4 := h1.cell x4
        have u5 := h1.cell x5
        have u6 := h1.cell x6
        go_wp2_with fail
        exact Post.isv (Ext.refl _) rfl rfl rfl
      -- 12: Op.call { value (Operand.func 21), args := #[t178], argTypes := #[43] }   [guarded: some (10, true)]
      apply Stage2.step (Is (.bool r)) true [false, false, false, false, false, false, false, false, false, false, true, true] true false (Is.keeps _) (fun _ => Is.keeps _) (by kernel_rfl)
      · intro w1 h1
        have h1 : Ext _ w1 := h1
        simp only [List.nil_append, List.cons_append, List.map_cons, List.map_nil, Sp.pr, Given]
        rintro _ rfl
        rintro _ rfl
        go_wp2_with fail
        refine (header_Right ⟨q1, q2, q3, q4, by_, q6, XS⟩ (lW.ext mk_rep h1) HSW (by omega) HR2).mono ?_
        rintro e w2 ⟨rfl, hx2⟩
        go_wp2_with fail
        exact Post.isv hx2 rfl rfl rfl
      -- 13: Op.load 43 t20   [guarded: some (10, true)]
      apply Stage2.step (Is (hdV ⟨q1, q2, q3, q4, by_, q6, XS⟩ A5 n1 c5)) true [false, false, false, false, false, false, false, false, false, false, true] true false (Is.keeps _) (fun _ => Is.keeps _) (by kernel_rfl)
      · intro w1 h1
        have h1 : Ext _ w1 := h1
        simp only [List.nil_append, List.cons_append, List.map_cons, List.map_nil, Sp.pr, Given]
        rintro _ rfl
        have u0 := h1.cell x0
        have u1 := h1.cell x1
        have u2 := h1.cell x2
        have u3 := h1.cell x3
        have u4 := h1.cell x4
        have u5 := h1.cell x5
        have u6 := h1.cell x6
        go_wp2_with fail
        exact Post.isv (Ext.refl _) rfl rfl rfl
      -- 14: Op.call { value (Operand.func 22), args := #[t180], argTypes := #[43] }   [guarded: some (10, true)]
      apply Stage2.step (Is (.bool r)) true [false, false, false, false, false, false, false, false, false, false, true, false, false, true] true false (Is.keeps _) (fun _ => Is.keeps _) (by kernel_rfl)
      · intro w1 h1
        have h1 : Ext _ w1 := h1
        simp only [List.nil_append, List.cons_append, List.map_cons, List.map_nil, Sp.pr, Given]
        rintro _ rfl
        rintro _ rfl
        go_wp2_with fail
        refine (ref_RightHead ⟨q1, q2, q3, q4, by_, q6, XS⟩ (lW.ext mk_rep h1) HSW (by omega) HR2).mono ?_
        rintro e w2 ⟨rfl, hx2⟩
        go_wp2_with fail
        exact Post.isv hx2 rfl rfl rfl
      -- 15: Op.binOp BinOp.eql 4 t179 t181 4   [guarded: some (10, true)]
      apply Stage2.step (Is (.bool true)) true [false, false, false, false, false, false, false, false, false, false, true, false, true, false, true] true false (Is.keeps _) (fun _ => Is.keeps _) (by kernel_rfl)
      · intro w1 h1
        have h1 : Ext _ w1 := h1
        simp only [List.nil_append, List.cons_append, List.map_cons, List.map_nil, Sp.pr, Given]
        rintro _ rfl
        rintro _ rfl
        rintro _ rfl
        go_wp2_with fail
        exact Post.isv (Ext.refl _) rfl rfl rfl
      -- 16: Op.pick t177 t182 (const (Value.bool false))
      apply Stage2.step (Is (.bool true)) true [false, false, false, false, false, false, false, false, false, false, true, false, false, false, false, true] true false (Is.keeps _) (fun _ => Is.keeps _) (by kernel_rfl)
      · intro w1 h1
        have h1 : Ext _ w1 := h1
        simp only [List.nil_append, List.cons_append, List.map_cons, List.map_nil, Sp.pr, Given]
        rintro _ rfl
        rintro _ rfl
        go_wp2_with fail
        exact Post.isv (Ext.refl _) rfl rfl rfl
      -- 17: Op.move t183
      apply Stage2.step (Is _) true [false, false, false, false, false, false, false, false, false, false, false, false, false, false, false, false, true] true false (Is.keeps _) (fun _ => Is.keeps _) (by kernel_rfl)
      · intro w1 h1
        have h1 : Ext _ w1 := h1
        simp only [List.nil_append, List.cons_append, List.map_cons, List.map_nil, Sp.pr, Given]
        rintro _ rfl
        go_wp2_with fail
        exact Post.isv (Ext.refl _) rfl rfl rfl
      -- 18: Op.call { value (Operand.func 17), args := #[], argTypes := #[] }   [guarded: some (17, true)]
      apply Stage2.step (Is (.bool true)) true [false, false, false, false, false, false, false, false, false, false, false, false, false, false, false, false, false, true] true false (Is.keeps _) (fun _ => Is.keeps _) (by kernel_rfl)
      · intro w1 h1
        have h1 : Ext _ w1 := h1
        simp only [List.nil_append, List.cons_append, List.map_cons, List.map_nil, Sp.pr, Given]
        rintro _ rfl
        go_wp2_with fail
        refine (law8_known _).mono ?_
        rintro e w2 ⟨rfl, hx2⟩
        go_wp2_with fail
        exact Post.isv hx2 rfl rfl rfl
      -- 19: Op.pick t184 t185 (const (Value.bool false))
      apply Stage2.step (Is _) true [false, false, false, false, false, false, false, false, false, false, false, false, false, false, false, false, false, true, true] true false (Is.keeps _) (fun _ => Is.keeps _) (by kernel_rfl)
      · intro w1 h1
        have h1 : Ext _ w1 := h1
        simp only [List.nil_append, List.cons_append, List.map_cons, List.map_nil, Sp.pr, Given]
        rintro _ rfl
        rintro _ rfl
        go_wp2_with fail
        exact Post.isv (Ext.refl _) rfl rfl rfl
      -- 20: Op.assign t186
      apply Stage2.step (Is _) true [false, false, false, false, false, false, false, false, false, false, false, false, false, false, false, false, false, false, false, true] true false (Is.keeps _) (fun _ => Is.keeps _) (by kernel_rfl)
      · intro w1 h1
        have h1 : Ext _ w1 := h1
        simp only [List.nil_append, List.cons_append, List.map_cons, List.map_nil, Sp.pr, Given]
        rintro _ rfl
        go_wp2_with fail
        exact Post.isv (Ext.refl _) rfl rfl rfl
      apply Stage2.nil [true, true, true, true, true, true, true, true, true, true, true, true, true, true, true, true, true, true, true, true, true] (by kernel_rfl)
      intro w1 h1
      have h1 : (Ext) _ w1 := h1
      simp only [List.nil_append, List.cons_append, List.map_cons, List.map_nil, Sp.pr]
      refine Fin2.is_ ?_
      refine Fin2.is_ ?_
      refine Fin2.is_ ?_
      refine Fin2.is_ ?_
      refine Fin2.is_ ?_
      refine Fin2.is_ ?_
      refine Fin2.is_ ?_
      refine Fin2.is_ ?_
      refine Fin2.is_ ?_
      refine Fin2.is_ ?_
      refine Fin2.is_ ?_
      refine Fin2.is_ ?_
      refine Fin2.is_ ?_
      refine Fin2.is_ ?_
      refine Fin2.is_ ?_
      refine Fin2.is_ ?_
      refine Fin2.is_ ?_
      refine Fin2.is_ ?_
      refine Fin2.is_ ?_
      refine Fin2.is_ ?_
      refine Fin2.is_ ?_
      refine Fin2.nil_ ?_
      go_simp
      go_wp2_with fail
      go_ret
      exact ⟨rfl, gx7.trans h1⟩
    · skip
      go_wp2_with (
        at_builtin
        rw [← hw4]
        refine wpList_append_flatB mk_rep (fun x cs w h => mk_nop h) rfl _ _ _ _ rfl w4.heap.size (by rw [World.size_alloc]; omega) TMk TMk im _ 40 under_mks under_mks him hm0 hm1 hm2 rfl _ 0 0 [] rfl (OwnL.nil _ _ _ _) A1 n1 c1 ps rfl ((l1.ext mk_rep gx4).ext mk_rep (Ext.alloc _ _)) n1 (by omega) ps rfl (by simp only [maxLen]; omega) (by omega) ?_
        intro A5 c5 w5 own5 hkeep hext hsz5
        have hx5 := hext w4 (Ext.alloc _ _) (Nat.le_refl _)
        have B5 := Lib.hid (blk_ext B4.out hx5)
        have q6c := blk_cell B5.out 6
        have q6f := blk_frozen B5.out 6
        have B6 : Hid ((w5.setCell ⟨w3.heap.size, 6, none⟩ (.slice A5 n1 c5)).heap[w3.heap.size]? = some (.cells (hdC ⟨q1, q2, q3, q4, q5, q6, ps⟩ A5 n1 c5) THd (0, 0))) := by
          unfold Hid
          have := blk_set B5.out 6 (.slice A5 n1 c5)
          simpa using this
        have own6 : OwnL TMk 4 mkR (w5.setCell ⟨w3.heap.size, 6, none⟩ (.slice A5 n1 c5)) w4.heap.size A5 n1 c5 ps := own5.farM (p := ⟨w3.heap.size, 6, none⟩) (fun g hg => by have := (own5.row_lt g hg).1; simp only; omega) _
        have gx6 : Ext w (w5.setCell ⟨w3.heap.size, 6, none⟩ (.slice A5 n1 c5)) := ((gx1.trans gx4).trans hx5).sets (p := ⟨w3.heap.size, 6, none⟩) hwb _
        have y6 := blk_cell B6.out 6
        clear hx5 B5 hkeep hext hsz5 own5
        have z2c := blk_cell B6.out 2
        have z2f := blk_frozen B6.out 2
        have BW : ((w5.setCell ⟨w3.heap.size, 6, none⟩ (.slice A5 n1 c5)).setCell ⟨w3.heap.size, 2, none⟩ (.int .i64 by_)).heap[w3.heap.size]? = some (.cells (hdC ⟨q1, q2, by_, q4, q5, q6, ps⟩ A5 n1 c5) THd (0, 0)) := by
          have := blk_set B6.out 2 (.int .i64 by_)
          simpa using this
        have ownW := own6.farM (p := ⟨w3.heap.size, 2, none⟩) (fun g hg => by have := (own6.row_lt g hg).1; simp only; omega) (.int .i64 by_)
        have gxW := gx6.sets (p := ⟨w3.heap.size, 2, none⟩) hwb (.int .i64 by_)
        have x0 := blk_cell BW 0
        have x1 := blk_cell BW 1
        have x2 := blk_cell BW 2
        have x3 := blk_cell BW 3
        have x4 := blk_cell BW 4
        have x5 := blk_cell BW 5
        have x6 := blk_cell BW 6
        have lW := ownW.lst
        have GXW := Lib.hid gxW
        clear ownW gxW BW own6 B6 gx6
        )
      obtain ⟨wf, hwf⟩ : ∃ q, q = (w5.setCell ⟨w3.heap.size, 6, none⟩ (.slice A5 n1 c5)).setCell ⟨w3.heap.size, 2, none⟩ (.int .i64 by_) := ⟨_, rfl⟩
      rw [← hwf] at x0 x1 x2 x3 x4 x5 x6 lW GXW
      rw [← hwf]
      clear hwf
      have HSW : Hid (Shorts (ps)) := HSH.out
      obtain ⟨XS, hXS⟩ : ∃ X, ps = X := ⟨_, rfl⟩
      rw [hXS] at lW HSW
      clear hXS
      obtain ⟨r, hr⟩ : ∃ q, rightH ⟨q1, q2, by_, q4, q5, q6, XS⟩ = q := ⟨_, rfl⟩
      have HR2 := Lib.hid hr
      obtain ⟨M, hM⟩ : ∃ q, putHr ⟨q1, q2, by_, q4, q5, q6, XS⟩ r = q := ⟨_, rfl⟩
      have HM2 := Lib.hid hM
      clear hr hM
      refine (header_Put ⟨q1, q2, by_, q4, q5, q6, XS⟩ lW HSW (by omega) HR2 HM2).mono ?_
      rintro e w7 ⟨A7, n7, c7, rfl, hb7, hx7⟩
      obtain ⟨er, her⟩ : ∃ q : Int, (if r = true then (0 : Int) else 1) = q := ⟨_, rfl⟩
      rw [her]
      have HER := Lib.hid her
      clear her
      replace x0 := hx7.cell x0
      replace x1 := hx7.cell x1
      replace x2 := hx7.cell x2
      replace x3 := hx7.cell x3
      replace x4 := hx7.cell x4
      replace x5 := hx7.cell x5
      replace x6 := hx7.cell x6
      have gx7 := GXW.out.trans hx7
      replace lW := lW.ext mk_rep hx7
      clear GXW hx7
      go_wp2_with fail
      refine (ref_PutHead ⟨q1, q2, by_, q4, q5, q6, XS⟩ lW HSW (by omega) HR2 HM2).mono ?_
      rintro e w8 ⟨A8, n8, c8, rfl, hb8, hx8⟩
      rw [HER.out]
      replace x0 := hx8.cell x0
      replace x1 := hx8.cell x1
      replace x2 := hx8.cell x2
      replace x3 := hx8.cell x3
      replace x4 := hx8.cell x4
      replace x5 := hx8.cell x5
      replace x6 := hx8.cell x6
      replace gx7 := gx7.trans hx8
      replace lW := lW.ext mk_rep hx8
      have tb7 := hb7.sl.ext hx8
      have tb8 := hb8.sl
      clear hx8 hb7 hb8 HER HM2
      go_wp2_with fail
      refine wp_region_typed2 (R := But w8.heap.size (fun _ => False)) Ext.steady (But.steady _ _) (fun _ _ => But.of_ext) rfl 187 rfl [0, 1, 0, 4, 15, 31, 63, 63, 255, 511, 1023, 2047, 4095, 2047, 16383, 32767, 65535, 131071, 262143, 524287, 1048575] 0 (by kernel_rfl) ?_
      -- 0: Op.move t22
      apply Stage2.step (Is _) true [] true false (Is.keeps _) (fun _ => Is.keeps _) (by kernel_rfl)
      · intro w1 h1
        have h1 : Ext _ w1 := h1
        simp only [List.nil_append, List.cons_append, List.map_cons, List.map_nil, Given]
        go_wp2_with fail
        exact Post.isv (Ext.refl _) rfl rfl rfl
      -- 1: Op.convert 23 9 t167
      apply Stage2.step (Is (.string ⟨M.toArray⟩)) true [true] true false (Is.keeps _) (fun _ => Is.keeps _) (by kernel_rfl)
      · intro w1 h1
        have h1 : Ext _ w1 := h1
        simp only [List.nil_append, List.cons_append, List.map_cons, List.map_nil, Sp.pr, Given]
        rintro _ rfl
        have tx := run_text_u8 (tb7.ext h1)
        go_wp2_with fail
        exact Post.isv (Ext.refl _) rfl rfl rfl
      -- 2: Op.move t24
      apply Stage2.step (Is _) true [] true false (Is.keeps _) (fun _ => Is.keeps _) (by kernel_rfl)
      · intro w1 h1
        have h1 : Ext _ w1 := h1
        simp only [List.nil_append, List.cons_append, List.map_cons, List.map_nil, Given]
        go_wp2_with fail
        exact Post.isv (Ext.refl _) rfl rfl rfl
      -- 3: Op.convert 23 9 t169
      apply Stage2.step (Is (.string ⟨M.toArray⟩)) true [false, false, true] true false (Is.keeps _) (fun _ => Is.keeps _) (by kernel_rfl)
      · intro w1 h1
        have h1 : Ext _ w1 := h1
        simp only [List.nil_append, List.cons_append, List.map_cons, List.map_nil, Sp.pr, Given]
        rintro _ rfl
        have tx := run_text_u8 (tb8.ext h1)
        go_wp2_with fail
        exact Post.isv (Ext.refl _) rfl rfl rfl
      -- 4: Op.binOp BinOp.eql 9 t168 t170 9
      apply Stage2.step (Is (.bool true)) true [false, true, false, true] true false (Is.keeps _) (fun _ => Is.keeps _) (by kernel_rfl)
      · intro w1 h1
        have h1 : Ext _ w1 := h1
        simp only [List.nil_append, List.cons_append, List.map_cons, List.map_nil, Sp.pr, Given]
        rintro _ rfl
        rintro _ rfl
        go_wp2_with fail
        exact Post.isv (Ext.refl _) rfl rfl rfl
      -- 5: Op.move t171
      apply Stage2.step (Is _) true [false, false, false, false, true] true false (Is.keeps _) (fun _ => Is.keeps _) (by kernel_rfl)
      · intro w1 h1
        have h1 : Ext _ w1 := h1
        simp only [List.nil_append, List.cons_append, List.map_cons, List.map_nil, Sp.pr, Given]
        rintro _ rfl
        go_wp2_with fail
        exact Post.isv (Ext.refl _) rfl rfl rfl
      -- 6: Op.move t23   [guarded: some (5, true)]
      apply Stage2.step (Is _) true [false, false, false, false, false, true] true false (Is.keeps _) (fun _ => Is.keeps _) (by kernel_rfl)
      · intro w1 h1
        have h1 : Ext _ w1 := h1
        simp only [List.nil_append, List.cons_append, List.map_cons, List.map_nil, Sp.pr, Given]
        rintro _ rfl
        go_wp2_with fail
        exact Post.isv (Ext.refl _) rfl rfl rfl
      -- 7: Op.move t25   [guarded: some (5, true)]
      apply Stage2.step (Is _) true [false, false, false, false, false, true] true false (Is.keeps _) (fun _ => Is.keeps _) (by kernel_rfl)
      · intro w1 h1
        have h1 : Ext _ w1 := h1
        simp only [List.nil_append, List.cons_append, List.map_cons, List.map_nil, Sp.pr, Given]
        rintro _ rfl
        go_wp2_with fail
        exact Post.isv (Ext.refl _) rfl rfl rfl
      -- 8: Op.binOp BinOp.eql 31 t173 t174 31   [guarded: some (5, true)]
      apply Stage2.step (Is (.bool true)) true [false, false, false, false, false, true, true, true] true false (Is.keeps _) (fun _ => Is.keeps _) (by kernel_rfl)
      · intro w1 h1
        have h1 : Ext _ w1 := h1
        simp only [List.nil_append, List.cons_append, List.map_cons, List.map_nil, Sp.pr, Given]
        rintro _ rfl
        rintro _ rfl
        rintro _ rfl
        go_wp2_with fail
        exact Post.isv (Ext.refl _) rfl rfl rfl
      -- 9: Op.pick t172 t175 (const (Value.bool false))
      apply Stage2.step (Is (.bool true)) true [false, false, false, false, false, true, false, false, true] true false (Is.keeps _) (fun _ => Is.keeps _) (by kernel_rfl)
      · intro w1 h1
        have h1 : Ext _ w1 := h1
        simp only [List.nil_append, List.cons_append, List.map_cons, List.map_nil, Sp.pr, Given]
        rintro _ rfl
        rintro _ rfl
        go_wp2_with fail
        exact Post.isv (Ext.refl _) rfl rfl rfl
      -- 10: Op.move t176
      apply Stage2.step (Is _) true [false, false, false, false, false, false, false, false, false, true] true false (Is.keeps _) (fun _ => Is.keeps _) (by kernel_rfl)
      · intro w1 h1
        have h1 : Ext _ w1 := h1
        simp only [List.nil_append, List.cons_append, List.map_cons, List.map_nil, Sp.pr, Given]
        rintro _ rfl
        go_wp2_with fail
        exact Post.isv (Ext.refl _) rfl rfl rfl
      -- 11: Op.load 43 t20   [guarded: some (10, true)]
      apply Stage2.step (Is (hdV ⟨q1, q2, by_, q4, q5, q6, XS⟩ A5 n1 c5)) true [false, false, false, false, false, false, false, false, false, false, true] true false (Is.keeps _) (fun _ => Is.keeps _) (by kernel_rfl)
      · intro w1 h1
        have h1 : Ext _ w1 := h1
        simp only [List.nil_append, List.cons_append, List.map_cons, List.map_nil, Sp.pr, Given]
        rintro _ rfl
        have u0 := h1.cell x0
        have u1 := h1.cell x1
        have u2 := h1.cell x2
        have u3 := h1.cell x3
        have u4 := h1.cell x4
        have u5 := h1.cell x5
        have u6 := h1.cell x6
        go_wp2_with fail
        exact Post.isv (Ext.refl _) rfl rfl rfl
      -- 12: Op.call { value (Operand.func 21), args := #[t178], argTypes := #[43] }   [guarded: some (10, true)]
      apply Stage2.step (Is (.bool r)) true [false, false, false, false, false, false, false, false, false, false, true, true] true false (Is.keeps _) (fun _ => Is.keeps _) (by kernel_rfl)
      · intro w1 h1
        have h1 : Ext _ w1 := h1
        simp only [List.nil_append, List.cons_append, List.map_cons, List.map_nil, Sp.pr, Given]
        rintro _ rfl
        rintro _ rfl
        go_wp2_with fail
        refine (header_Right ⟨q1, q2, by_, q4, q5, q6, XS⟩ (lW.ext mk_rep h1) HSW (by omega) HR2).mono ?_
        rintro e w2 ⟨rfl, hx2⟩
        go_wp2_with fail
        exact Post.isv hx2 rfl rfl rfl
      -- 13: Op.load 43 t20   [guarded: some (10, true)]
      apply Stage2.step (Is (hdV ⟨q1, q2, by_, q4, q5, q6, XS⟩ A5 n1 c5)) true [false, false, false, false, false, false, false, false, false, false, true] true false (Is.keeps _) (fun _ => Is.keeps _) (by kernel_rfl)
      · intro w1 h1
        have h1 : Ext _ w1 := h1
        simp only [List.nil_append, List.cons_append, List.map_cons, List.map_nil, Sp.pr, Given]
        rintro _ rfl
        have u0 := h1.cell x0
        have u1 := h1.cell x1
        have u2 := h1.cell x2
        have u3 := h1.cell x3
        have u4 := h1.cell x4
        have u5 := h1.cell x5
        have u6 := h1.cell x6
        go_wp2_with fail
        exact Post.isv (Ext.refl _) rfl rfl rfl
      -- 14: Op.call { value (Operand.func 22), args := #[t180], argTypes := #[43] }   [guarded: some (10, true)]
      apply Stage2.step (Is (.bool r)) true [false, false, false, false, false, false, false, false, false, false, true, false, false, true] true false (Is.keeps _) (fun _ => Is.keeps _) (by kernel_rfl)
      · intro w1 h1
        have h1 : Ext _ w1 := h1
        simp only [List.nil_append, List.cons_append, List.map_cons, List.map_nil, Sp.pr, Given]
        rintro _ rfl
        rintro _ rfl
        go_wp2_with fail
        refine (ref_RightHead ⟨q1, q2, by_, q4, q5, q6, XS⟩ (lW.ext mk_rep h1) HSW (by omega) HR2).mono ?_
        rintro e w2 ⟨rfl, hx2⟩
        go_wp2_with fail
        exact Post.isv hx2 rfl rfl rfl
      -- 15: Op.binOp BinOp.eql 4 t179 t181 4   [guarded: some (10, true)]
      apply Stage2.step (Is (.bool true)) true [false, false, false, false, false, false, false, false, false, false, true, false, true, false, true] true false (Is.keeps _) (fun _ => Is.keeps _) (by kernel_rfl)
      · intro w1 h1
        have h1 : Ext _ w1 := h1
        simp only [List.nil_append, List.cons_append, List.map_cons, List.map_nil, Sp.pr, Given]
        rintro _ rfl
        rintro _ rfl
        rintro _ rfl
        go_wp2_with fail
        exact Post.isv (Ext.refl _) rfl rfl rfl
      -- 16: Op.pick t177 t182 (const (Value.bool false))
      apply Stage2.step (Is (.bool true)) true [false, false, false, false, false, false, false, false, false, false, true, false, false, false, false, true] true false (Is.keeps _) (fun _ => Is.keeps _) (by kernel_rfl)
      · intro w1 h1
        have h1 : Ext _ w1 := h1
        simp only [List.nil_append, List.cons_append, List.map_cons, List.map_nil, Sp.pr, Given]
        rintro _ rfl
        rintro _ rfl
        go_wp2_with fail
        exact Post.isv (Ext.refl _) rfl rfl rfl
      -- 17: Op.move t183
      apply Stage2.step (Is _) true [false, false, false, false, false, false, false, false, false, false, false, false, false, false, false, false, true] true false (Is.keeps _) (fun _ => Is.keeps _) (by kernel_rfl)
      · intro w1 h1
        have h1 : Ext _ w1 := h1
        simp only [List.nil_append, List.cons_append, List.map_cons, List.map_nil, Sp.pr, Given]
        rintro _ rfl
        go_wp2_with fail
        exact Post.isv (Ext.refl _) rfl rfl rfl
      -- 18: Op.call { value (Operand.func 17), args := #[], argTypes := #[] }   [guarded: some (17, true)]
      apply Stage2.step (Is (.bool true)) true [false, false, false, false, false, false, false, false, false, false, false, false, false, false, false, false, false, true] true false (Is.keeps _) (fun _ => Is.keeps _) (by kernel_rfl)
      · intro w1 h1
        have h1 : Ext _ w1 := h1
        simp only [List.nil_append, List.cons_append, List.map_cons, List.map_nil, Sp.pr, Given]
        rintro _ rfl
        go_wp2_with fail
        refine (law8_known _).mono ?_
        rintro e w2 ⟨rfl, hx2⟩
        go_wp2_with fail
        exact Post.isv hx2 rfl rfl rfl
      -- 19: Op.pick t184 t185 (const (Value.bool false))
      apply Stage2.step (Is _) true [false, false, false, false, false, false, false, false, false, false, false, false, false, false, false, false, false, true, true] true false (Is.keeps _) (fun _ => Is.keeps _) (by kernel_rfl)
      · intro w1 h1
        have h1 : Ext _ w1 := h1
        simp only [List.nil_append, List.cons_append, List.map_cons, List.map_nil, Sp.pr, Given]
        rintro _ rfl
        rintro _ rfl
        go_wp2_with fail
        exact Post.isv (Ext.refl _) rfl rfl rfl
      -- 20: Op.assign t186
      apply Stage2.step (Is _) true [false, false, false, false, false, false, false, false, false, false, false, false, false, false, false, false, false, false, false, true] true false (Is.keeps _) (fun _ => Is.keeps _) (by kernel_rfl)
      · intro w1 h1
        have h1 : Ext _ w1 := h1
        simp only [List.nil_append, List.cons_append, List.map_cons, List.map_nil, Sp.pr, Given]
        rintro _ rfl
        go_wp2_with fail
        exact Post.isv (Ext.refl _) rfl rfl rfl
      apply Stage2.nil [true, true, true, true, true, true, true, true, true, true, true, true, true, true, true, true, true, true, true, true, true] (by kernel_rfl)
      intro w1 h1
      have h1 : (Ext) _ w1 := h1
      simp only [List.nil_append, List.cons_append, List.map_cons, List.map_nil, Sp.pr]
      refine Fin2.is_ ?_
      refine Fin2.is_ ?_
      refine Fin2.is_ ?_
      refine Fin2.is_ ?_
      refine Fin2.is_ ?_
      refine Fin2.is_ ?_
      refine Fin2.is_ ?_
      refine Fin2.is_ ?_
      refine Fin2.is_ ?_
      refine Fin2.is_ ?_
      refine Fin2.is_ ?_
      refine Fin2.is_ ?_
      refine Fin2.is_ ?_
      refine Fin2.is_ ?_
      refine Fin2.is_ ?_
      refine Fin2.is_ ?_
      refine Fin2.is_ ?_
      refine Fin2.is_ ?_
      refine Fin2.is_ ?_
      refine Fin2.is_ ?_
      refine Fin2.is_ ?_
      refine Fin2.nil_ ?_
      go_simp
      go_wp2_with fail
      go_ret
      exact ⟨rfl, gx7.trans h1⟩
    · have v0b : (e == 0) = false := by simpa using v0
      have v1b : (e == 1) = false := by simpa using v1
      have v2b : (e == 2) = false := by simpa using v2
      clear HE
      go_wp2_with (
        at_builtin
        rw [← hw4]
        refine wpList_append_flatB mk_rep (fun x cs w h => mk_nop h) rfl _ _ _ _ rfl w4.heap.size (by rw [World.size_alloc]; omega) TMk TMk im _ 40 under_mks under_mks him hm0 hm1 hm2 rfl _ 0 0 [] rfl (OwnL.nil _ _ _ _) A1 n1 c1 ps rfl ((l1.ext mk_rep gx4).ext mk_rep (Ext.alloc _ _)) n1 (by omega) ps rfl (by simp only [maxLen]; omega) (by omega) ?_
        intro A5 c5 w5 own5 hkeep hext hsz5
        have hx5 := hext w4 (Ext.alloc _ _) (Nat.le_refl _)
        have B5 := Lib.hid (blk_ext B4.out hx5)
        have q6c := blk_cell B5.out 6
        have q6f := blk_frozen B5.out 6
        have B6 : Hid ((w5.setCell ⟨w3.heap.size, 6, none⟩ (.slice A5 n1 c5)).heap[w3.heap.size]? = some (.cells (hdC ⟨q1, q2, q3, q4, q5, q6, ps⟩ A5 n1 c5) THd (0, 0))) := by
          unfold Hid
          have := blk_set B5.out 6 (.slice A5 n1 c5)
          simpa using this
        have own6 : OwnL TMk 4 mkR (w5.setCell ⟨w3.heap.size, 6, none⟩ (.slice A5 n1 c5)) w4.heap.size A5 n1 c5 ps := own5.farM (p := ⟨w3.heap.size, 6, none⟩) (fun g hg => by have := (own5.row_lt g hg).1; simp only; omega) _
        have gx6 : Ext w (w5.setCell ⟨w3.heap.size, 6, none⟩ (.slice A5 n1 c5)) := ((gx1.trans gx4).trans hx5).sets (p := ⟨w3.heap.size, 6, none⟩) hwb _
        have y6 := blk_cell B6.out 6
        clear hx5 B5 hkeep hext hsz5 own5
        have z5c := blk_cell B6.out 5
        have z5f := blk_frozen B6.out 5
        have BW : ((w5.setCell ⟨w3.heap.size, 6, none⟩ (.slice A5 n1 c5)).setCell ⟨w3.heap.size, 5, none⟩ (.int .i64 by_)).heap[w3.heap.size]? = some (.cells (hdC ⟨q1, q2, q3, q4, q5, by_, ps⟩ A5 n1 c5) THd (0, 0)) := by
          have := blk_set B6.out 5 (.int .i64 by_)
          simpa using this
        have ownW := own6.farM (p := ⟨w3.heap.size, 5, none⟩) (fun g hg => by have := (own6.row_lt g hg).1; simp only; omega) (.int .i64 by_)
        have gxW := gx6.sets (p := ⟨w3.heap.size, 5, none⟩) hwb (.int .i64 by_)
        have x0 := blk_cell BW 0
        have x1 := blk_cell BW 1
        have x2 := blk_cell BW 2
        have x3 := blk_cell BW 3
        have x4 := blk_cell BW 4
        have x5 := blk_cell BW 5
        have x6 := blk_cell BW 6
        have lW := ownW.lst
        have GXW := Lib.hid gxW
        clear ownW gxW BW own6 B6 gx6
        )
      obtain ⟨wf, hwf⟩ : ∃ q, q = (w5.setCell ⟨w3.heap.size, 6, none⟩ (.slice A5 n1 c5)).setCell ⟨w3.heap.size, 5, none⟩ (.int .i64 by_) := ⟨_, rfl⟩
      rw [← hwf] at x0 x1 x2 x3 x4 x5 x6 lW GXW
      rw [← hwf]
      clear hwf
      have HSW : Hid (Shorts (ps)) := HSH.out
      obtain ⟨XS, hXS⟩ : ∃ X, ps = X := ⟨_, rfl⟩
      rw [hXS] at lW HSW
      clear hXS
      obtain ⟨r, hr⟩ : ∃ q, rightH ⟨q1, q2, q3, q4, q5, by_, XS⟩ = q := ⟨_, rfl⟩
      have HR2 := Lib.hid hr
      obtain ⟨M, hM⟩ : ∃ q, putHr ⟨q1, q2, q3, q4, q5, by_, XS⟩ r = q := ⟨_, rfl⟩
      have HM2 := Lib.hid hM
      clear hr hM
      refine (header_Put ⟨q1, q2, q3, q4, q5, by_, XS⟩ lW HSW (by omega) HR2 HM2).mono ?_
      rintro e w7 ⟨A7, n7, c7, rfl, hb7, hx7⟩
      obtain ⟨er, her⟩ : ∃ q : Int, (if r = true then (0 : Int) else 1) = q := ⟨_, rfl⟩
      rw [her]
      have HER := Lib.hid her
      clear her
      replace x0 := hx7.cell x0
      replace x1 := hx7.cell x1
      replace x2 := hx7.cell x2
      replace x3 := hx7.cell x3
      replace x4 := hx7.cell x4
      replace x5 := hx7.cell x5
      replace x6 := hx7.cell x6
      have gx7 := GXW.out.trans hx7
      replace lW := lW.ext mk_rep hx7
      clear GXW hx7
      go_wp2_with fail
      refine (ref_PutHead ⟨q1, q2, q3, q4, q5, by_, XS⟩ lW HSW (by omega) HR2 HM2).mono ?_
      rintro e w8 ⟨A8, n8, c8, rfl, hb8, hx8⟩
      rw [HER.out]
      replace x0 := hx8.cell x0
      replace x1 := hx8.cell x1
      replace x2 := hx8.cell x2
      replace x3 := hx8.cell x3
      replace x4 := hx8.cell x4
      replace x5 := hx8.cell x5
      replace x6 := hx8.cell x6
      replace gx7 := gx7.trans hx8
      replace lW := lW.ext mk_rep hx8
      have tb7 := hb7.sl.ext hx8
      have tb8 := hb8.sl
      clear hx8 hb7 hb8 HER HM2
      go_wp2_with fail
      refine wp_region_typed2 (R := But w8.heap.size (fun _ => False)) Ext.steady (But.steady _ _) (fun _ _ => But.of_ext) rfl 187 rfl [0, 1, 0, 4, 15, 31, 63, 63, 255, 511, 1023, 2047, 4095, 2047, 16383, 32767, 65535, 131071, 262143, 524287, 1048575] 0 (by kernel_rfl) ?_
      -- 0: Op.move t22
      apply Stage2.step (Is _) true [] true false (Is.keeps _) (fun _ => Is.keeps _) (by kernel_rfl)
      · intro w1 h1
        have h1 : Ext _ w1 := h1
        simp only [List.nil_append, List.cons_append, List.map_cons, List.map_nil, Given]
        go_wp2_with fail
        exact Post.isv (Ext.refl _) rfl rfl rfl
      -- 1: Op.convert 23 9 t167
      apply Stage2.step (Is (.string ⟨M.toArray⟩)) true [true] true false (Is.keeps _) (fun _ => Is.keeps _) (by kernel_rfl)
      · intro w1 h1
        have h1 : Ext _ w1 := h1
        simp only [List.nil_append, List.cons_append, List.map_cons, List.map_nil, Sp.pr, Given]
        rintro _ rfl
        have tx := run_text_u8 (tb7.ext h1)
        go_wp2_with fail
        exact Post.isv (Ext.refl _) rfl rfl rfl
      -- 2: Op.move t24
      apply Stage2.step (Is _) true [] true false (Is.keeps _) (fun _ => Is.keeps _) (by kernel_rfl)
      · intro w1 h1
        have h1 : Ext _ w1 := h1
        simp only [List.nil_append, List.cons_append, List.map_cons, List.map_nil, Given]
        go_wp2_with fail
        exact Post.isv (Ext.refl _) rfl rfl rfl
      -- 3: Op.convert 23 9 t169
      apply Stage2.step (Is (.string ⟨M.toArray⟩)) true [false, false, true] true false (Is.keeps _) (fun _ => Is.keeps _) (by kernel_rfl)
      · intro w1 h1
        have h1 : Ext _ w1 := h1
        simp only [List.nil_append, List.cons_append, List.map_cons, List.map_nil, Sp.pr, Given]
        rintro _ rfl
        have tx := run_text_u8 (tb8.ext h1)
        go_wp2_with fail
        exact Post.isv (Ext.refl _) rfl rfl rfl
      -- 4: Op.binOp BinOp.eql 9 t168 t170 9
      apply Stage2.step (Is (.bool true)) true [false, true, false, true] true false (Is.keeps _) (fun _ => Is.keeps _) (by kernel_rfl)
      · intro w1 h1
        have h1 : Ext _ w1 := h1
        simp only [List.nil_append, List.cons_append, List.map_cons, List.map_nil, Sp.pr, Given]
        rintro _ rfl
        rintro _ rfl
        go_wp2_with fail
        exact Post.isv (Ext.refl _) rfl rfl rfl
      -- 5: Op.move t171
      apply Stage2.step (Is _) true [false, false, false, false, true] true false (Is.keeps _) (fun _ => Is.keeps _) (by kernel_rfl)
      · intro w1 h1
        have h1 : Ext _ w1 := h1
        simp only [List.nil_append, List.cons_append, List.map_cons, List.map_nil, Sp.pr, Given]
        rintro _ rfl
        go_wp2_with fail
        exact Post.isv (Ext.refl _) rfl rfl rfl
      -- 6: Op.move t23   [guarded: some (5, true)]
      apply Stage2.step (Is _) true [false, false, false, false, false, true] true false (Is.keeps _) (fun _ => Is.keeps _) (by kernel_rfl)
      · intro w1 h1
        have h1 : Ext _ w1 := h1
        simp only [List.nil_append, List.cons_append, List.map_cons, List.map_nil, Sp.pr, Given]
        rintro _ rfl
        go_wp2_with fail
        exact Post.isv (Ext.refl _) rfl rfl rfl
      -- 7: Op.move t25   [guarded: some (5, true)]
      apply Stage2.step (Is _) true [false, false, false, false, false, true] true false (Is.keeps _) (fun _ => Is.keeps _) (by kernel_rfl)
      · intro w1 h1
        have h1 : Ext _ w1 := h1
        simp only [List.nil_append, List.cons_append, List.map_cons, List.map_nil, Sp.pr, Given]
        rintro _ rfl
        go_wp2_with fail
        exact Post.isv (Ext.refl _) rfl rfl rfl
      -- 8: Op.binOp BinOp.eql 31 t173 t174 31   [guarded: some (5, true)]
      apply Stage2.step (Is (.bool true)) true [false, false, false, false, false, true, true, true] true false (Is.keeps _) (fun _ => Is.keeps _) (by kernel_rfl)
      · intro w1 h1
        have h1 : Ext _ w1 := h1
        simp only [List.nil_append, List.cons_append, List.map_cons, List.map_nil, Sp.pr, Given]
        rintro _ rfl
        rintro _ rfl
        rintro _ rfl
        go_wp2_with fail
        exact Post.isv (Ext.refl _) rfl rfl rfl
      -- 9: Op.pick t172 t175 (const (Value.bool false))
      apply Stage2.step (Is (.bool true)) true [false, false, false, false, false, true, false, false, true] true false (Is.keeps _) (fun _ => Is.keeps _) (by kernel_rfl)
      · intro w1 h1
        have h1 : Ext _ w1 := h1
        simp only [List.nil_append, List.cons_append, List.map_cons, List.map_nil, Sp.pr, Given]
        rintro _ rfl
        rintro _ rfl
        go_wp2_with fail
        exact Post.isv (Ext.refl _) rfl rfl rfl
      -- 10: Op.move t176
      apply Stage2.step (Is _) true [false, false, false, false, false, false, false, false, false, true] true false (Is.keeps _) (fun _ => Is.keeps _) (by kernel_rfl)
      · intro w1 h1
        have h1 : Ext _ w1 := h1
        simp only [List.nil_append, List.cons_append, List.map_cons, List.map_nil, Sp.pr, Given]
        rintro _ rfl
        go_wp2_with fail
        exact Post.isv (Ext.refl _) rfl rfl rfl
      -- 11: Op.load 43 t20   [guarded: some (10, true)]
      apply Stage2.step (Is (hdV ⟨q1, q2, q3, q4, q5, by_, XS⟩ A5 n1 c5)) true [false, false, false, false, false, false, false, false, false, false, true] true false (Is.keeps _) (fun _ => Is.keeps _) (by kernel_rfl)
      · intro w1 h1
        have h1 : Ext _ w1 := h1
        simp only [List.nil_append, List.cons_append, List.map_cons, List.map_nil, Sp.pr, Given]
        rintro _ rfl
        have u0 := h1.cell x0
        have u1 := h1.cell x1
        have u2 := h1.cell x2
        have u3 := h1.cell x3
        have u4 := h1.cell x4
        have u5 := h1.cell x5
        have u6 := h1.cell x6
        go_wp2_with fail
        exact Post.isv (Ext.refl _) rfl rfl rfl
      -- 12: Op.call { value (Operand.func 21), args := #[t178], argTypes := #[43] }   [guarded: some (10, true)]
      apply Stage2.step (Is (.bool r)) true [false, false, false, false, false, false, false, false, false, false, true, true] true false (Is.keeps _) (fun _ => Is.keeps _) (by kernel_rfl)
      · intro w1 h1
        have h1 : Ext _ w1 := h1
        simp only [List.nil_append, List.cons_append, List.map_cons, List.map_nil, Sp.pr, Given]
        rintro _ rfl
        rintro _ rfl
        go_wp2_with fail
        refine (header_Right ⟨q1, q2, q3, q4, q5, by_, XS⟩ (lW.ext mk_rep h1) HSW (by omega) HR2).mono ?_
        rintro e w2 ⟨rfl, hx2⟩
        go_wp2_with fail
        exact Post.isv hx2 rfl rfl rfl
      -- 13: Op.load 43 t20   [guarded: some (10, true)]
      apply Stage2.step (Is (hdV ⟨q1, q2, q3, q4, q5, by_, XS⟩ A5 n1 c5)) true [false, false, false, false, false, false, false, false, false, false, true] true false (Is.keeps _) (fun _ => Is.keeps _) (by kernel_rfl)
      · intro w1 h1
        have h1 : Ext _ w1 := h1
        simp only [List.nil_append, List.cons_append, List.map_cons, List.map_nil, Sp.pr, Given]
        rintro _ rfl
        have u0 := h1.cell x0
        have u1 := h1.cell x1
        have u2 := h1.cell x2
        have u3 := h1.cell x3
        have u4 := h1.cell x4
        have u5 := h1.cell x5
        have u6 := h1.cell x6
        go_wp2_with fail
        exact Post.isv (Ext.refl _) rfl rfl rfl
      -- 14: Op.call { value (Operand.func 22), args := #[t180], argTypes := #[43] }   [guarded: some (10, true)]
      apply Stage2.step (Is (.bool r)) true [false, false, false, false, false, false, false, false, false, false, true, false, false, true] true false (Is.keeps _) (fun _ => Is.keeps _) (by kernel_rfl)
      · intro w1 h1
        have h1 : Ext _ w1 := h1
        simp only [List.nil_append, List.cons_append, List.map_cons, List.map_nil, Sp.pr, Given]
        rintro _ rfl
        rintro _ rfl
        go_wp2_with fail
        refine (ref_RightHead ⟨q1, q2, q3, q4, q5, by_, XS⟩ (lW.ext mk_rep h1) HSW (by omega) HR2).mono ?_
        rintro e w2 ⟨rfl, hx2⟩
        go_wp2_with fail
        exact Post.isv hx2 rfl rfl rfl
      -- 15: Op.binOp BinOp.eql 4 t179 t181 4   [guarded: some (10, true)]
      apply Stage2.step (Is (.bool true)) true [false, false, false, false, false, false, false, false, false, false, true, false, true, false, true] true false (Is.keeps _) (fun _ => Is.keeps _) (by kernel_rfl)
      · intro w1 h1
        have h1 : Ext _ w1 := h1
        simp only [List.nil_append, List.cons_append, List.map_cons, List.map_nil, Sp.pr, Given]
        rintro _ rfl
        rintro _ rfl
        rintro _ rfl
        go_wp2_with fail
        exact Post.isv (Ext.refl _) rfl rfl rfl
      -- 16: Op.pick t177 t182 (const (Value.bool false))
      apply Stage2.step (Is (.bool true)) true [false, false, false, false, false, false, false, false, false, false, true, false, false, false, false, true] true false (Is.keeps _) (fun _ => Is.keeps _) (by kernel_rfl)
      · intro w1 h1
        have h1 : Ext _ w1 := h1
        simp only [List.nil_append, List.cons_append, List.map_cons, List.map_nil, Sp.pr, Given]
        rintro _ rfl
        rintro _ rfl
        go_wp2_with fail
        exact Post.isv (Ext.refl _) rfl rfl rfl
      -- 17: Op.move t183
      apply Stage2.step (Is _) true [false, false, false, false, false, false, false, false, false, false, false, false, false, false, false, false, true] true false (Is.keeps _) (fun _ => Is.keeps _) (by kernel_rfl)
      · intro w1 h1
        have h1 : Ext _ w1 := h1
        simp only [List.nil_append, List.cons_append, List.map_cons, List.map_nil, Sp.pr, Given]
        rintro _ rfl
        go_wp2_with fail
        exact Post.isv (Ext.refl _) rfl rfl rfl
      -- 18: Op.call { value (Operand.func 17), args := #[], argTypes := #[] }   [guarded: some (17, true)]
      apply Stage2.step (Is (.bool true)) true [false, false, false, false, false, false, false, false, false, false, false, false, false, false, false, false, false, true] true false (Is.keeps _) (fun _ => Is.keeps _) (by kernel_rfl)
      · intro w1 h1
        have h1 : Ext _ w1 := h1
        simp only [List.nil_append, List.cons_append, List.map_cons, List.map_nil, Sp.pr, Given]
        rintro _ rfl
        go_wp2_with fail
        refine (law8_known _).mono ?_
        rintro e w2 ⟨rfl, hx2⟩
        go_wp2_with fail
        exact Post.isv hx2 rfl rfl rfl
      -- 19: Op.pick t184 t185 (const (Value.bool false))
      apply Stage2.step (Is _) true [false, false, false, false, false, false, false, false, false, false, false, false, false, false, false, false, false, true, true] true false (Is.keeps _) (fun _ => Is.keeps _) (by kernel_rfl)
      · intro w1 h1
        have h1 : Ext _ w1 := h1
        simp only [List.nil_append, List.cons_append, List.map_cons, List.map_nil, Sp.pr, Given]
        rintro _ rfl
        rintro _ rfl
        go_wp2_with fail
        exact Post.isv (Ext.refl _) rfl rfl rfl
      -- 20: Op.assign t186
      apply Stage2.step (Is _) true [false, false, false, false, false, false, false, false, false, false, false, false, false, false, false, false, false, false, false, true] true false (Is.keeps _) (fun _ => Is.keeps _) (by kernel_rfl)
      · intro w1 h1
        have h1 : Ext _ w1 := h1
        simp only [List.nil_append, List.cons_append, List.map_cons, List.map_nil, Sp.pr, Given]
        rintro _ rfl
        go_wp2_with fail
        exact Post.isv (Ext.refl _) rfl rfl rfl
      apply Stage2.nil [true, true, true, true, true, true, true, true, true, true, true, true, true, true, true, true, true, true, true, true, true] (by kernel_rfl)
      intro w1 h1
      have h1 : (Ext) _ w1 := h1
      simp only [List.nil_append, List.cons_append, List.map_cons, List.map_nil, Sp.pr]
      refine Fin2.is_ ?_
      refine Fin2.is_ ?_
      refine Fin2.is_ ?_
      refine Fin2.is_ ?_
      refine Fin2.is_ ?_
      refine Fin2.is_ ?_
      refine Fin2.is_ ?_
      refine Fin2.is_ ?_
      refine Fin2.is_ ?_
      refine Fin2.is_ ?_
      refine Fin2.is_ ?_
      refine Fin2.is_ ?_
      refine Fin2.is_ ?_
      refine Fin2.is_ ?_
      refine Fin2.is_ ?_
      refine Fin2.is_ ?_
      refine Fin2.is_ ?_
      refine Fin2.is_ ?_
      refine Fin2.is_ ?_
      refine Fin2.is_ ?_
      refine Fin2.is_ ?_
      refine Fin2.nil_ ?_
      go_simp
      go_wp2_with fail
      go_ret
      exact ⟨rfl, gx7.trans h1⟩
  · obtain ⟨k, hkk, hkl⟩ : ∃ k : Nat, (f : Int) % (n1 : Int) = (k : Int) ∧ k < n1 := ⟨f % n1, by simp, Nat.mod_lt _ (by omega)⟩
    have hn0b : ((n1 : Int) == 0) = false := by simp; omega
    rcases HE.out with rfl | rfl | rfl | rfl | rfl | rfl | rfl | rfl
    · skip
      go_wp2_with (
        at_builtin
        rw [← hw4]
        refine wpList_append_flatB mk_rep (fun x cs w h => mk_nop h) rfl _ _ _ _ rfl w4.heap.size (by rw [World.size_alloc]; omega) TMk TMk im _ 40 under_mks under_mks him hm0 hm1 hm2 rfl _ 0 0 [] rfl (OwnL.nil _ _ _ _) A1 n1 c1 ps rfl ((l1.ext mk_rep gx4).ext mk_rep (Ext.alloc _ _)) n1 (by omega) ps rfl (by simp only [maxLen]; omega) (by omega) ?_
        intro A5 c5 w5 own5 hkeep hext hsz5
        have hx5 := hext w4 (Ext.alloc _ _) (Nat.le_refl _)
        have B5 := Lib.hid (blk_ext B4.out hx5)
        have q6c := blk_cell B5.out 6
        have q6f := blk_frozen B5.out 6
        have B6 : Hid ((w5.setCell ⟨w3.heap.size, 6, none⟩ (.slice A5 n1 c5)).heap[w3.heap.size]? = some (.cells (hdC ⟨q1, q2, q3, q4, q5, q6, ps⟩ A5 n1 c5) THd (0, 0))) := by
          unfold Hid
          have := blk_set B5.out 6 (.slice A5 n1 c5)
          simpa using this
        have own6 : OwnL TMk 4 mkR (w5.setCell ⟨w3.heap.size, 6, none⟩ (.slice A5 n1 c5)) w4.heap.size A5 n1 c5 ps := own5.farM (p := ⟨w3.heap.size, 6, none⟩) (fun g hg => by have := (own5.row_lt g hg).1; simp only; omega) _
        have gx6 : Ext w (w5.setCell ⟨w3.heap.size, 6, none⟩ (.slice A5 n1 c5)) := ((gx1.trans gx4).trans hx5).sets (p := ⟨w3.heap.size, 6, none⟩) hwb _
        have y6 := blk_cell B6.out 6
        clear hx5 B5 hkeep hext hsz5 own5
        have z0c := blk_cell B6.out 0
        have z0f := blk_frozen B6.out 0
        have BW : ((w5.setCell ⟨w3.heap.size, 6, none⟩ (.slice A5 n1 c5)).setCell ⟨w3.heap.size, 0, none⟩ (.int .i64 by_)).heap[w3.heap.size]? = some (.cells (hdC ⟨by_, q2, q3, q4, q5, q6, ps⟩ A5 n1 c5) THd (0, 0)) := by
          have := blk_set B6.out 0 (.int .i64 by_)
          simpa using this
        have ownW := own6.farM (p := ⟨w3.heap.size, 0, none⟩) (fun g hg => by have := (own6.row_lt g hg).1; simp only; omega) (.int .i64 by_)
        have gxW := gx6.sets (p := ⟨w3.heap.size, 0, none⟩) hwb (.int .i64 by_)
        have x0 := blk_cell BW 0
        have x1 := blk_cell BW 1
        have x2 := blk_cell BW 2
        have x3 := blk_cell BW 3
        have x4 := blk_cell BW 4
        have x5 := blk_cell BW 5
        have x6 := blk_cell BW 6
        have lW := ownW.lst
        have GXW := Lib.hid gxW
        clear ownW gxW BW own6 B6 gx6
        )
      obtain ⟨wf, hwf⟩ : ∃ q, q = (w5.setCell ⟨w3.heap.size, 6, none⟩ (.slice A5 n1 c5)).setCell ⟨w3.heap.size, 0, none⟩ (.int .i64 by_) := ⟨_, rfl⟩
      rw [← hwf] at x0 x1 x2 x3 x4 x5 x6 lW GXW
      rw [← hwf]
      clear hwf
      have HSW : Hid (Shorts (ps)) := HSH.out
      obtain ⟨XS, hXS⟩ : ∃ X, ps = X := ⟨_, rfl⟩
      rw [hXS] at lW HSW
      clear hXS
      obtain ⟨r, hr⟩ : ∃ q, rightH ⟨by_, q2, q3, q4, q5, q6, XS⟩ = q := ⟨_, rfl⟩
      have HR2 := Lib.hid hr
      obtain ⟨M, hM⟩ : ∃ q, putHr ⟨by_, q2, q3, q4, q5, q6, XS⟩ r = q := ⟨_, rfl⟩
      have HM2 := Lib.hid hM
      clear hr hM
      refine (header_Put ⟨by_, q2, q3, q4, q5, q6, XS⟩ lW HSW (by omega) HR2 HM2).mono ?_
      rintro e w7 ⟨A7, n7, c7, rfl, hb7, hx7⟩
      obtain ⟨er, her⟩ : ∃ q : Int, (if r = true then (0 : Int) else 1) = q := ⟨_, rfl⟩
      rw [her]
      have HER := Lib.hid her
      clear her
      replace x0 := hx7.cell x0
      replace x1 := hx7.cell x1
      replace x2 := hx7.cell x2
      replace x3 := hx7.cell x3
      replace x4 := hx7.cell x4
      replace x5 := hx7.cell x5
      replace x6 := hx7.cell x6
      have gx7 := GXW.out.trans hx7
      replace lW := lW.ext mk_rep hx7
      clear GXW hx7
      go_wp2_with fail
      refine (ref_PutHead ⟨by_, q2, q3, q4, q5, q6, XS⟩ lW HSW (by omega) HR2 HM2).mono ?_
      rintro e w8 ⟨A8, n8, c8, rfl, hb8, hx8⟩
      rw [HER.out]
      replace x0 := hx8.cell x0
      replace x1 := hx8.cell x1
      replace x2 := hx8.cell x2
      replace x3 := hx8.cell x3
      replace x4 := hx8.cell x4
      replace x5 := hx8.cell x5
      replace x6 := hx8.cell x6
      replace gx7 := gx7.trans hx8
      replace lW := lW.ext mk_rep hx8
      have tb7 := hb7.sl.ext hx8
      have tb8 := hb8.sl
      clear hx8 hb7 hb8 HER HM2
      go_wp2_with fail
      refine wp_region_typed2 (R := But w8.heap.size (fun _ => False)) Ext.steady (But.steady _ _) (fun _ _ => But.of_ext) rfl 187 rfl [0, 1, 0, 4, 15, 31, 63, 63, 255, 511, 1023, 2047, 4095, 2047, 16383, 32767, 65535, 131071, 262143, 524287, 1048575] 0 (by kernel_rfl) ?_
      -- 0: Op.move t22
      apply Stage2.step (Is _) true [] true false (Is.keeps _) (fun _ => Is.keeps _) (by kernel_rfl)
      · intro w1 h1
        have h1 : Ext _ w1 := h1
        simp only [List.nil_append, List.cons_append, List.map_cons, List.map_nil, Given]
        go_wp2_with fail
        exact Post.isv (Ext.refl _) rfl rfl rfl
      -- 1: Op.convert 23 9 t167
      apply Stage2.step (Is (.string ⟨M.toArray⟩)) true [true] true false (Is.keeps _) (fun _ => Is.keeps _) (by kernel_rfl)
      · intro w1 h1
        have h1 : Ext _ w1 := h1
        simp only [List.nil_append, List.cons_append, List.map_cons, List.map_nil, Sp.pr, Given]
        rintro _ rfl
        have tx := run_text_u8 (tb7.ext h1)
        go_wp2_with fail
        exact Post.isv (Ext.refl _) rfl rfl rfl
      -- 2: Op.move t24
      apply Stage2.step (Is _) true [] true false (Is.keeps _) (fun _ => Is.keeps _) (by kernel_rfl)
      · intro w1 h1
        have h1 : Ext _ w1 := h1
        simp only [List.nil_append, List.cons_append, List.map_cons, List.map_nil, Given]
        go_wp2_with fail
        exact Post.isv (Ext.refl _) rfl rfl rfl
      -- 3: Op.convert 23 9 t169
      apply Stage2.step (Is (.string ⟨M.toArray⟩)) true [false, false, true] true false (Is.keeps _) (fun _ => Is.keeps _) (by kernel_rfl)
      · intro w1 h1
        have h1 : Ext _ w1 := h1
        simp only [List.nil_append, List.cons_append, List.map_cons, List.map_nil, Sp.pr, Given]
        rintro _ rfl
        have tx := run_text_u8 (tb8.ext h1)
        go_wp2_with fail
        exact Post.isv (Ext.refl _) rfl rfl rfl
      -- 4: Op.binOp BinOp.eql 9 t168 t170 9
      apply Stage2.step (Is (.bool true)) true [false, true, false, true] true false (Is.keeps _) (fun _ => Is.keeps _) (by kernel_rfl)
      · intro w1 h1
        have h1 : Ext _ w1 := h1
        simp only [List.nil_append, List.cons_append, List.map_cons, List.map_nil, Sp.pr, Given]
        rintro _ rfl
        rintro _ rfl
        go_wp2_with fail
        exact Post.isv (Ext.refl _) rfl rfl rfl
      -- 5: Op.move t171
      apply Stage2.step (Is _) true [false, false, false, false, true] true false (Is.keeps _) (fun _ => Is.keeps _) (by kernel_rfl)
      · intro w1 h1
        have h1 : Ext _ w1 := h1
        simp only [List.nil_append, List.cons_append, List.map_cons, List.map_nil, Sp.pr, Given]
        rintro _ rfl
        go_wp2_with fail
        exact Post.isv (Ext.refl _) rfl rfl rfl
      -- 6: Op.move t23   [guarded: some (5, true)]
      apply Stage2.step (Is _) true [false, false, false, false, false, true] true false (Is.keeps _) (fun _ => Is.keeps _) (by kernel_rfl)
      · intro w1 h1
        have h1 : Ext _ w1 := h1
        simp only [List.nil_append, List.cons_append, List.map_cons, List.map_nil, Sp.pr, Given]
        rintro _ rfl
        go_wp2_with fail
        exact Post.isv (Ext.refl _) rfl rfl rfl
      -- 7: Op.move t25   [guarded: some (5, true)]
      apply Stage2.step (Is _) true [false, false, false, false, false, true] true false (Is.keeps _) (fun _ => Is.keeps _) (by kernel_rfl)
      · intro w1 h1
        have h1 : Ext _ w1 := h1
        simp only [List.nil_append, List.cons_append, List.map_cons, List.map_nil, Sp.pr, Given]
        rintro _ rfl
        go_wp2_with fail
        exact Post.isv (Ext.refl _) rfl rfl rfl
      -- 8: Op.binOp BinOp.eql 31 t173 t174 31   [guarded: some (5, true)]
      apply Stage2.step (Is (.bool true)) true [false, false, false, false, false, true, true, true] true false (Is.keeps _) (fun _ => Is.keeps _) (by kernel_rfl)
      · intro w1 h1
        have h1 : Ext _ w1 := h1
        simp only [List.nil_append, List.cons_append, List.map_cons, List.map_nil, Sp.pr, Given]
        rintro _ rfl
        rintro _ rfl
        rintro _ rfl
        go_wp2_with fail
        exact Post.isv (Ext.refl _) rfl rfl rfl
      -- 9: Op.pick t172 t175 (const (Value.bool false))
      apply Stage2.step (Is (.bool true)) true [false, false, false, false, false, true, false, false, true] true false (Is.keeps _) (fun _ => Is.keeps _) (by kernel_rfl)
      · intro w1 h1
        have h1 : Ext _ w1 := h1
        simp only [List.nil_append, List.cons_append, List.map_cons, List.map_nil, Sp.pr, Given]
        rintro _ rfl
        rintro _ rfl
        go_wp2_with fail
        exact Post.isv (Ext.refl _) rfl rfl rfl
      -- 10: Op.move t176
      apply Stage2.step (Is _) true [false, false, false, false, false, false, false, false, false, true] true false (Is.keeps _) (fun _ => Is.keeps _) (by kernel_rfl)
      · intro w1 h1
        have h1 : Ext _ w1 := h1
        simp only [List.nil_append, List.cons_append, List.map_cons, List.map_nil, Sp.pr, Given]
        rintro _ rfl
        go_wp2_with fail
        exact Post.isv (Ext.refl _) rfl rfl rfl
      -- 11: Op.load 43 t20   [guarded: some (10, true)]
      apply Stage2.step (Is (hdV ⟨by_, q2, q3, q4, q5, q6, XS⟩ A5 n1 c5)) true [false, false, false, false, false, false, false, false, false, false, true] true false (Is.keeps _) (fun _ => Is.keeps _) (by kernel_rfl)
      · intro w1 h1
        have h1 : Ext _ w1 := h1
        simp only [List.nil_append, List.cons_append, List.map_cons, List.map_nil, Sp.pr, Given]
        rintro _ rfl
        have u0 := h1.cell x0
        have u1 := h1.cell x1
        have u2 := h1.cell x2
        have u3 := h1.cell x3
        have u4 := h1.cell x4
        have u5 := h1.cell x5
        have u6 := h1.cell x6
        go_wp2_with fail
        exact Post.isv (Ext.refl _) rfl rfl rfl
      -- 12: Op.call { value (Operand.func 21), args := #[t178], argTypes := #[43] }   [guarded: some (10, true)]
      apply Stage2.step (Is (.bool r)) true [false, false, false, false, false, false, false, false, false, false, true, true] true false (Is.keeps _) (fun _ => Is.keeps _) (by kernel_rfl)
      · intro w1 h1
        have h1 : Ext _ w1 := h1
        simp only [List.nil_append, List.cons_append, List.map_cons, List.map_nil, Sp.pr, Given]
        rintro _ rfl
        rintro _ rfl
        go_wp2_with fail
        refine (header_Right ⟨by_, q2, q3, q4, q5, q6, XS⟩ (lW.ext mk_rep h1) HSW (by omega) HR2).mono ?_
        rintro e w2 ⟨rfl, hx2⟩
        go_wp2_with fail
        exact Post.isv hx2 rfl rfl rfl
      -- 13: Op.load 43 t20   [guarded: some (10, true)]
      apply Stage2.step (Is (hdV ⟨by_, q2, q3, q4, q5, q6, XS⟩ A5 n1 c5)) true [false, false, false, false, false, false, false, false, false, false, true] true false (Is.keeps _) (fun _ => Is.keeps _) (by kernel_rfl)
      · intro w1 h1
        have h1 : Ext _ w1 := h1
        simp only [List.nil_append, List.cons_append, List.map_cons, List.map_nil, Sp.pr, Given]
        rintro _ rfl
        have u0 := h1.cell x0
        have u1 := h1.cell x1
        have u2 := h1.cell x2
        have u3 := h1.cell x3
        have u4 := h1.cell x4
        have u5 := h1.cell x5
        have u6 := h1.cell x6
        go_wp2_with fail
        exact Post.isv (Ext.refl _) rfl rfl rfl
      -- 14: Op.call { value (Operand.func 22), args := #[t180], argTypes := #[43] }   [guarded: some (10, true)]
      apply Stage2.step (Is (.bool r)) true [false, false, false, false, false, false, false, false, false, false, true, false, false, true] true false (Is.keeps _) (fun _ => Is.keeps _) (by kernel_rfl)
      · intro w1 h1
        have h1 : Ext _ w1 := h1
        simp only [List.nil_append, List.cons_append, List.map_cons, List.map_nil, Sp.pr, Given]
        rintro _ rfl
        rintro _ rfl
        go_wp2_with fail
        refine (ref_RightHead ⟨by_, q2, q3, q4, q5, q6, XS⟩ (lW.ext mk_rep h1) HSW (by omega) HR2).mono ?_
        rintro e w2 ⟨rfl, hx2⟩
        go_wp2_with fail
        exact Post.isv hx2 rfl rfl rfl
      -- 15: Op.binOp BinOp.eql 4 t179 t181 4   [guarded: some (10, true)]
      apply Stage2.step (Is (.bool true)) true [false, false, false, false, false, false, false, false, false, false, true, false, true, false, true] true false (Is.keeps _) (fun _ => Is.keeps _) (by kernel_rfl)
      · intro w1 h1
        have h1 : Ext _ w1 := h1
        simp only [List.nil_append, List.cons_append, List.map_cons, List.map_nil, Sp.pr, Given]
        rintro _ rfl
        rintro _ rfl
        rintro _ rfl
        go_wp2_with fail
        exact Post.isv (Ext.refl _) rfl rfl rfl
      -- 16: Op.pick t177 t182 (const (Value.bool false))
      apply Stage2.step (Is (.bool true)) true [false, false, false, false, false, false, false, false, false, false, true, false, false, false, false, true] true false (Is.keeps _) (fun _ => Is.keeps _) (by kernel_rfl)
      · intro w1 h1
        have h1 : Ext _ w1 := h1
        simp only [List.nil_append, List.cons_append, List.map_cons, List.map_nil, Sp.pr, Given]
        rintro _ rfl
        rintro _ rfl
        go_wp2_with fail
        exact Post.isv (Ext.refl _) rfl rfl rfl
      -- 17: Op.move t183
      apply Stage2.step (Is _) true [false, false, false, false, false, false, false, false, false, false, false, false, false, false, false, false, true] true false (Is.keeps _) (fun _ => Is.keeps _) (by kernel_rfl)
      · intro w1 h1
        have h1 : Ext _ w1 := h1
        simp only [List.nil_append, List.cons_append, List.map_cons, List.map_nil, Sp.pr, Given]
        rintro _ rfl
        go_wp2_with fail
        exact Post.isv (Ext.refl _) rfl rfl rfl
      -- 18: Op.call { value (Operand.func 17), args := #[], argTypes := #[] }   [guarded: some (17, true)]
      apply Stage2.step (Is (.bool true)) true [false, false, false, false, false, false, false, false, false, false, false, false, false, false, false, false, false, true] true false (Is.keeps _) (fun _ => Is.keeps _) (by kernel_rfl)
      · intro w1 h1
        have h1 : Ext _ w1 := h1
        simp only [List.nil_append, List.cons_append, List.map_cons, List.map_nil, Sp.pr, Given]
        rintro _ rfl
        go_wp2_with fail
        refine (law8_known _).mono ?_
        rintro e w2 ⟨rfl, hx2⟩
        go_wp2_with fail
        exact Post.isv hx2 rfl rfl rfl
      -- 19: Op.pick t184 t185 (const (Value.bool false))
      apply Stage2.step (Is _) true [false, false, false, false, false, false, false, false, false, false, false, false, false, false, false, false, false, true, true] true false (Is.keeps _) (fun _ => Is.keeps _) (by kernel_rfl)
      · intro w1 h1
        have h1 : Ext _ w1 := h1
        simp only [List.nil_append, List.cons_append, List.map_cons, List.map_nil, Sp.pr, Given]
        rintro _ rfl
        rintro _ rfl
        go_wp2_with fail
        exact Post.isv (Ext.refl _) rfl rfl rfl
      -- 20: Op.assign t186
      apply Stage2.step (Is _) true [false, false, false, false, false, false, false, false, false, false, false, false, false, false, false, false, false, false, false, true] true false (Is.keeps _) (fun _ => Is.keeps _) (by kernel_rfl)
      · intro w1 h1
        have h1 : Ext _ w1 := h1
        simp only [List.nil_append, List.cons_append, List.map_cons, List.map_nil, Sp.pr, Given]
        rintro _ rfl
        go_wp2_with fail
        exact Post.isv (Ext.refl _) rfl rfl rfl
      apply Stage2.nil [true, true, true, true, true, true, true, true, true, true, true, true, true, true, true, true, true, true, true, true, true] (by kernel_rfl)
      intro w1 h1
      have h1 : (Ext) _ w1 := h1
      simp only [List.nil_append, List.cons_append, List.map_cons, List.map_nil, Sp.pr]
      refine Fin2.is_ ?_
      refine Fin2.is_ ?_
      refine Fin2.is_ ?_
      refine Fin2.is_ ?_
      refine Fin2.is_ ?_
      refine Fin2.is_ ?_
      refine Fin2.is_ ?_
      refine Fin2.is_ ?_
      refine Fin2.is_ ?_
      refine Fin2.is_ ?_
      refine Fin2.is_ ?_
      refine Fin2.is_ ?_
      refine Fin2.is_ ?_
      refine Fin2.is_ ?_
      refine Fin2.is_ ?_
      refine Fin2.is_ ?_
      refine Fin2.is_ ?_
      refine Fin2.is_ ?_
      refine Fin2.is_ ?_
      refine Fin2.is_ ?_
      refine Fin2.is_ ?_
      refine Fin2.nil_ ?_
      go_simp
      go_wp2_with fail
      go_ret
      exact ⟨rfl, gx7.trans h1⟩
    · skip
      go_wp2_with (
        at_builtin
        rw [← hw4]
        refine wpList_append_flatB mk_rep (fun x cs w h => mk_nop h) rfl _ _ _ _ rfl w4.heap.size (by rw [World.size_alloc]; omega) TMk TMk im _ 40 under_mks under_mks him hm0 hm1 hm2 rfl _ 0 0 [] rfl (OwnL.nil _ _ _ _) A1 n1 c1 ps rfl ((l1.ext mk_rep gx4).ext mk_rep (Ext.alloc _ _)) n1 (by omega) ps rfl (by simp only [maxLen]; omega) (by omega) ?_
        intro A5 c5 w5 own5 hkeep hext hsz5
        have hx5 := hext w4 (Ext.alloc _ _) (Nat.le_refl _)
        have B5 := Lib.hid (blk_ext B4.out hx5)
        have q6c := blk_cell B5.out 6
        have q6f := blk_frozen B5.out 6
        have B6 : Hid ((w5.setCell ⟨w3.heap.size, 6, none⟩ (.slice A5 n1 c5)).heap[w3.heap.size]? = some (.cells (hdC ⟨q1, q2, q3, q4, q5, q6, ps⟩ A5 n1 c5) THd (0, 0))) := by
          unfold Hid
          have := blk_set B5.out 6 (.slice A5 n1 c5)
          simpa using this
        have own6 : OwnL TMk 4 mkR (w5.setCell ⟨w3.heap.size, 6, none⟩ (.slice A5 n1 c5)) w4.heap.size A5 n1 c5 ps := own5.farM (p := ⟨w3.heap.size, 6, none⟩) (fun g hg => by have := (own5.row_lt g hg).1; simp only; omega) _
        have gx6 : Ext w (w5.setCell ⟨w3.heap.size, 6, none⟩ (.slice A5 n1 c5)) := ((gx1.trans gx4).trans hx5).sets (p := ⟨w3.heap.size, 6, none⟩) hwb _
        have y6 := blk_cell B6.out 6
        clear hx5 B5 hkeep hext hsz5 own5
        have z4c := blk_cell B6.out 4
        have z4f := blk_frozen B6.out 4
        have BW : ((w5.setCell ⟨w3.heap.size, 6, none⟩ (.slice A5 n1 c5)).setCell ⟨w3.heap.size, 4, none⟩ (.int .i64 by_)).heap[w3.heap.size]? = some (.cells (hdC ⟨q1, q2, q3, q4, by_, q6, ps⟩ A5 n1 c5) THd (0, 0)) := by
          have := blk_set B6.out 4 (.int .i64 by_)
          simpa using this
        have ownW := own6.farM (p := ⟨w3.heap.size, 4, none⟩) (fun g hg => by have := (own6.row_lt g hg).1; simp only; omega) (.int .i64 by_)
        have gxW := gx6.sets (p := ⟨w3.heap.size, 4, none⟩) hwb (.int .i64 by_)
        have x0 := blk_cell BW 0
        have x1 := blk_cell BW 1
        have x2 := blk_cell BW 2
        have x3 := blk_cell BW 3
        have x4 := blk_cell BW 4
        have x5 := blk_cell BW 5
        have x6 := blk_cell BW 6
        have lW := ownW.lst
        have GXW := Lib.hid gxW
        clear ownW gxW BW own6 B6 gx6
        )
      obtain ⟨wf, hwf⟩ : ∃ q, q = (w5.setCell ⟨w3.heap.size, 6, none⟩ (.slice A5 n1 c5)).setCell ⟨w3.heap.size, 4, none⟩ (.int .i64 by_) := ⟨_, rfl⟩
      rw [← hwf] at x0 x1 x2 x3 x4 x5 x6 lW GXW
      rw [← hwf]
      clear hwf
      have HSW : Hid (Shorts (ps)) := HSH.out
      obtain ⟨XS, hXS⟩ : ∃ X, ps = X := ⟨_, rfl⟩
      rw [hXS] at lW HSW
      clear hXS
      obtain ⟨r, hr⟩ : ∃ q, rightH ⟨q1, q2, q3, q4, by_, q6, XS⟩ = q := ⟨_, rfl⟩
      have HR2 := Lib.hid hr
      obtain ⟨M, hM⟩ : ∃ q, putHr ⟨q1, q2, q3, q4, by_, q6, XS⟩ r = q := ⟨_, rfl⟩
      have HM2 := Lib.hid hM
      clear hr hM
      refine (header_Put ⟨q1, q2, q3, q4, by_, q6, XS⟩ lW HSW (by omega) HR2 HM2).mono ?_
      rintro e w7 ⟨A7, n7, c7, rfl, hb7, hx7⟩
      obtain ⟨er, her⟩ : ∃ q : Int, (if r = true then (0 : Int) else 1) = q := ⟨_, rfl⟩
      rw [her]
      have HER := Lib.hid her
      clear her
      replace x0 := hx7.cell x0
      replace x1 := hx7.cell x1
      replace x2 := hx7.cell x2
      replace x3 := hx7.cell x3
      replace x4 := hx7.cell x4
      replace x5 := hx7.cell x5
      replace x6 := hx7.cell x6
      have gx7 := GXW.out.trans hx7
      replace lW := lW.ext mk_rep hx7
      clear GXW hx7
      go_wp2_with fail
      refine (ref_PutHead ⟨q1, q2, q3, q4, by_, q6, XS⟩ lW HSW (by omega) HR2 HM2).mono ?_
      rintro e w8 ⟨A8, n8, c8, rfl, hb8, hx8⟩
      rw [HER.out]
      replace x0 := hx8.cell x0
      replace x1 := hx8.cell x1
      replace x2 := hx8.cell x2
      replace x3 := hx8.cell x3
      replace x4 := hx8.cell x4
      replace x5 := hx8.cell x5
      replace x6 := hx8.cell x6
      replace gx7 := gx7.trans hx8
      replace lW := lW.ext mk_rep hx8
      have tb7 := hb7.sl.ext hx8
      have tb8 := hb8.sl
      clear hx8 hb7 hb8 HER HM2
      go_wp2_with fail
      refine wp_region_typed2 (R := But w8.heap.size (fun _ => False)) Ext.steady (But.steady _ _) (fun _ _ => But.of_ext) rfl 187 rfl [0, 1, 0, 4, 15, 31, 63, 63, 255, 511, 1023, 2047, 4095, 2047, 16383, 32767, 65535, 131071, 262143, 524287, 1048575] 0 (by kernel_rfl) ?_
      -- 0: Op.move t22
      apply Stage2.step (Is _) true [] true false (Is.keeps _) (fun _ => Is.keeps _) (by kernel_rfl)
      · intro w1 h1
        have h1 : Ext _ w1 := h1
        simp only [List.nil_append, List.cons_append, List.map_cons, List.map_nil, Given]
        go_wp2_with fail
        exact Post.isv (Ext.refl _) rfl rfl rfl
      -- 1: Op.convert 23 9 t167
      apply Stage2.step (Is (.string ⟨M.toArray⟩)) true [true] true false (Is.keeps _) (fun _ => Is.keeps _) (by kernel_rfl)
      · intro w1 h1
        have h1 : Ext _ w1 := h1
        simp only [List.nil_append, List.cons_append, List.map_cons, List.map_nil, Sp.pr, Given]
        rintro _ rfl
        have tx := run_text_u8 (tb7.ext h1)
        go_wp2_with fail
        exact Post.isv (Ext.refl _) rfl rfl rfl
      -- 2: Op.move t24
      apply Stage2.step (Is _) true [] true false (Is.keeps _) (fun _ => Is.keeps _) (by kernel_rfl)
      · intro w1 h1
        have h1 : Ext _ w1 := h1
        simp only [List.nil_append, List.cons_append, List.map_cons, List.map_nil, Given]
        go_wp2_with fail
        exact Post.isv (Ext.refl _) rfl rfl rfl
      -- 3: Op.convert 23 9 t169
      apply Stage2.step (Is (.string ⟨M.toArray⟩)) true [false, false, true] true false (Is.keeps _) (fun _ => Is.keeps _) (by kernel_rfl)
      · intro w1 h1
        have h1 : Ext _ w1 := h1
        simp only [List.nil_append, List.cons_append, List.map_cons, List.map_nil, Sp.pr, Given]
        rintro _ rfl
        have tx := run_text_u8 (tb8.ext h1)
        go_wp2_with fail
        exact Post.isv (Ext.refl _) rfl rfl rfl
      -- 4: Op.binOp BinOp.eql 9 t168 t170 9
      apply Stage2.step (Is (.bool true)) true [false, true, false, true] true false (Is.keeps _) (fun _ => Is.keeps _) (by kernel_rfl)
      · intro w1 h1
        have h1 : Ext _ w1 := h1
        simp only [List.nil_append, List.cons_append, List.map_cons, List.map_nil, Sp.pr, Given]
        rintro _ rfl
        rintro _ rfl
        go_wp2_with fail
        exact Post.isv (Ext.refl _) rfl rfl rfl
      -- 5: Op.move t171
      apply Stage2.step (Is _) true [false, false, false, false, true] true false (Is.keeps _) (fun _ => Is.keeps _) (by kernel_rfl)
      · intro w1 h1
        have h1 : Ext _ w1 := h1
        simp only [List.nil_append, List.cons_append, List.map_cons, List.map_nil, Sp.pr, Given]
        rintro _ rfl
        go_wp2_with fail
        exact Post.isv (Ext.refl _) rfl rfl rfl
      -- 6: Op.move t23   [guarded: some (5, true)]
      apply Stage2.step (Is _) true [false, false, false, false, false, true] true false (Is.keeps _) (fun _ => Is.keeps _) (by kernel_rfl)
      · intro w1 h1
        have h1 : Ext _ w1 := h1
        simp only [List.nil_append, List.cons_append, List.map_cons, List.map_nil, Sp.pr, Given]
        rintro _ rfl
        go_wp2_with fail
        exact Post.isv (Ext.refl _) rfl rfl rfl
      -- 7: Op.move t25   [guarded: some (5, true)]
      apply Stage2.step (Is _) true [false, false, false, false, false, true] true false (Is.keeps _) (fun _ => Is.keeps _) (by kernel_rfl)
      · intro w1 h1
        have h1 : Ext _ w1 := h1
        simp only [List.nil_append, List.cons_append, List.map_cons, List.map_nil, Sp.pr, Given]
        rintro _ rfl
        go_wp2_with fail
        exact Post.isv (Ext.refl _) rfl rfl rfl
      -- 8: Op.binOp BinOp.eql 31 t173 t174 31   [guarded: some (5, true)]
      apply Stage2.step (Is (.bool true)) true [false, false, false, false, false, true, true, true] true false (Is.keeps _) (fun _ => Is.keeps _) (by kernel_rfl)
      · intro w1 h1
        have h1 : Ext _ w1 := h1
        simp only [List.nil_append, List.cons_append, List.map_cons, List.map_nil, Sp.pr, Given]
        rintro _ rfl
        rintro _ rfl
        rintro _ rfl
        go_wp2_with fail
        exact Post.isv (Ext.refl _) rfl rfl rfl
      -- 9: Op.pick t172 t175 (const (Value.bool false))
      apply Stage2.step (Is (.bool true)) true [false, false, false, false, false, true, false, false, true] true false (Is.keeps _) (fun _ => Is.keeps _) (by kernel_rfl)
      · intro w1 h1
        have h1 : Ext _ w1 := h1
        simp only [List.nil_append, List.cons_append, List.map_cons, List.map_nil, Sp.pr, Given]
        rintro _ rfl
        rintro _ rfl
        go_wp2_with fail
        exact Post.isv (Ext.refl _) rfl rfl rfl
      -- 10: Op.move t176
      apply Stage2.step (Is _) true [false, false, false, false, false, false, false, false, false, true] true false (Is.keeps _) (fun _ => Is.keeps _) (by kernel_rfl)
      · intro w1 h1
        have h1 : Ext _ w1 := h1
        simp only [List.nil_append, List.cons_append, List.map_cons, List.map_nil, Sp.pr, Given]
        rintro _ rfl
        go_wp2_with fail
        exact Post.isv (Ext.refl _) rfl rfl rfl
      -- 11: Op.load 43 t20   [guarded: some (10, true)]
      apply Stage2.step (Is (hdV ⟨q1, q2, q3, q4, by_, q6, XS⟩ A5 n1 c5)) true [false, false, false, false, false, false, false, false, false, false, true] true false (Is.keeps _) (fun _ => Is.keeps _) (by kernel_rfl)
      · intro w1 h1
        have h1 : Ext _ w1 := h1
        simp only [List.nil_append, List.cons_append, List.map_cons, List.map_nil, Sp.pr, Given]
        rintro _ rfl
        have u0 := h1.cell x0
        have u1 := h1.cell x1
        have u2 := h1.cell x2
        have u3 := h1.cell x3
        have u4 := h1.cell x4
        have u5 := h1.cell x5
        have u6 := h1.cell x6
        go_wp2_with fail
        exact Post.isv (Ext.refl _) rfl rfl rfl
      -- 12: Op.call { value (Operand.func 21), args := #[t178], argTypes := #[43] }   [guarded: some (10, true)]
      apply Stage2.step (Is (.bool r)) true [false, false, false, false, false, false, false, false, false, false, true, true] true false (Is.keeps _) (fun _ => Is.keeps _) (by kernel_rfl)
      · intro w1 h1
        have h1 : Ext _ w1 := h1
        simp only [List.nil_append, List.cons_append, List.map_cons, List.map_nil, Sp.pr, Given]
        rintro _ rfl
        rintro _ rfl
        go_wp2_with fail
        refine (header_Right ⟨q1, q2, q3, q4, by_, q6, XS⟩ (lW.ext mk_rep h1) HSW (by omega) HR2).mono ?_
        rintro e w2 ⟨rfl, hx2⟩
        go_wp2_with fail
        exact Post.isv hx2 rfl rfl rfl
      -- 13: Op.load 43 t20   [guarded: some (10, true)]
      apply Stage2.step (Is (hdV ⟨q1, q2, q3, q4, by_, q6, XS⟩ A5 n1 c5)) true [false, false, false, false, false, false, false, false, false, false, true] true false (Is.keeps _) (fun _ => Is.keeps _) (by kernel_rfl)
      · intro w1 h1
        have h1 : Ext _ w1 := h1
        simp only [List.nil_append, List.cons_append, List.map_cons, List.map_nil, Sp.pr, Given]
        rintro _ rfl
        have u0 := h1.cell x0
        have u1 := h1.cell x1
        have u2 := h1.cell x2
        have u3 := h1.cell x3
        have u4 := h1.cell x4
        have u5 := h1.cell x5
        have u6 := h1.cell x6
        go_wp2_with fail
        exact Post.isv (Ext.refl _) rfl rfl rfl
      -- 14: Op.call { value (Operand.func 22), args := #[t180], argTypes := #[43] }   [guarded: some (10, true)]
      apply Stage2.step (Is (.bool r)) true [false, false, false, false, false, false, false, false, false, false, true, false, false, true] true false (Is.keeps _) (fun _ => Is.keeps _) (by kernel_rfl)
      · intro w1 h1
        have h1 : Ext _ w1 := h1
        simp only [List.nil_append, List.cons_append, List.map_cons, List.map_nil, Sp.pr, Given]
        rintro _ rfl
        rintro _ rfl
        go_wp2_with fail
        refine (ref_RightHead ⟨q1, q2, q3, q4, by_, q6, XS⟩ (lW.ext mk_rep h1) HSW (by omega) HR2).mono ?_
        rintro e w2 ⟨rfl, hx2⟩
        go_wp2_with fail
        exact Post.isv hx2 rfl rfl rfl
      -- 15: Op.binOp BinOp.eql 4 t179 t181 4   [guarded: some (10, true)]
      apply Stage2.step (Is (.bool true)) true [false, false, false, false, false, false, false, false, false, false, true, false, true, false, true] true false (Is.keeps _) (fun _ => Is.keeps _) (by kernel_rfl)
      · intro w1 h1
        have h1 : Ext _ w1 := h1
        simp only [List.nil_append, List.cons_append, List.map_cons, List.map_nil, Sp.pr, Given]
        rintro _ rfl
        rintro _ rfl
        rintro _ rfl
        go_wp2_with fail
        exact Post.isv (Ext.refl _) rfl rfl rfl
      -- 16: Op.pick t177 t182 (const (Value.bool false))
      apply Stage2.step (Is (.bool true)) true [false, false, false, false, false, false, false, false, false, false, true, false, false, false, false, true] true false (Is.keeps _) (fun _ => Is.keeps _) (by kernel_rfl)
      · intro w1 h1
        have h1 : Ext _ w1 := h1
        simp only [List.nil_append, List.cons_append, List.map_cons, List.map_nil, Sp.pr, Given]
        rintro _ rfl
        rintro _ rfl
        go_wp2_with fail
        exact Post.isv (Ext.refl _) rfl rfl rfl
      -- 17: Op.move t183
      apply Stage2.step (Is _) true [false, false, false, false, false, false, false, false, false, false, false, false, false, false, false, false, true] true false (Is.keeps _) (fun _ => Is.keeps _) (by kernel_rfl)
      · intro w1 h1
        have h1 : Ext _ w1 := h1
        simp only [List.nil_append, List.cons_append, List.map_cons, List.map_nil, Sp.pr, Given]
        rintro _ rfl
        go_wp2_with fail
        exact Post.isv (Ext.refl _) rfl rfl rfl
      -- 18: Op.call { value (Operand.func 17), args := #[], argTypes := #[] }   [guarded: some (17, true)]
      apply Stage2.step (Is (.bool true)) true [false, false, false, false, false, false, false, false, false, false, false, false, false, false, false, false, false, true] true false (Is.keeps _) (fun _ => Is.keeps _) (by kernel_rfl)
      · intro w1 h1
        have h1 : Ext _ w1 := h1
        simp only [List.nil_append, List.cons_append, List.map_cons, List.map_nil, Sp.pr, Given]
        rintro _ rfl
        go_wp2_with fail
        refine (law8_known _).mono ?_
        rintro e w2 ⟨rfl, hx2⟩
        go_wp2_with fail
        exact Post.isv hx2 rfl rfl rfl
      -- 19: Op.pick t184 t185 (const (Value.bool false))
      apply Stage2.step (Is _) true [false, false, false, false, false, false, false, false, false, false, false, false, false, false, false, false, false, true, true] true false (Is.keeps _) (fun _ => Is.keeps _) (by kernel_rfl)
      · intro w1 h1
        have h1 : Ext _ w1 := h1
        simp only [List.nil_append, List.cons_append, List.map_cons, List.map_nil, Sp.pr, Given]
        rintro _ rfl
        rintro _ rfl
        go_wp2_with fail
        exact Post.isv (Ext.refl _) rfl rfl rfl
      -- 20: Op.assign t186
      apply Stage2.step (Is _) true [false, false, false, false, false, false, false, false, false, false, false, false, false, false, false, false, false, false, false, true] true false (Is.keeps _) (fun _ => Is.keeps _) (by kernel_rfl)
      · intro w1 h1
        have h1 : Ext _ w1 := h1
        simp only [List.nil_append, List.cons_append, List.map_cons, List.map_nil, Sp.pr, Given]
        rintro _ rfl
        go_wp2_with fail
        exact Post.isv (Ext.refl _) rfl rfl rfl
      apply Stage2.nil [true, true, true, true, true, true, true, true, true, true, true, true, true, true, true, true, true, true, true, true, true] (by kernel_rfl)
      intro w1 h1
      have h1 : (Ext) _ w1 := h1
      simp only [List.nil_append, List.cons_append, List.map_cons, List.map_nil, Sp.pr]
      refine Fin2.is_ ?_
      refine Fin2.is_ ?_
      refine Fin2.is_ ?_
      refine Fin2.is_ ?_
      refine Fin2.is_ ?_
      refine Fin2.is_ ?_
      refine Fin2.is_ ?_
      refine Fin2.is_ ?_
      refine Fin2.is_ ?_
      refine Fin2.is_ ?_
      refine Fin2.is_ ?_
      refine Fin2.is_ ?_
      refine Fin2.is_ ?_
      refine Fin2.is_ ?_
      refine Fin2.is_ ?_
      refine Fin2.is_ ?_
      refine Fin2.is_ ?_
      refine Fin2.is_ ?_
      refine Fin2.is_ ?_
      refine Fin2.is_ ?_
      refine Fin2.is_ ?_
      refine Fin2.nil_ ?_
      go_simp
      go_wp2_with fail
      go_ret
      exact ⟨rfl, gx7.trans h1⟩
    · skip
      go_wp2_with (
        at_builtin
        rw [← hw4]
        refine wpList_append_flatB mk_rep (fun x cs w h => mk_nop h) rfl _ _ _ _ rfl w4.heap.size (by rw [World.size_alloc]; omega) TMk TMk im _ 40 under_mks under_mks him hm0 hm1 hm2 rfl _ 0 0 [] rfl (OwnL.nil _ _ _ _) A1 n1 c1 ps rfl ((l1.ext mk_rep gx4).ext mk_rep (Ext.alloc _ _)) n1 (by omega) ps rfl (by simp only [maxLen]; omega) (by omega) ?_
        intro A5 c5 w5 own5 hkeep hext hsz5
        have hx5 := hext w4 (Ext.alloc _ _) (Nat.le_refl _)
        have B5 := Lib.hid (blk_ext B4.out hx5)
        have q6c := blk_cell B5.out 6
        have q6f := blk_frozen B5.out 6
        have B6 : Hid ((w5.setCell ⟨w3.heap.size, 6, none⟩ (.slice A5 n1 c5)).heap[w3.heap.size]? = some (.cells (hdC ⟨q1, q2, q3, q4, q5, q6, ps⟩ A5 n1 c5) THd (0, 0))) := by
          unfold Hid
          have := blk_set B5.out 6 (.slice A5 n1 c5)
          simpa using this
        have own6 : OwnL TMk 4 mkR (w5.setCell ⟨w3.heap.size, 6, none⟩ (.slice A5 n1 c5)) w4.heap.size A5 n1 c5 ps := own5.farM (p := ⟨w3.heap.size, 6, none⟩) (fun g hg => by have := (own5.row_lt g hg).1; simp only; omega) _
        have gx6 : Ext w (w5.setCell ⟨w3.heap.size, 6, none⟩ (.slice A5 n1 c5)) := ((gx1.trans gx4).trans hx5).sets (p := ⟨w3.heap.size, 6, none⟩) hwb _
        have y6 := blk_cell B6.out 6
        clear hx5 B5 hkeep hext hsz5 own5
        have z2c := blk_cell B6.out 2
        have z2f := blk_frozen B6.out 2
        have BW : ((w5.setCell ⟨w3.heap.size, 6, none⟩ (.slice A5 n1 c5)).setCell ⟨w3.heap.size, 2, none⟩ (.int .i64 by_)).heap[w3.heap.size]? = some (.cells (hdC ⟨q1, q2, by_, q4, q5, q6, ps⟩ A5 n1 c5) THd (0, 0)) := by
          have := blk_set B6.out 2 (.int .i64 by_)
          simpa using this
        have ownW := own6.farM (p := ⟨w3.heap.size, 2, none⟩) (fun g hg => by have := (own6.row_lt g hg).1; simp only; omega) (.int .i64 by_)
        have gxW := gx6.sets (p := ⟨w3.heap.size, 2, none⟩) hwb (.int .i64 by_)
        have x0 := blk_cell BW 0
        have x1 := blk_cell BW 1
        have x2 := blk_cell BW 2
        have x3 := blk_cell BW 3
        have x4 := blk_cell BW 4
        have x5 := blk_cell BW 5
        have x6 := blk_cell BW 6
        have lW := ownW.lst
        have GXW := Lib.hid gxW
        clear ownW gxW BW own6 B6 gx6
        )
      obtain ⟨wf, hwf⟩ : ∃ q, q = (w5.setCell ⟨w3.heap.size, 6, none⟩ (.slice A5 n1 c5)).setCell ⟨w3.heap.size, 2, none⟩ (.int .i64 by_) := ⟨_, rfl⟩
      rw [← hwf] at x0 x1 x2 x3 x4 x5 x6 lW GXW
      rw [← hwf]
      clear hwf
      have HSW : Hid (Shorts (ps)) := HSH.out
      obtain ⟨XS, hXS⟩ : ∃ X, ps = X := ⟨_, rfl⟩
      rw [hXS] at lW HSW
      clear hXS
      obtain ⟨r, hr⟩ : ∃ q, rightH ⟨q1, q2, by_, q4, q5, q6, XS⟩ = q := ⟨_, rfl⟩
      have HR2 := Lib.hid hr
      obtain ⟨M, hM⟩ : ∃ q, putHr ⟨q1, q2, by_, q4, q5, q6, XS⟩ r = q := ⟨_, rfl⟩
      have HM2 := Lib.hid hM
      clear hr hM
      refine (header_Put ⟨q1, q2, by_, q4, q5, q6, XS⟩ lW HSW (by omega) HR2 HM2).mono ?_
      rintro e w7 ⟨A7, n7, c7, rfl, hb7, hx7⟩
      obtain ⟨er, her⟩ : ∃ q : Int, (if r = true then (0 : Int) else 1) = q := ⟨_, rfl⟩
      rw [her]
      have HER := Lib.hid her
      clear her
      replace x0 := hx7.cell x0
      replace x1 := hx7.cell x1
      replace x2 := hx7.cell x2
      replace x3 := hx7.cell x3
      replace x4 := hx7.cell x4
      replace x5 := hx7.cell x5
      replace x6 := hx7.cell x6
      have gx7 := GXW.out.trans hx7
      replace lW := lW.ext mk_rep hx7
      clear GXW hx7
      go_wp2_with fail
      refine (ref_PutHead ⟨q1, q2, by_, q4, q5, q6, XS⟩ lW HSW (by omega) HR2 HM2).mono ?_
      rintro e w8 ⟨A8, n8, c8, rfl, hb8, hx8⟩
      rw [HER.out]
      replace x0 := hx8.cell x0
      replace x1 := hx8.cell x1
      replace x2 := hx8.cell x2
      replace x3 := hx8.cell x3
      replace x4 := hx8.cell x4
      replace x5 := hx8.cell x5
      replace x6 := hx8.cell x6
      replace gx7 := gx7.trans hx8
      replace lW := lW.ext mk_rep hx8
      have tb7 := hb7.sl.ext hx8
      have tb8 := hb8.sl
      clear hx8 hb7 hb8 HER HM2
      go_wp2_with fail
      refine wp_region_typed2 (R := But w8.heap.size (fun _ => False)) Ext.steady (But.steady _ _) (fun _ _ => But.of_ext) rfl 187 rfl [0, 1, 0, 4, 15, 31, 63, 63, 255, 511, 1023, 2047, 4095, 2047, 16383, 32767, 65535, 131071, 262143, 524287, 1048575] 0 (by kernel_rfl) ?_
      -- 0: Op.move t22
      apply Stage2.step (Is _) true [] true false (Is.keeps _) (fun _ => Is.keeps _) (by kernel_rfl)
      · intro w1 h1
        have h1 : Ext _ w1 := h1
        simp only [List.nil_append, List.cons_append, List.map_cons, List.map_nil, Given]
        go_wp2_with fail
        exact Post.isv (Ext.refl _) rfl rfl rfl
      -- 1: Op.convert 23 9 t167
      apply Stage2.step (Is (.string ⟨M.toArray⟩)) true [true] true false (Is.keeps _) (fun _ => Is.keeps _) (by kernel_rfl)
      · intro w1 h1
        have h1 : Ext _ w1 := h1
        simp only [List.nil_append, List.cons_append, List.map_cons, List.map_nil, Sp.pr, Given]
        rintro _ rfl
        have tx := run_text_u8 (tb7.ext h1)
        go_wp2_with fail
        exact Post.isv (Ext.refl _) rfl rfl rfl
      -- 2: Op.move t24
      apply Stage2.step (Is _) true [] true false (Is.keeps _) (fun _ => Is.keeps _) (by kernel_rfl)
      · intro w1 h1
        have h1 : Ext _ w1 := h1
        simp only [List.nil_append, List.cons_append, List.map_cons, List.map_nil, Given]
        go_wp2_with fail
        exact Post.isv (Ext.refl _) rfl rfl rfl
      -- 3: Op.convert 23 9 t169
      apply Stage2.step (Is (.string ⟨M.toArray⟩)) true [false, false, true] true false (Is.keeps _) (fun _ => Is.keeps _) (by kernel_rfl)
      · intro w1 h1
        have h1 : Ext _ w1 := h1
        simp only [List.nil_append, List.cons_append, List.map_cons, List.map_nil, Sp.pr, Given]
        rintro _ rfl
        have tx := run_text_u8 (tb8.ext h1)
        go_wp2_with fail
        exact Post.isv (Ext.refl _) rfl rfl rfl
      -- 4: Op.binOp BinOp.eql 9 t168 t170 9
      apply Stage2.step (Is (.bool true)) true [false, true, false, true] true false (Is.keeps _) (fun _ => Is.keeps _) (by kernel_rfl)
      · intro w1 h1
        have h1 : Ext _ w1 := h1
        simp only [List.nil_append, List.cons_append, List.map_cons, List.map_nil, Sp.pr, Given]
        rintro _ rfl
        rintro _ rfl
        go_wp2_with fail
        exact Post.isv (Ext.refl _) rfl rfl rfl
      -- 5: Op.move t171
      apply Stage2.step (Is _) true [false, false, false, false, true] true false (Is.keeps _) (fun _ => Is.keeps _) (by kernel_rfl)
      · intro w1 h1
        have h1 : Ext _ w1 := h1
        simp only [List.nil_append, List.cons_append, List.map_cons, List.map_nil, Sp.pr, Given]
        rintro _ rfl
        go_wp2_with fail
        exact Post.isv (Ext.refl _) rfl rfl rfl
      -- 6: Op.move t23   [guarded: some (5, true)]
      apply Stage2.step (Is _) true [false, false, false, false, false, true] true false (Is.keeps _) (fun _ => Is.keeps _) (by kernel_rfl)
      · intro w1 h1
        have h1 : Ext _ w1 := h1
        simp only [List.nil_append, List.cons_append, List.map_cons, List.map_nil, Sp.pr, Given]
        rintro _ rfl
        go_wp2_with fail
        exact Post.isv (Ext.refl _) rfl rfl rfl
      -- 7: Op.move t25   [guarded: some (5, true)]
      apply Stage2.step (Is _) true [false, false, false, false, false, true] true false (Is.keeps _) (fun _ => Is.keeps _) (by kernel_rfl)
      · intro w1 h1
        have h1 : Ext _ w1 := h1
        simp only [List.nil_append, List.cons_append, List.map_cons, List.map_nil, Sp.pr, Given]
        rintro _ rfl
        go_wp2_with fail
        exact Post.isv (Ext.refl _) rfl rfl rfl
      -- 8: Op.binOp BinOp.eql 31 t173 t174 31   [guarded: some (5, true)]
      apply Stage2.step (Is (.bool true)) true [false, false, false, false, false, true, true, true] true false (Is.keeps _) (fun _ => Is.keeps _) (by kernel_rfl)
      · intro w1 h1
        have h1 : Ext _ w1 := h1
        simp only [List.nil_append, List.cons_append, List.map_cons, List.map_nil, Sp.pr, Given]
        rintro _ rfl
        rintro _ rfl
        rintro _ rfl
        go_wp2_with fail
        exact Post.isv (Ext.refl _) rfl rfl rfl
      -- 9: Op.pick t172 t175 (const (Value.bool false))
      apply Stage2.step (Is (.bool true)) true [false, false, false, false, false, true, false, false, true] true false (Is.keeps _) (fun _ => Is.keeps _) (by kernel_rfl)
      · intro w1 h1
        have h1 : Ext _ w1 := h1
        simp only [List.nil_append, List.cons_append, List.map_cons, List.map_nil, Sp.pr, Given]
        rintro _ rfl
        rintro _ rfl
        go_wp2_with fail
        exact Post.isv (Ext.refl _) rfl rfl rfl
      -- 10: Op.move t176
      apply Stage2.step (Is _) true [false, false, false, false, false, false, false, false, false, true] true false (Is.keeps _) (fun _ => Is.keeps _) (by kernel_rfl)
      · intro w1 h1
        have h1 : Ext _ w1 := h1
        simp only [List.nil_append, List.cons_append, List.map_cons, List.map_nil, Sp.pr, Given]
        rintro _ rfl
        go_wp2_with fail
        exact Post.isv (Ext.refl _) rfl rfl rfl
      -- 11: Op.load 43 t20   [guarded: some (10, true)]
      apply Stage2.step (Is (hdV ⟨q1, q2, by_, q4, q5, q6, XS⟩ A5 n1 c5)) true [false, false, false, false, false, false, false, false, false, false, true] true false (Is.keeps _) (fun _ => Is.keeps _) (by kernel_rfl)
      · intro w1 h1
        have h1 : Ext _ w1 := h1
        simp only [List.nil_append, List.cons_append, List.map_cons, List.map_nil, Sp.pr, Given]
        rintro _ rfl
        have u0 := h1.cell x0
        have u1 := h1.cell x1
        have u2 := h1.cell x2
        have u3 := h1.cell x3
        have u4 := h1.cell x4
        have u5 := h1.cell x5
        have u6 := h1.cell x6
        go_wp2_with fail
        exact Post.isv (Ext.refl _) rfl rfl rfl
      -- 12: Op.call { value (Operand.func 21), args := #[t178], argTypes := #[43] }   [guarded: some (10, true)]
      apply Stage2.step (Is (.bool r)) true [false, false, false, false, false, false, false, false, false, false, true, true] true false (Is.keeps _) (fun _ => Is.keeps _) (by kernel_rfl)
      · intro w1 h1
        have h1 : Ext _ w1 := h1
        simp only [List.nil_append, List.cons_append, List.map_cons, List.map_nil, Sp.pr, Given]
        rintro _ rfl
        rintro _ rfl
        go_wp2_with fail
        refine (header_Right ⟨q1, q2, by_, q4, q5, q6, XS⟩ (lW.ext mk_rep h1) HSW (by omega) HR2).mono ?_
        rintro e w2 ⟨rfl, hx2⟩
        go_wp2_with fail
        exact Post.isv hx2 rfl rfl rfl
      -- 13: Op.load 43 t20   [guarded: some (10, true)]
      apply Stage2.step (Is (hdV ⟨q1, q2, by_, q4, q5, q6, XS⟩ A5 n1 c5)) true [false, false, false, false, false, false, false, false, false, false, true] true false (Is.keeps _) (fun _ => Is.keeps _) (by kernel_rfl)
      · intro w1 h1
        have h1 : Ext _ w1 := h1
        simp only [List.nil_append, List.cons_append, List.map_cons, List.map_nil, Sp.pr, Given]
        rintro _ rfl
        have u0 := h1.cell x0
        have u1 := h1.cell x1
        have u2 := h1.cell x2
        have u3 := h1.cell x3
        have u4 := h1.cell x4
        have u5 := h1.cell x5
        have u6 := h1.cell x6
        go_wp2_with fail
        exact Post.isv (Ext.refl _) rfl rfl rfl
      -- 14: Op.call { value (Operand.func 22), args := #[t180], argTypes := #[43] }   [guarded: some (10, true)]
      apply Stage2.step (Is (.bool r)) true [false, false, false, false, false, false, false, false, false, false, true, false, false, true] true false (Is.keeps _) (fun _ => Is.keeps _) (by kernel_rfl)
      · intro w1 h1
        have h1 : Ext _ w1 := h1
        simp only [List.nil_append, List.cons_append, List.map_cons, List.map_nil, Sp.pr, Given]
        rintro _ rfl
        rintro _ rfl
        go_wp2_with fail
        refine (ref_RightHead ⟨q1, q2, by_, q4, q5, q6, XS⟩ (lW.ext mk_rep h1) HSW (by omega) HR2).mono ?_
        rintro e w2 ⟨rfl, hx2⟩
        go_wp2_with fail
        exact Post.isv hx2 rfl rfl rfl
      -- 15: Op.binOp BinOp.eql 4 t179 t181 4   [guarded: some (10, true)]
      apply Stage2.step (Is (.bool true)) true [false, false, false, false, false, false, false, false, false, false, true, false, true, false, true] true false (Is.keeps _) (fun _ => Is.keeps _) (by kernel_rfl)
      · intro w1 h1
        have h1 : Ext _ w1 := h1
        simp only [List.nil_append, List.cons_append, List.map_cons, List.map_nil, Sp.pr, Given]
        rintro _ rfl
        rintro _ rfl
        rintro _ rfl
        go_wp2_with fail
        exact Post.isv (Ext.refl _) rfl rfl rfl
      -- 16: Op.pick t177 t182 (const (Value.bool false))
      apply Stage2.step (Is (.bool true)) true [false, false, false, false, false, false, false, false, false, false, true, false, false, false, false, true] true false (Is.keeps _) (fun _ => Is.keeps _) (by kernel_rfl)
      · intro w1 h1
        have h1 : Ext _ w1 := h1
        simp only [List.nil_append, List.cons_append, List.map_cons, List.map_nil, Sp.pr, Given]
        rintro _ rfl
        rintro _ rfl
        go_wp2_with fail
        exact Post.isv (Ext.refl _) rfl rfl rfl
      -- 17: Op.move t183
      apply Stage2.step (Is _) true [false, false, false, false, false, false, false, false, false, false, false, false, false, false, false, false, true] true false (Is.keeps _) (fun _ => Is.keeps _) (by kernel_rfl)
      · intro w1 h1
        have h1 : Ext _ w1 := h1
        simp only [List.nil_append, List.cons_append, List.map_cons, List.map_nil, Sp.pr, Given]
        rintro _ rfl
        go_wp2_with fail
        exact Post.isv (Ext.refl _) rfl rfl rfl
      -- 18: Op.call { value (Operand.func 17), args := #[], argTypes := #[] }   [guarded: some (17, true)]
      apply Stage2.step (Is (.bool true)) true [false, false, false, false, false, false, false, false, false, false, false, false, false, false, false, false, false, true] true false (Is.keeps _) (fun _ => Is.keeps _) (by kernel_rfl)
      · intro w1 h1
        have h1 : Ext _ w1 := h1
        simp only [List.nil_append, List.cons_append, List.map_cons, List.map_nil, Sp.pr, Given]
        rintro _ rfl
        go_wp2_with fail
        refine (law8_known _).mono ?_
        rintro e w2 ⟨rfl, hx2⟩
        go_wp2_with fail
        exact Post.isv hx2 rfl rfl rfl
      -- 19: Op.pick t184 t185 (const (Value.bool false))
      apply Stage2.step (Is _) true [false, false, false, false, false, false, false, false, false, false, false, false, false, false, false, false, false, true, true] true false (Is.keeps _) (fun _ => Is.keeps _) (by kernel_rfl)
      · intro w1 h1
        have h1 : Ext _ w1 := h1
        simp only [List.nil_append, List.cons_append, List.map_cons, List.map_nil, Sp.pr, Given]
        rintro _ rfl
        rintro _ rfl
        go_wp2_with fail
        exact Post.isv (Ext.refl _) rfl rfl rfl
      -- 20: Op.assign t186
      apply Stage2.step (Is _) true [false, false, false, false, false, false, false, false, false, false, false, false, false, false, false, false, false, false, false, true] true false (Is.keeps _) (fun _ => Is.keeps _) (by kernel_rfl)
      · intro w1 h1
        have h1 : Ext _ w1 := h1
        simp only [List.nil_append, List.cons_append, List.map_cons, List.map_nil, Sp.pr, Given]
        rintro _ rfl
        go_wp2_with fail
        exact Post.isv (Ext.refl _) rfl rfl rfl
      apply Stage2.nil [true, true, true, true, true, true, true, true, true, true, true, true, true, true, true, true, true, true, true, true, true] (by kernel_rfl)
      intro w1 h1
      have h1 : (Ext) _ w1 := h1
      simp only [List.nil_append, List.cons_append, List.map_cons, List.map_nil, Sp.pr]
      refine Fin2.is_ ?_
      refine Fin2.is_ ?_
      refine Fin2.is_ ?_
      refine Fin2.is_ ?_
      refine Fin2.is_ ?_
      refine Fin2.is_ ?_
      refine Fin2.is_ ?_
      refine Fin2.is_ ?_
      refine Fin2.is_ ?_
      refine Fin2.is_ ?_
      refine Fin2.is_ ?_
      refine Fin2.is_ ?_
      refine Fin2.is_ ?_
      refine Fin2.is_ ?_
      refine Fin2.is_ ?_
      refine Fin2.is_ ?_
      refine Fin2.is_ ?_
      refine Fin2.is_ ?_
      refine Fin2.is_ ?_
      refine Fin2.is_ ?_
      refine Fin2.is_ ?_
      refine Fin2.nil_ ?_
      go_simp
      go_wp2_with fail
      go_ret
      exact ⟨rfl, gx7.trans h1⟩
    · skip
      go_wp2_with (
        at_builtin
        rw [← hw4]
        refine wpList_append_flatB mk_rep (fun x cs w h => mk_nop h) rfl _ _ _ _ rfl w4.heap.size (by rw [World.size_alloc]; omega) TMk TMk im _ 40 under_mks under_mks him hm0 hm1 hm2 rfl _ 0 0 [] rfl (OwnL.nil _ _ _ _) A1 n1 c1 ps rfl ((l1.ext mk_rep gx4).ext mk_rep (Ext.alloc _ _)) n1 (by omega) ps rfl (by simp only [maxLen]; omega) (by omega) ?_
        intro A5 c5 w5 own5 hkeep hext hsz5
        have hx5 := hext w4 (Ext.alloc _ _) (Nat.le_refl _)
        have B5 := Lib.hid (blk_ext B4.out hx5)
        have q6c := blk_cell B5.out 6
        have q6f := blk_frozen B5.out 6
        have B6 : Hid ((w5.setCell ⟨w3.heap.size, 6, none⟩ (.slice A5 n1 c5)).heap[w3.heap.size]? = some (.cells (hdC ⟨q1, q2, q3, q4, q5, q6, ps⟩ A5 n1 c5) THd (0, 0))) := by
          unfold Hid
          have := blk_set B5.out 6 (.slice A5 n1 c5)
          simpa using this
        have own6 : OwnL TMk 4 mkR (w5.setCell ⟨w3.heap.size, 6, none⟩ (.slice A5 n1 c5)) w4.heap.size A5 n1 c5 ps := own5.farM (p := ⟨w3.heap.size, 6, none⟩) (fun g hg => by have := (own5.row_lt g hg).1; simp only; omega) _
        have gx6 : Ext w (w5.setCell ⟨w3.heap.size, 6, none⟩ (.slice A5 n1 c5)) := ((gx1.trans gx4).trans hx5).sets (p := ⟨w3.heap.size, 6, none⟩) hwb _
        have y6 := blk_cell B6.out 6
        clear hx5 B5 hkeep hext hsz5 own5
        obtain ⟨g5, f1, f2, f3, f4, v2, rfl, hg5, hx, hs0, e0, e1, e2, e3, e01, ef⟩ := own_open2 own6 HSH.out hkl
        have hsx := shorts_at HSH.out hx
        have efk := ef (k * 4)
        have hg5w : w3.heap.size ≠ g5 := by omega
        have hg5x : w.heap.size ≤ g5 := by omega
        have BW : ((w5.setCell ⟨w3.heap.size, 6, none⟩ (.slice (some ⟨g5, 0, none⟩) n1 c5)).setCell ⟨g5, k * 4, none⟩ (.int .i64 by_)).heap[w3.heap.size]? = some (.cells (hdC ⟨q1, q2, q3, q4, q5, q6, ps⟩ (some ⟨g5, 0, none⟩) n1 c5) THd (0, 0)) := blk_far B6.out (fun h => hg5w h.symm) _
        have ownW : OwnL TMk 4 mkR ((w5.setCell ⟨w3.heap.size, 6, none⟩ (.slice (some ⟨g5, 0, none⟩) n1 c5)).setCell ⟨g5, k * 4, none⟩ (.int .i64 by_)) w4.heap.size (some ⟨g5, 0, none⟩) n1 c5 (ps.set k ⟨by_, f2, f3, f4⟩) := own6.setM (j := 0) hx (x' := ⟨by_, f2, f3, f4⟩) (by omega) (v := .int .i64 by_) rfl
        have gxW : Ext w ((w5.setCell ⟨w3.heap.size, 6, none⟩ (.slice (some ⟨g5, 0, none⟩) n1 c5)).setCell ⟨g5, k * 4, none⟩ (.int .i64 by_)) := gx6.sets (p := ⟨g5, k * 4, none⟩) hg5x (.int .i64 by_)
        clear hx ef
        have x0 := blk_cell BW 0
        have x1 := blk_cell BW 1
        have x2 := blk_cell BW 2
        have x3 := blk_cell BW 3
        have x4 := blk_cell BW 4
        have x5 := blk_cell BW 5
        have x6 := blk_cell BW 6
        have lW := ownW.lst
        have GXW := Lib.hid gxW
        clear ownW gxW BW own6 B6 gx6
        )
      obtain ⟨wf, hwf⟩ : ∃ q, q = (w5.setCell ⟨w3.heap.size, 6, none⟩ (.slice (some ⟨g5, 0, none⟩) n1 c5)).setCell ⟨g5, k * 4, none⟩ (.int .i64 by_) := ⟨_, rfl⟩
      rw [← hwf] at x0 x1 x2 x3 x4 x5 x6 lW GXW
      rw [← hwf]
      clear hwf
      have HSW : Hid (Shorts (ps.set k ⟨by_, f2, f3, f4⟩)) := shorts_set HSH.out hsx
      obtain ⟨XS, hXS⟩ : ∃ X, ps.set k ⟨by_, f2, f3, f4⟩ = X := ⟨_, rfl⟩
      rw [hXS] at lW HSW
      clear hXS
      obtain ⟨r, hr⟩ : ∃ q, rightH ⟨q1, q2, q3, q4, q5, q6, XS⟩ = q := ⟨_, rfl⟩
      have HR2 := Lib.hid hr
      obtain ⟨M, hM⟩ : ∃ q, putHr ⟨q1, q2, q3, q4, q5, q6, XS⟩ r = q := ⟨_, rfl⟩
      have HM2 := Lib.hid hM
      clear hr hM
      refine (header_Put ⟨q1, q2, q3, q4, q5, q6, XS⟩ lW HSW (by omega) HR2 HM2).mono ?_
      rintro e w7 ⟨A7, n7, c7, rfl, hb7, hx7⟩
      obtain ⟨er, her⟩ : ∃ q : Int, (if r = true then (0 : Int) else 1) = q := ⟨_, rfl⟩
      rw [her]
      have HER := Lib.hid her
      clear her
      replace x0 := hx7.cell x0
      replace x1 := hx7.cell x1
      replace x2 := hx7.cell x2
      replace x3 := hx7.cell x3
      replace x4 := hx7.cell x4
      replace x5 := hx7.cell x5
      replace x6 := hx7.cell x6
      have gx7 := GXW.out.trans hx7
      replace lW := lW.ext mk_rep hx7
      clear GXW hx7
      go_wp2_with fail
      refine (ref_PutHead ⟨q1, q2, q3, q4, q5, q6, XS⟩ lW HSW (by omega) HR2 HM2).mono ?_
      rintro e w8 ⟨A8, n8, c8, rfl, hb8, hx8⟩
      rw [HER.out]
      replace x0 := hx8.cell x0
      replace x1 := hx8.cell x1
      replace x2 := hx8.cell x2
      replace x3 := hx8.cell x3
      replace x4 := hx8.cell x4
      replace x5 := hx8.cell x5
      replace x6 := hx8.cell x6
      replace gx7 := gx7.trans hx8
      replace lW := lW.ext mk_rep hx8
      have tb7 := hb7.sl.ext hx8
      have tb8 := hb8.sl
      clear hx8 hb7 hb8 HER HM2
      go_wp2_with fail
      refine wp_region_typed2 (R := But w8.heap.size (fun _ => False)) Ext.steady (But.steady _ _) (fun _ _ => But.of_ext) rfl 187 rfl [0, 1, 0, 4, 15, 31, 63, 63, 255, 511, 1023, 2047, 4095, 2047, 16383, 32767, 65535, 131071, 262143, 524287, 1048575] 0 (by kernel_rfl) ?_
      -- 0: Op.move t22
      apply Stage2.step (Is _) true [] true false (Is.keeps _) (fun _ => Is.keeps _) (by kernel_rfl)
      · intro w1 h1
        have h1 : Ext _ w1 := h1
        simp only [List.nil_append, List.cons_append, List.map_cons, List.map_nil, Given]
        go_wp2_with fail
        exact Post.isv (Ext.refl _) rfl rfl rfl
      -- 1: Op.convert 23 9 t167
      apply Stage2.step (Is (.string ⟨M.toArray⟩)) true [true] true false (Is.keeps _) (fun _ => Is.keeps _) (by kernel_rfl)
      · intro w1 h1
        have h1 : Ext _ w1 := h1
        simp only [List.nil_append, List.cons_append, List.map_cons, List.map_nil, Sp.pr, Given]
        rintro _ rfl
        have tx := run_text_u8 (tb7.ext h1)
        go_wp2_with fail
        exact Post.isv (Ext.refl _) rfl rfl rfl
      -- 2: Op.move t24
      apply Stage2.step (Is _) true [] true false (Is.keeps _) (fun _ => Is.keeps _) (by kernel_rfl)
      · intro w1 h1
        have h1 : Ext _ w1 := h1
        simp only [List.nil_append, List.cons_append, List.map_cons, List.map_nil, Given]
        go_wp2_with fail
        exact Post.isv (Ext.refl _) rfl rfl rfl
      -- 3: Op.convert 23 9 t169
      apply Stage2.step (Is (.string ⟨M.toArray⟩)) true [false, false, true] true false (Is.keeps _) (fun _ => Is.keeps _) (by kernel_rfl)
      · intro w1 h1
        have h1 : Ext _ w1 := h1
        simp only [List.nil_append, List.cons_append, List.map_cons, List.map_nil, Sp.pr, Given]
        rintro _ rfl
        have tx := run_text_u8 (tb8.ext h1)
        go_wp2_with fail
        exact Post.isv (Ext.refl _) rfl rfl rfl
      -- 4: Op.binOp BinOp.eql 9 t168 t170 9
      apply Stage2.step (Is (.bool true)) true [false, true, false, true] true false (Is.keeps _) (fun _ => Is.keeps _) (by kernel_rfl)
      · intro w1 h1
        have h1 : Ext _ w1 := h1
        simp only [List.nil_append, List.cons_append, List.map_cons, List.map_nil, Sp.pr, Given]
        rintro _ rfl
        rintro _ rfl
        go_wp2_with fail
        exact Post.isv (Ext.refl _) rfl rfl rfl
      -- 5: Op.move t171
      apply Stage2.step (Is _) true [false, false, false, false, true] true false (Is.keeps _) (fun _ => Is.keeps _) (by kernel_rfl)
      · intro w1 h1
        have h1 : Ext _ w1 := h1
        simp only [List.nil_append, List.cons_append, List.map_cons, List.map_nil, Sp.pr, Given]
        rintro _ rfl
        go_wp2_with fail
        exact Post.isv (Ext.refl _) rfl rfl rfl
      -- 6: Op.move t23   [guarded: some (5, true)]
      apply Stage2.step (Is _) true [false, false, false, false, false, true] true false (Is.keeps _) (fun _ => Is.keeps _) (by kernel_rfl)
      · intro w1 h1
        have h1 : Ext _ w1 := h1
        simp only [List.nil_append, List.cons_append, List.map_cons, List.map_nil, Sp.pr, Given]
        rintro _ rfl
        go_wp2_with fail
        exact Post.isv (Ext.refl _) rfl rfl rfl
      -- 7: Op.move t25   [guarded: some (5, true)]
      apply Stage2.step (Is _) true [false, false, false, false, false, true] true false (Is.keeps _) (fun _ => Is.keeps _) (by kernel_rfl)
      · intro w1 h1
        have h1 : Ext _ w1 := h1
        simp only [List.nil_append, List.cons_append, List.map_cons, List.map_nil, Sp.pr, Given]
        rintro _ rfl
        go_wp2_with fail
        exact Post.isv (Ext.refl _) rfl rfl rfl
      -- 8: Op.binOp BinOp.eql 31 t173 t174 31   [guarded: some (5, true)]
      apply Stage2.step (Is (.bool true)) true [false, false, false, false, false, true, true, true] true false (Is.keeps _) (fun _ => Is.keeps _) (by kernel_rfl)
      · intro w1 h1
        have h1 : Ext _ w1 := h1
        simp only [List.nil_append, List.cons_append, List.map_cons, List.map_nil, Sp.pr, Given]
        rintro _ rfl
        rintro _ rfl
        rintro _ rfl
        go_wp2_with fail
        exact Post.isv (Ext.refl _) rfl rfl rfl
      -- 9: Op.pick t172 t175 (const (Value.bool false))
      apply Stage2.step (Is (.bool true)) true [false, false, false, false, false, true, false, false, true] true false (Is.keeps _) (fun _ => Is.keeps _) (by kernel_rfl)
      · intro w1 h1
        have h1 : Ext _ w1 := h1
        simp only [List.nil_append, List.cons_append, List.map_cons, List.map_nil, Sp.pr, Given]
        rintro _ rfl
        rintro _ rfl
        go_wp2_with fail
        exact Post.isv (Ext.refl _) rfl rfl rfl
      -- 10: Op.move t176
      apply Stage2.step (Is _) true [false, false, false, false, false, false, false, false, false, true] true false (Is.keeps _) (fun _ => Is.keeps _) (by kernel_rfl)
      · intro w1 h1
        have h1 : Ext _ w1 := h1
        simp only [List.nil_append, List.cons_append, List.map_cons, List.map_nil, Sp.pr, Given]
        rintro _ rfl
        go_wp2_with fail
        exact Post.isv (Ext.refl _) rfl rfl rfl
      -- 11: Op.load 43 t20   [guarded: some (10, true)]
      apply Stage2.step (Is (hdV ⟨q1, q2, q3, q4, q5, q6, XS⟩ (some ⟨g5, 0, none⟩) n1 c5)) true [false, false, false, false, false, false, false, false, false, false, true] true false (Is.keeps _) (fun _ => Is.keeps _) (by kernel_rfl)
      · intro w1 h1
        have h1 : Ext _ w1 := h1
        simp only [List.nil_append, List.cons_append, List.map_cons, List.map_nil, Sp.pr, Given]
        rintro _ rfl
        have u0 := h1.cell x0
        have u1 := h1.cell x1
        have u2 := h1.cell x2
        have u3 := h1.cell x3
        have u4 := h1.cell x4
        have u5 := h1.cell x5
        have u6 := h1.cell x6
        go_wp2_with fail
        exact Post.isv (Ext.refl _) rfl rfl rfl
      -- 12: Op.call { value (Operand.func 21), args := #[t178], argTypes := #[43] }   [guarded: some (10, true)]
      apply Stage2.step (Is (.bool r)) true [false, false, false, false, false, false, false, false, false, false, true, true] true false (Is.keeps _) (fun _ => Is.keeps _) (by kernel_rfl)
      · intro w1 h1
        have h1 : Ext _ w1 := h1
        simp only [List.nil_append, List.cons_append, List.map_cons, List.map_nil, Sp.pr, Given]
        rintro _ rfl
        rintro _ rfl
        go_wp2_with fail
        refine (header_Right ⟨q1, q2, q3, q4, q5, q6, XS⟩ (lW.ext mk_rep h1) HSW (by omega) HR2).mono ?_
        rintro e w2 ⟨rfl, hx2⟩
        go_wp2_with fail
        exact Post.isv hx2 rfl rfl rfl
      -- 13: Op.load 43 t20   [guarded: some (10, true)]
      apply Stage2.step (Is (hdV ⟨q1, q2, q3, q4, q5, q6, XS⟩ (some ⟨g5, 0, none⟩) n1 c5)) true [false, false, false, false, false, false, false, false, false, false, true] true false (Is.keeps _) (fun _ => Is.keeps _) (by kernel_rfl)
      · intro w1 h1
        have h1 : Ext _ w1 := h1
        simp only [List.nil_append, List.cons_append, List.map_cons, List.map_nil, Sp.pr, Given]
        rintro _ rfl
        have u0 := h1.cell x0
        have u1 := h1.cell x1
        have u2 := h1.cell x2
        have u3 := h1.cell x3
        have u4 := h1.cell x4
        have u5 := h1.cell x5
        have u6 := h1.cell x6
        go_wp2_with fail
        exact Post.isv (Ext.refl _) rfl rfl rfl
      -- 14: Op.call { value (Operand.func 22), args := #[t180], argTypes := #[43] }   [guarded: some (10, true)]
      apply Stage2.step (Is (.bool r)) true [false, false, false, false, false, false, false, false, false, false, true, false, false, true] true false (Is.keeps _) (fun _ => Is.keeps _) (by kernel_rfl)
      · intro w1 h1
        have h1 : Ext _ w1 := h1
        simp only [List.nil_append, List.cons_append, List.map_cons, List.map_nil, Sp.pr, Given]
        rintro _ rfl
        rintro _ rfl
        go_wp2_with fail
        refine (ref_RightHead ⟨q1, q2, q3, q4, q5, q6, XS⟩ (lW.ext mk_rep h1) HSW (by omega) HR2).mono ?_
        rintro e w2 ⟨rfl, hx2⟩
        go_wp2_with fail
        exact Post.isv hx2 rfl rfl rfl
      -- 15: Op.binOp BinOp.eql 4 t179 t181 4   [guarded: some (10, true)]
      apply Stage2.step (Is (.bool true)) true [false, false, false, false, false, false, false, false, false, false, true, false, true, false, true] true false (Is.keeps _) (fun _ => Is.keeps _) (by kernel_rfl)
      · intro w1 h1
        have h1 : Ext _ w1 := h1
        simp only [List.nil_append, List.cons_append, List.map_cons, List.map_nil, Sp.pr, Given]
        rintro _ rfl
        rintro _ rfl
        rintro _ rfl
        go_wp2_with fail
        exact Post.isv (Ext.refl _) rfl rfl rfl
      -- 16: Op.pick t177 t182 (const (Value.bool false))
      apply Stage2.step (Is (.bool true)) true [false, false, false, false, false, false, false, false, false, false, true, false, false, false, false, true] true false (Is.keeps _) (fun _ => Is.keeps _) (by kernel_rfl)
      · intro w1 h1
        have h1 : Ext _ w1 := h1
        simp only [List.nil_append, List.cons_append, List.map_cons, List.map_nil, Sp.pr, Given]
        rintro _ rfl
        rintro _ rfl
        go_wp2_with fail
        exact Post.isv (Ext.refl _) rfl rfl rfl
      -- 17: Op.move t183
      apply Stage2.step (Is _) true [false, false, false, false, false, false, false, false, false, false, false, false, false, false, false, false, true] true false (Is.keeps _) (fun _ => Is.keeps _) (by kernel_rfl)
      · intro w1 h1
        have h1 : Ext _ w1 := h1
        simp only [List.nil_append, List.cons_append, List.map_cons, List.map_nil, Sp.pr, Given]
        rintro _ rfl
        go_wp2_with fail
        exact Post.isv (Ext.refl _) rfl rfl rfl
      -- 18: Op.call { value (Operand.func 17), args := #[], argTypes := #[] }   [guarded: some (17, true)]
      apply Stage2.step (Is (.bool true)) true [false, false, false, false, false, false, false, false, false, false, false, false, false, false, false, false, false, true] true false (Is.keeps _) (fun _ => Is.keeps _) (by kernel_rfl)
      · intro w1 h1
        have h1 : Ext _ w1 := h1
        simp only [List.nil_append, List.cons_append, List.map_cons, List.map_nil, Sp.pr, Given]
        rintro _ rfl
        go_wp2_with fail
        refine (law8_known _).mono ?_
        rintro e w2 ⟨rfl, hx2⟩
        go_wp2_with fail
        exact Post.isv hx2 rfl rfl rfl
      -- 19: Op.pick t184 t185 (const (Value.bool false))
      apply Stage2.step (Is _) true [false, false, false, false, false, false, false, false, false, false, false, false, false, false, false, false, false, true, true] true false (Is.keeps _) (fun _ => Is.keeps _) (by kernel_rfl)
      · intro w1 h1
        have h1 : Ext _ w1 := h1
        simp only [List.nil_append, List.cons_append, List.map_cons, List.map_nil, Sp.pr, Given]
        rintro _ rfl
        rintro _ rfl
        go_wp2_with fail
        exact Post.isv (Ext.refl _) rfl rfl rfl
      -- 20: Op.assign t186
      apply Stage2.step (Is _) true [false, false, false, false, false, false, false, false, false, false, false, false, false, false, false, false, false, false, false, true] true false (Is.keeps _) (fun _ => Is.keeps _) (by kernel_rfl)
      · intro w1 h1
        have h1 : Ext _ w1 := h1
        simp only [List.nil_append, List.cons_append, List.map_cons, List.map_nil, Sp.pr, Given]
        rintro _ rfl
        go_wp2_with fail
        exact Post.isv (Ext.refl _) rfl rfl rfl
      apply Stage2.nil [true, true, true, true, true, true, true, true, true, true, true, true, true, true, true, true, true, true, true, true, true] (by kernel_rfl)
      intro w1 h1
      have h1 : (Ext) _ w1 := h1
      simp only [List.nil_append, List.cons_append, List.map_cons, List.map_nil, Sp.pr]
      refine Fin2.is_ ?_
      refine Fin2.is_ ?_
      refine Fin2.is_ ?_
      refine Fin2.is_ ?_
      refine Fin2.is_ ?_
      refine Fin2.is_ ?_
      refine Fin2.is_ ?_
      refine Fin2.is_ ?_
      refine Fin2.is_ ?_
      refine Fin2.is_ ?_
      refine Fin2.is_ ?_
      refine Fin2.is_ ?_
      refine Fin2.is_ ?_
      refine Fin2.is_ ?_
      refine Fin2.is_ ?_
      refine Fin2.is_ ?_
      refine Fin2.is_ ?_
      refine Fin2.is_ ?_
      refine Fin2.is_ ?_
      refine Fin2.is_ ?_
      refine Fin2.is_ ?_
      refine Fin2.nil_ ?_
      go_simp
      go_wp2_with fail
      go_ret
      exact ⟨rfl, gx7.trans h1⟩
    · skip
      go_wp2_with (
        at_builtin
        rw [← hw4]
        refine wpList_append_flatB mk_rep (fun x cs w h => mk_nop h) rfl _ _ _ _ rfl w4.heap.size (by rw [World.size_alloc]; omega) TMk TMk im _ 40 under_mks under_mks him hm0 hm1 hm2 rfl _ 0 0 [] rfl (OwnL.nil _ _ _ _) A1 n1 c1 ps rfl ((l1.ext mk_rep gx4).ext mk_rep (Ext.alloc _ _)) n1 (by omega) ps rfl (by simp only [maxLen]; omega) (by omega) ?_
        intro A5 c5 w5 own5 hkeep hext hsz5
        have hx5 := hext w4 (Ext.alloc _ _) (Nat.le_refl _)
        have B5 := Lib.hid (blk_ext B4.out hx5)
        have q6c := blk_cell B5.out 6
        have q6f := blk_frozen B5.out 6
        have B6 : Hid ((w5.setCell ⟨w3.heap.size, 6, none⟩ (.slice A5 n1 c5)).heap[w3.heap.size]? = some (.cells (hdC ⟨q1, q2, q3, q4, q5, q6, ps⟩ A5 n1 c5) THd (0, 0))) := by
          unfold Hid
          have := blk_set B5.out 6 (.slice A5 n1 c5)
          simpa using this
        have own6 : OwnL TMk 4 mkR (w5.setCell ⟨w3.heap.size, 6, none⟩ (.slice A5 n1 c5)) w4.heap.size A5 n1 c5 ps := own5.farM (p := ⟨w3.heap.size, 6, none⟩) (fun g hg => by have := (own5.row_lt g hg).1; simp only; omega) _
        have gx6 : Ext w (w5.setCell ⟨w3.heap.size, 6, none⟩ (.slice A5 n1 c5)) := ((gx1.trans gx4).trans hx5).sets (p := ⟨w3.heap.size, 6, none⟩) hwb _
        have y6 := blk_cell B6.out 6
        clear hx5 B5 hkeep hext hsz5 own5
        obtain ⟨g5, f1, f2, f3, f4, v2, rfl, hg5, hx, hs0, e0, e1, e2, e3, e01, ef⟩ := own_open2 own6 HSH.out hkl
        have hsx := shorts_at HSH.out hx
        have efk := ef (k * 4 + 2)
        have hg5w : w3.heap.size ≠ g5 := by omega
        have hg5x : w.heap.size ≤ g5 := by omega
        have BW : ((w5.setCell ⟨w3.heap.size, 6, none⟩ (.slice (some ⟨g5, 0, none⟩) n1 c5)).setCell ⟨g5, k * 4 + 2, none⟩ (.int .i64 by_)).heap[w3.heap.size]? = some (.cells (hdC ⟨q1, q2, q3, q4, q5, q6, ps⟩ (some ⟨g5, 0, none⟩) n1 c5) THd (0, 0)) := blk_far B6.out (fun h => hg5w h.symm) _
        have ownW : OwnL TMk 4 mkR ((w5.setCell ⟨w3.heap.size, 6, none⟩ (.slice (some ⟨g5, 0, none⟩) n1 c5)).setCell ⟨g5, k * 4 + 2, none⟩ (.int .i64 by_)) w4.heap.size (some ⟨g5, 0, none⟩) n1 c5 (ps.set k ⟨f1, f2, by_, f4⟩) := own6.setM (j := 2) hx (x' := ⟨f1, f2, by_, f4⟩) (by omega) (v := .int .i64 by_) rfl
        have gxW : Ext w ((w5.setCell ⟨w3.heap.size, 6, none⟩ (.slice (some ⟨g5, 0, none⟩) n1 c5)).setCell ⟨g5, k * 4 + 2, none⟩ (.int .i64 by_)) := gx6.sets (p := ⟨g5, k * 4 + 2, none⟩) hg5x (.int .i64 by_)
        clear hx ef
        have x0 := blk_cell BW 0
        have x1 := blk_cell BW 1
        have x2 := blk_cell BW 2
        have x3 := blk_cell BW 3
        have x4 := blk_cell BW 4
        have x5 := blk_cell BW 5
        have x6 := blk_cell BW 6
        have lW := ownW.lst
        have GXW := Lib.hid gxW
        clear ownW gxW BW own6 B6 gx6
        )
      obtain ⟨wf, hwf⟩ : ∃ q, q = (w5.setCell ⟨w3.heap.size, 6, none⟩ (.slice (some ⟨g5, 0, none⟩) n1 c5)).setCell ⟨g5, k * 4 + 2, none⟩ (.int .i64 by_) := ⟨_, rfl⟩
      rw [← hwf] at x0 x1 x2 x3 x4 x5 x6 lW GXW
      rw [← hwf]
      clear hwf
      have HSW : Hid (Shorts (ps.set k ⟨f1, f2, by_, f4⟩)) := shorts_set HSH.out hsx
      obtain ⟨XS, hXS⟩ : ∃ X, ps.set k ⟨f1, f2, by_, f4⟩ = X := ⟨_, rfl⟩
      rw [hXS] at lW HSW
      clear hXS
      obtain ⟨r, hr⟩ : ∃ q, rightH ⟨q1, q2, q3, q4, q5, q6, XS⟩ = q := ⟨_, rfl⟩
      have HR2 := Lib.hid hr
      obtain ⟨M, hM⟩ : ∃ q, putHr ⟨q1, q2, q3, q4, q5, q6, XS⟩ r = q := ⟨_, rfl⟩
      have HM2 := Lib.hid hM
      clear hr hM
      refine (header_Put ⟨q1, q2, q3, q4, q5, q6, XS⟩ lW HSW (by omega) HR2 HM2).mono ?_
      rintro e w7 ⟨A7, n7, c7, rfl, hb7, hx7⟩
      obtain ⟨er, her⟩ : ∃ q : Int, (if r = true then (0 : Int) else 1) = q := ⟨_, rfl⟩
      rw [her]
      have HER := Lib.hid her
      clear her
      replace x0 := hx7.cell x0
      replace x1 := hx7.cell x1
      replace x2 := hx7.cell x2
      replace x3 := hx7.cell x3
      replace x4 := hx7.cell x4
      replace x5 := hx7.cell x5
      replace x6 := hx7.cell x6
      have gx7 := GXW.out.trans hx7
      replace lW := lW.ext mk_rep hx7
      clear GXW hx7
      go_wp2_with fail
      refine (ref_PutHead ⟨q1, q2, q3, q4, q5, q6, XS⟩ lW HSW (by omega) HR2 HM2).mono ?_
      rintro e w8 ⟨A8, n8, c8, rfl, hb8, hx8⟩
      rw [HER.out]
      replace x0 := hx8.cell x0
      replace x1 := hx8.cell x1
      replace x2 := hx8.cell x2
      replace x3 := hx8.cell x3
      replace x4 := hx8.cell x4
      replace x5 := hx8.cell x5
      replace x6 := hx8.cell x6
      replace gx7 := gx7.trans hx8
      replace lW := lW.ext mk_rep hx8
      have tb7 := hb7.sl.ext hx8
      have tb8 := hb8.sl
      clear hx8 hb7 hb8 HER HM2
      go_wp2_with fail
      refine wp_region_typed2 (R := But w8.heap.size (fun _ => False)) Ext.steady (But.steady _ _) (fun _ _ => But.of_ext) rfl 187 rfl [0, 1, 0, 4, 15, 31, 63, 63, 255, 511, 1023, 2047, 4095, 2047, 16383, 32767, 65535, 131071, 262143, 524287, 1048575] 0 (by kernel_rfl) ?_
      -- 0: Op.move t22
      apply Stage2.step (Is _) true [] true false (Is.keeps _) (fun _ => Is.keeps _) (by kernel_rfl)
      · intro w1 h1
        have h1 : Ext _ w1 := h1
        simp only [List.nil_append, List.cons_append, List.map_cons, List.map_nil, Given]
        go_wp2_with fail
        exact Post.isv (Ext.refl _) rfl rfl rfl
      -- 1: Op.convert 23 9 t167
      apply Stage2.step (Is (.string ⟨M.toArray⟩)) true [true] true false (Is.keeps _) (fun _ => Is.keeps _) (by kernel_rfl)
      · intro w1 h1
        have h1 : Ext _ w1 := h1
        simp only [List.nil_append, List.cons_append, List.map_cons, List.map_nil, Sp.pr, Given]
        rintro _ rfl
        have tx := run_text_u8 (tb7.ext h1)
        go_wp2_with fail
        exact Post.isv (Ext.refl _) rfl rfl rfl
      -- 2: Op.move t24
      apply Stage2.step (Is _) true [] true false (Is.keeps _) (fun _ => Is.keeps _) (by kernel_rfl)
      · intro w1 h1
        have h1 : Ext _ w1 := h1
        simp only [List.nil_append, List.cons_append, List.map_cons, List.map_nil, Given]
        go_wp2_with fail
        exact Post.isv (Ext.refl _) rfl rfl rfl
      -- 3: Op.convert 23 9 t169
      apply Stage2.step (Is (.string ⟨M.toArray⟩)) true [false, false, true] true false (Is.keeps _) (fun _ => Is.keeps _) (by kernel_rfl)
      · intro w1 h1
        have h1 : Ext _ w1 := h1
        simp only [List.nil_append, List.cons_append, List.map_cons, List.map_nil, Sp.pr, Given]
        rintro _ rfl
        have tx := run_text_u8 (tb8.ext h1)
        go_wp2_with fail
        exact Post.isv (Ext.refl _) rfl rfl rfl
      -- 4: Op.binOp BinOp.eql 9 t168 t170 9
      apply Stage2.step (Is (.bool true)) true [false, true, false, true] true false (Is.keeps _) (fun _ => Is.keeps _) (by kernel_rfl)
      · intro w1 h1
        have h1 : Ext _ w1 := h1
        simp only [List.nil_append, List.cons_append, List.map_cons, List.map_nil, Sp.pr, Given]
        rintro _ rfl
        rintro _ rfl
        go_wp2_with fail
        exact Post.isv (Ext.refl _) rfl rfl rfl
      -- 5: Op.move t171
      apply Stage2.step (Is _) true [false, false, false, false, true] true false (Is.keeps _) (fun _ => Is.keeps _) (by kernel_rfl)
      · intro w1 h1
        have h1 : Ext _ w1 := h1
        simp only [List.nil_append, List.cons_append, List.map_cons, List.map_nil, Sp.pr, Given]
        rintro _ rfl
        go_wp2_with fail
        exact Post.isv (Ext.refl _) rfl rfl rfl
      -- 6: Op.move t23   [guarded: some (5, true)]
      apply Stage2.step (Is _) true [false, false, false, false, false, true] true false (Is.keeps _) (fun _ => Is.keeps _) (by kernel_rfl)
      · intro w1 h1
        have h1 : Ext _ w1 := h1
        simp only [List.nil_append, List.cons_append, List.map_cons, List.map_nil, Sp.pr, Given]
        rintro _ rfl
        go_wp2_with fail
        exact Post.isv (Ext.refl _) rfl rfl rfl
      -- 7: Op.move t25   [guarded: some (5, true)]
      apply Stage2.step (Is _) true [false, false, false, false, false, true] true false (Is.keeps _) (fun _ => Is.keeps _) (by kernel_rfl)
      · intro w1 h1
        have h1 : Ext _ w1 := h1
        simp only [List.nil_append, List.cons_append, List.map_cons, List.map_nil, Sp.pr, Given]
        rintro _ rfl
        go_wp2_with fail
        exact Post.isv (Ext.refl _) rfl rfl rfl
      -- 8: Op.binOp BinOp.eql 31 t173 t174 31   [guarded: some (5, true)]
      apply Stage2.step (Is (.bool true)) true [false, false, false, false, false, true, true, true] true false (Is.keeps _) (fun _ => Is.keeps _) (by kernel_rfl)
      · intro w1 h1
        have h1 : Ext _ w1 := h1
        simp only [List.nil_append, List.cons_append, List.map_cons, List.map_nil, Sp.pr, Given]
        rintro _ rfl
        rintro _ rfl
        rintro _ rfl
        go_wp2_with fail
        exact Post.isv (Ext.refl _) rfl rfl rfl
      -- 9: Op.pick t172 t175 (const (Value.bool false))
      apply Stage2.step (Is (.bool true)) true [false, false, false, false, false, true, false, false, true] true false (Is.keeps _) (fun _ => Is.keeps _) (by kernel_rfl)
      · intro w1 h1
        have h1 : Ext _ w1 := h1
        simp only [List.nil_append, List.cons_append, List.map_cons, List.map_nil, Sp.pr, Given]
        rintro _ rfl
        rintro _ rfl
        go_wp2_with fail
        exact Post.isv (Ext.refl _) rfl rfl rfl
      -- 10: Op.move t176
      apply Stage2.step (Is _) true [false, false, false, false, false, false, false, false, false, true] true false (Is.keeps _) (fun _ => Is.keeps _) (by kernel_rfl)
      · intro w1 h1
        have h1 : Ext _ w1 := h1
        simp only [List.nil_append, List.cons_append, List.map_cons, List.map_nil, Sp.pr, Given]
        rintro _ rfl
        go_wp2_with fail
        exact Post.isv (Ext.refl _) rfl rfl rfl
      -- 11: Op.load 43 t20   [guarded: some (10, true)]
      apply Stage2.step (Is (hdV ⟨q1, q2, q3, q4, q5, q6, XS⟩ (some ⟨g5, 0, none⟩) n1 c5)) true [false, false, false, false, false, false, false, false, false, false, true] true false (Is.keeps _) (fun _ => Is.keeps _) (by kernel_rfl)
      · intro w1 h1
        have h1 : Ext _ w1 := h1
        simp only [List.nil_append, List.cons_append, List.map_cons, List.map_nil, Sp.pr, Given]
        rintro _ rfl
        have u0 := h1.cell x0
        have u1 := h1.cell x1
        have u2 := h1.cell x2
        have u3 := h1.cell x3
        have u4 := h1.cell x4
        have u5 := h1.cell x5
        have u6 := h1.cell x6
        go_wp2_with fail
        exact Post.isv (Ext.refl _) rfl rfl rfl
      -- 12: Op.call { value (Operand.func 21), args := #[t178], argTypes := #[43] }   [guarded: some (10, true)]
      apply Stage2.step (Is (.bool r)) true [false, false, false, false, false, false, false, false, false, false, true, true] true false (Is.keeps _) (fun _ => Is.keeps _) (by kernel_rfl)
      · intro w1 h1
        have h1 : Ext _ w1 := h1
        simp only [List.nil_append, List.cons_append, List.map_cons, List.map_nil, Sp.pr, Given]
        rintro _ rfl
        rintro _ rfl
        go_wp2_with fail
        refine (header_Right ⟨q1, q2, q3, q4, q5, q6, XS⟩ (lW.ext mk_rep h1) HSW (by omega) HR2).mono ?_
        rintro e w2 ⟨rfl, hx2⟩
        go_wp2_with fail
        exact Post.isv hx2 rfl rfl rfl
      -- 13: Op.load 43 t20   [guarded: some (10, true)]
      apply Stage2.step (Is (hdV ⟨q1, q2, q3, q4, q5, q6, XS⟩ (some ⟨g5, 0, none⟩) n1 c5)) true [false, false, false, false, false, false, false, false, false, false, true] true false (Is.keeps _) (fun _ => Is.keeps _) (by kernel_rfl)
      · intro w1 h1
        have h1 : Ext _ w1 := h1
        simp only [List.nil_append, List.cons_append, List.map_cons, List.map_nil, Sp.pr, Given]
        rintro _ rfl
        have u0 := h1.cell x0
        have u1 := h1.cell x1
        have u2 := h1.cell x2
        have u3 := h1.cell x3
        have u4 := h1.cell x4
        have u5 := h1.cell x5
        have u6 := h1.cell x6
        go_wp2_with fail
        exact Post.isv (Ext.refl _) rfl rfl rfl
      -- 14: Op.call { value (Operand.func 22), args := #[t180], argTypes := #[43] }   [guarded: some (10, true)]
      apply Stage2.step (Is (.bool r)) true [false, false, false, false, false, false, false, false, false, false, true, false, false, true] true false (Is.keeps _) (fun _ => Is.keeps _) (by kernel_rfl)
      · intro w1 h1
        have h1 : Ext _ w1 := h1
        simp only [List.nil_append, List.cons_append, List.map_cons, List.map_nil, Sp.pr, Given]
        rintro _ rfl
        rintro _ rfl
        go_wp2_with fail
        refine (ref_RightHead ⟨q1, q2, q3, q4, q5, q6, XS⟩ (lW.ext mk_rep h1) HSW (by omega) HR2).mono ?_
        rintro e w2 ⟨rfl, hx2⟩
        go_wp2_with fail
        exact Post.isv hx2 rfl rfl rfl
      -- 15: Op.binOp BinOp.eql 4 t179 t181 4   [guarded: some (10, true)]
      apply Stage2.step (Is (.bool true)) true [false, false, false, false, false, false, false, false, false, false, true, false, true, false, true] true false (Is.keeps _) (fun _ => Is.keeps _) (by kernel_rfl)
      · intro w1 h1
        have h1 : Ext _ w1 := h1
        simp only [List.nil_append, List.cons_append, List.map_cons, List.map_nil, Sp.pr, Given]
        rintro _ rfl
        rintro _ rfl
        rintro _ rfl
        go_wp2_with fail
        exact Post.isv (Ext.refl _) rfl rfl rfl
      -- 16: Op.pick t177 t182 (const (Value.bool false))
      apply Stage2.step (Is (.bool true)) true [false, false, false, false, false, false, false, false, false, false, true, false, false, false, false, true] true false (Is.keeps _) (fun _ => Is.keeps _) (by kernel_rfl)
      · intro w1 h1
        have h1 : Ext _ w1 := h1
        simp only [List.nil_append, List.cons_append, List.map_cons, List.map_nil, Sp.pr, Given]
        rintro _ rfl
        rintro _ rfl
        go_wp2_with fail
        exact Post.isv (Ext.refl _) rfl rfl rfl
      -- 17: Op.move t183
      apply Stage2.step (Is _) true [false, false, false, false, false, false, false, false, false, false, false, false, false, false, false, false, true] true false (Is.keeps _) (fun _ => Is.keeps _) (by kernel_rfl)
      · intro w1 h1
        have h1 : Ext _ w1 := h1
        simp only [List.nil_append, List.cons_append, List.map_cons, List.map_nil, Sp.pr, Given]
        rintro _ rfl
        go_wp2_with fail
        exact Post.isv (Ext.refl _) rfl rfl rfl
      -- 18: Op.call { value (Operand.func 17), args := #[], argTypes := #[] }   [guarded: some (17, true)]
      apply Stage2.step (Is (.bool true)) true [false, false, false, false, false, false, false, false, false, false, false, false, false, false, false, false, false, true] true false (Is.keeps _) (fun _ => Is.keeps _) (by kernel_rfl)
      · intro w1 h1
        have h1 : Ext _ w1 := h1
        simp only [List.nil_append, List.cons_append, List.map_cons, List.map_nil, Sp.pr, Given]
        rintro _ rfl
        go_wp2_with fail
        refine (law8_known _).mono ?_
        rintro e w2 ⟨rfl, hx2⟩
        go_wp2_with fail
        exact Post.isv hx2 rfl rfl rfl
      -- 19: Op.pick t184 t185 (const (Value.bool false))
      apply Stage2.step (Is _) true [false, false, false, false, false, false, false, false, false, false, false, false, false, false, false, false, false, true, true] true false (Is.keeps _) (fun _ => Is.keeps _) (by kernel_rfl)
      · intro w1 h1
        have h1 : Ext _ w1 := h1
        simp only [List.nil_append, List.cons_append, List.map_cons, List.map_nil, Sp.pr, Given]
        rintro _ rfl
        rintro _ rfl
        go_wp2_with fail
        exact Post.isv (Ext.refl _) rfl rfl rfl
      -- 20: Op.assign t186
      apply Stage2.step (Is _) true [false, false, false, false, false, false, false, false, false, false, false, false, false, false, false, false, false, false, false, true] true false (Is.keeps _) (fun _ => Is.keeps _) (by kernel_rfl)
      · intro w1 h1
        have h1 : Ext _ w1 := h1
        simp only [List.nil_append, List.cons_append, List.map_cons, List.map_nil, Sp.pr, Given]
        rintro _ rfl
        go_wp2_with fail
        exact Post.isv (Ext.refl _) rfl rfl rfl
      apply Stage2.nil [true, true, true, true, true, true, true, true, true, true, true, true, true, true, true, true, true, true, true, true, true] (by kernel_rfl)
      intro w1 h1
      have h1 : (Ext) _ w1 := h1
      simp only [List.nil_append, List.cons_append, List.map_cons, List.map_nil, Sp.pr]
      refine Fin2.is_ ?_
      refine Fin2.is_ ?_
      refine Fin2.is_ ?_
      refine Fin2.is_ ?_
      refine Fin2.is_ ?_
      refine Fin2.is_ ?_
      refine Fin2.is_ ?_
      refine Fin2.is_ ?_
      refine Fin2.is_ ?_
      refine Fin2.is_ ?_
      refine Fin2.is_ ?_
      refine Fin2.is_ ?_
      refine Fin2.is_ ?_
      refine Fin2.is_ ?_
      refine Fin2.is_ ?_
      refine Fin2.is_ ?_
      refine Fin2.is_ ?_
      refine Fin2.is_ ?_
      refine Fin2.is_ ?_
      refine Fin2.is_ ?_
      refine Fin2.is_ ?_
      refine Fin2.nil_ ?_
      go_simp
      go_wp2_with fail
      go_ret
      exact ⟨rfl, gx7.trans h1⟩
    · skip
      go_wp2_with (
        at_builtin
        rw [← hw4]
        refine wpList_append_flatB mk_rep (fun x cs w h => mk_nop h) rfl _ _ _ _ rfl w4.heap.size (by rw [World.size_alloc]; omega) TMk TMk im _ 40 under_mks under_mks him hm0 hm1 hm2 rfl _ 0 0 [] rfl (OwnL.nil _ _ _ _) A1 n1 c1 ps rfl ((l1.ext mk_rep gx4).ext mk_rep (Ext.alloc _ _)) n1 (by omega) ps rfl (by simp only [maxLen]; omega) (by omega) ?_
        intro A5 c5 w5 own5 hkeep hext hsz5
        have hx5 := hext w4 (Ext.alloc _ _) (Nat.le_refl _)
        have B5 := Lib.hid (blk_ext B4.out hx5)
        have q6c := blk_cell B5.out 6
        have q6f := blk_frozen B5.out 6
        have B6 : Hid ((w5.setCell ⟨w3.heap.size, 6, none⟩ (.slice A5 n1 c5)).heap[w3.heap.size]? = some (.cells (hdC ⟨q1, q2, q3, q4, q5, q6, ps⟩ A5 n1 c5) THd (0, 0))) := by
          unfold Hid
          have := blk_set B5.out 6 (.slice A5 n1 c5)
          simpa using this
        have own6 : OwnL TMk 4 mkR (w5.setCell ⟨w3.heap.size, 6, none⟩ (.slice A5 n1 c5)) w4.heap.size A5 n1 c5 ps := own5.farM (p := ⟨w3.heap.size, 6, none⟩) (fun g hg => by have := (own5.row_lt g hg).1; simp only; omega) _
        have gx6 : Ext w (w5.setCell ⟨w3.heap.size, 6, none⟩ (.slice A5 n1 c5)) := ((gx1.trans gx4).trans hx5).sets (p := ⟨w3.heap.size, 6, none⟩) hwb _
        have y6 := blk_cell B6.out 6
        clear hx5 B5 hkeep hext hsz5 own5
        obtain ⟨g5, f1, f2, f3, f4, v2, rfl, hg5, hx, hs0, e0, e1, e2, e3, e01, ef⟩ := own_open2 own6 HSH.out hkl
        have hsx := shorts_at HSH.out hx
        have HX := Lib.hid hx
        have HEF := Lib.hid ef
        clear hx ef)
      obtain ⟨w6, hw6⟩ : ∃ q, q = w5.setCell ⟨w3.heap.size, 6, none⟩ (.slice (some ⟨g5, 0, none⟩) n1 c5) := ⟨_, rfl⟩
      rw [← hw6] at B6 own6 gx6 e0 e1 e2 e3 e01 y6
      rw [← hw6]
      clear hw6 q6c q6f HEF
      have hg5w : g5 ≠ w3.heap.size := by omega
      have hg5x : w.heap.size ≤ g5 := by omega
      refine wp_region_typed2 (R := But w6.heap.size (fun q => q = g5)) Ext.steady (But.steady _ _) (fun _ _ => But.of_ext) rfl 187 rfl [0, 1, 0, 0, 8, 0, 56, 120, 248, 504, 1023, 2047, 4095] 4096 (by kernel_rfl) ?_
      -- 0: Op.fieldAddr 43 t20 4
      apply Stage2.step (Is _) true [] true false (Is.keeps _) (fun _ => Is.keeps _) (by kernel_rfl)
      · intro w1 h1
        have h1 : Ext _ w1 := h1
        simp only [List.nil_append, List.cons_append, List.map_cons, List.map_nil, Given]
        go_wp2_with fail
        exact Post.isv (Ext.refl _) rfl rfl rfl
      -- 1: Op.load 27 t131
      apply Stage2.step (Is (.slice (some ⟨g5, 0, none⟩) n1 c5)) true [true] true false (Is.keeps _) (fun _ => Is.keeps _) (by kernel_rfl)
      · intro w1 h1
        have h1 : Ext _ w1 := h1
        simp only [List.nil_append, List.cons_append, List.map_cons, List.map_nil, Sp.pr, Given]
        rintro _ rfl
        have u6 := h1.cell y6
        go_wp2_with fail
        exact Post.isv (Ext.refl _) rfl rfl rfl
      -- 2: Op.move t21
      apply Stage2.step (Is _) true [] true false (Is.keeps _) (fun _ => Is.keeps _) (by kernel_rfl)
      · intro w1 h1
        have h1 : Ext _ w1 := h1
        simp only [List.nil_append, List.cons_append, List.map_cons, List.map_nil, Given]
        go_wp2_with fail
        exact Post.isv (Ext.refl _) rfl rfl rfl
      -- 3: Op.fieldAddr 43 t20 4
      apply Stage2.step (Is _) true [] true false (Is.keeps _) (fun _ => Is.keeps _) (by kernel_rfl)
      · intro w1 h1
        have h1 : Ext _ w1 := h1
        simp only [List.nil_append, List.cons_append, List.map_cons, List.map_nil, Given]
        go_wp2_with fail
        exact Post.isv (Ext.refl _) rfl rfl rfl
      -- 4: Op.load 27 t134
      apply Stage2.step (Is (.slice (some ⟨g5, 0, none⟩) n1 c5)) true [false, false, false, true] true false (Is.keeps _) (fun _ => Is.keeps _) (by kernel_rfl)
      · intro w1 h1
        have h1 : Ext _ w1 := h1
        simp only [List.nil_append, List.cons_append, List.map_cons, List.map_nil, Sp.pr, Given]
        rintro _ rfl
        have u6 := h1.cell y6
        go_wp2_with fail
        exact Post.isv (Ext.refl _) rfl rfl rfl
      -- 5: Op.move t21
      apply Stage2.step (Is _) true [] true false (Is.keeps _) (fun _ => Is.keeps _) (by kernel_rfl)
      · intro w1 h1
        have h1 : Ext _ w1 := h1
        simp only [List.nil_append, List.cons_append, List.map_cons, List.map_nil, Given]
        go_wp2_with fail
        exact Post.isv (Ext.refl _) rfl rfl rfl
      -- 6: Op.indexAddr 27 t135 t136
      apply Stage2.step (Is _) true [false, false, false, false, true, true] true false (Is.keeps _) (fun _ => Is.keeps _) (by kernel_rfl)
      · intro w1 h1
        have h1 : Ext _ w1 := h1
        simp only [List.nil_append, List.cons_append, List.map_cons, List.map_nil, Sp.pr, Given]
        rintro _ rfl
        rintro _ rfl
        go_wp2_with fail
        exact Post.isv (Ext.refl _) rfl rfl rfl
      -- 7: Op.fieldAddr 48 t137 3
      apply Stage2.step (Is _) true [false, false, false, false, false, false, true] true false (Is.keeps _) (fun _ => Is.keeps _) (by kernel_rfl)
      · intro w1 h1
        have h1 : Ext _ w1 := h1
        simp only [List.nil_append, List.cons_append, List.map_cons, List.map_nil, Sp.pr, Given]
        rintro _ rfl
        go_wp2_with fail
        exact Post.isv (Ext.refl _) rfl rfl rfl
      -- 8: Op.load 4 t138
      apply Stage2.step (Is (.bool f4)) true [false, false, false, false, false, false, false, true] true false (Is.keeps _) (fun _ => Is.keeps _) (by kernel_rfl)
      · intro w1 h1
        have h1 : Ext _ w1 := h1
        simp only [List.nil_append, List.cons_append, List.map_cons, List.map_nil, Sp.pr, Given]
        rintro _ rfl
        have u1 := h1.cell e3
        go_wp2_with fail
        exact Post.isv (Ext.refl _) rfl rfl rfl
      -- 9: Op.unOp UnOp.not 4 t139
      apply Stage2.step (Is _) true [false, false, false, false, false, false, false, false, true] true false (Is.keeps _) (fun _ => Is.keeps _) (by kernel_rfl)
      · intro w1 h1
        have h1 : Ext _ w1 := h1
        simp only [List.nil_append, List.cons_append, List.map_cons, List.map_nil, Sp.pr, Given]
        rintro _ rfl
        go_wp2_with fail
        exact Post.isv (Ext.refl _) rfl rfl rfl
      -- 10: Op.indexAddr 27 t132 t133
      apply Stage2.step (Is _) true [false, true, true] true false (Is.keeps _) (fun _ => Is.keeps _) (by kernel_rfl)
      · intro w1 h1
        have h1 : Ext _ w1 := h1
        simp only [List.nil_append, List.cons_append, List.map_cons, List.map_nil, Sp.pr, Given]
        rintro _ rfl
        rintro _ rfl
        go_wp2_with fail
        exact Post.isv (Ext.refl _) rfl rfl rfl
      -- 11: Op.fieldAddr 48 t141 3
      apply Stage2.step (Is _) true [false, false, false, false, false, false, false, false, false, false, true] true false (Is.keeps _) (fun _ => Is.keeps _) (by kernel_rfl)
      · intro w1 h1
        have h1 : Ext _ w1 := h1
        simp only [List.nil_append, List.cons_append, List.map_cons, List.map_nil, Sp.pr, Given]
        rintro _ rfl
        go_wp2_with fail
        exact Post.isv (Ext.refl _) rfl rfl rfl
      -- 12: Op.store 4 t142 t140
      apply Stage2.step (AftM w3.heap.size (hdC ⟨q1, q2, q3, q4, q5, q6, ps⟩ (some ⟨g5, 0, none⟩) n1 c5) w4.heap.size (some ⟨g5, 0, none⟩) n1 c5 (ps.set k ⟨f1, f2, f3, !f4⟩)) false [false, false, false, false, false, false, false, false, false, true, false, true] true true (AftM.keeps _ _ _ _ _ _ _) (no_keeps) (by kernel_rfl)
      · intro w1 h1
        have h1 : Ext _ w1 := h1
        simp only [List.nil_append, List.cons_append, List.map_cons, List.map_nil, Sp.pr, Given]
        rintro _ rfl
        rintro _ rfl
        have hown1 := own6.ext mk_rep h1
        have uc := h1.cell e3
        have uf := own_frozen hown1 hkl (k * 4 + 3)
        have HO := Lib.hid hown1
        clear hown1
        go_wp2_with fail
        exact ⟨rfl, rfl, But.setCell (S := fun q => q = g5) (But.refl w6.heap.size (fun q => q = g5) w1) (p := ⟨g5, k * 4 + 3, none⟩) (.inl rfl) _, blk_far (blk_ext B6.out h1) hg5w _, HO.out.setM (j := 3) HX.out (x' := ⟨f1, f2, f3, !f4⟩) (by omega) (v := .bool (!f4)) rfl⟩
      apply Stage2.nil [true, true, true, true, true, true, true, true, true, true, true, true, true] (by kernel_rfl)
      intro w1 h1
      have h1 : (But w6.heap.size (fun q => q = g5)) _ w1 := h1
      simp only [List.nil_append, List.cons_append, List.map_cons, List.map_nil, Sp.pr]
      refine Fin2.is_ ?_
      refine Fin2.is_ ?_
      refine Fin2.is_ ?_
      refine Fin2.is_ ?_
      refine Fin2.is_ ?_
      refine Fin2.is_ ?_
      refine Fin2.is_ ?_
      refine Fin2.is_ ?_
      refine Fin2.is_ ?_
      refine Fin2.is_ ?_
      refine Fin2.is_ ?_
      refine Fin2.is_ ?_
      refine Fin2.step_ ?_
      rintro _ ⟨aw, aown⟩
      refine Fin2.nil_ ?_
      go_simp
      have gxW : Ext w w1 := gx6.but h1 gx6.size (fun g hg => by omega)
      obtain ⟨wf, rfl⟩ : ∃ q, q = w1 := ⟨_, rfl⟩
      have x0 := blk_cell aw 0
      have x1 := blk_cell aw 1
      have x2 := blk_cell aw 2
      have x3 := blk_cell aw 3
      have x4 := blk_cell aw 4
      have x5 := blk_cell aw 5
      have x6 := blk_cell aw 6
      have lW := aown.lst
      have GXW := Lib.hid gxW
      clear aw aown gxW B6 own6 gx6 HX h1 y6 e0 e1 e2 e3 e01
      go_wp2_with fail
      have HSW : Hid (Shorts (ps.set k ⟨f1, f2, f3, !f4⟩)) := shorts_set HSH.out hsx
      obtain ⟨XS, hXS⟩ : ∃ X, ps.set k ⟨f1, f2, f3, !f4⟩ = X := ⟨_, rfl⟩
      rw [hXS] at lW HSW
      clear hXS
      obtain ⟨r, hr⟩ : ∃ q, rightH ⟨q1, q2, q3, q4, q5, q6, XS⟩ = q := ⟨_, rfl⟩
      have HR2 := Lib.hid hr
      obtain ⟨M, hM⟩ : ∃ q, putHr ⟨q1, q2, q3, q4, q5, q6, XS⟩ r = q := ⟨_, rfl⟩
      have HM2 := Lib.hid hM
      clear hr hM
      refine (header_Put ⟨q1, q2, q3, q4, q5, q6, XS⟩ lW HSW (by omega) HR2 HM2).mono ?_
      rintro e w7 ⟨A7, n7, c7, rfl, hb7, hx7⟩
      obtain ⟨er, her⟩ : ∃ q : Int, (if r = true then (0 : Int) else 1) = q := ⟨_, rfl⟩
      rw [her]
      have HER := Lib.hid her
      clear her
      replace x0 := hx7.cell x0
      replace x1 := hx7.cell x1
      replace x2 := hx7.cell x2
      replace x3 := hx7.cell x3
      replace x4 := hx7.cell x4
      replace x5 := hx7.cell x5
      replace x6 := hx7.cell x6
      have gx7 := GXW.out.trans hx7
      replace lW := lW.ext mk_rep hx7
      clear GXW hx7
      go_wp2_with fail
      refine (ref_PutHead ⟨q1, q2, q3, q4, q5, q6, XS⟩ lW HSW (by omega) HR2 HM2).mono ?_
      rintro e w8 ⟨A8, n8, c8, rfl, hb8, hx8⟩
      rw [HER.out]
      replace x0 := hx8.cell x0
      replace x1 := hx8.cell x1
      replace x2 := hx8.cell x2
      replace x3 := hx8.cell x3
      replace x4 := hx8.cell x4
      replace x5 := hx8.cell x5
      replace x6 := hx8.cell x6
      replace gx7 := gx7.trans hx8
      replace lW := lW.ext mk_rep hx8
      have tb7 := hb7.sl.ext hx8
      have tb8 := hb8.sl
      clear hx8 hb7 hb8 HER HM2
      go_wp2_with fail
      refine wp_region_typed2 (R := But w8.heap.size (fun _ => False)) Ext.steady (But.steady _ _) (fun _ _ => But.of_ext) rfl 187 rfl [0, 1, 0, 4, 15, 31, 63, 63, 255, 511, 1023, 2047, 4095, 2047, 16383, 32767, 65535, 131071, 262143, 524287, 1048575] 0 (by kernel_rfl) ?_
      -- 0: Op.move t22
      apply Stage2.step (Is _) true [] true false (Is.keeps _) (fun _ => Is.keeps _) (by kernel_rfl)
      · intro w1 h1
        have h1 : Ext _ w1 := h1
        simp only [List.nil_append, List.cons_append, List.map_cons, List.map_nil, Given]
        go_wp2_with fail
        exact Post.isv (Ext.refl _) rfl rfl rfl
      -- 1: Op.convert 23 9 t167
      apply Stage2.step (Is (.string ⟨M.toArray⟩)) true [true] true false (Is.keeps _) (fun _ => Is.keeps _) (by kernel_rfl)
      · intro w1 h1
        have h1 : Ext _ w1 := h1
        simp only [List.nil_append, List.cons_append, List.map_cons, List.map_nil, Sp.pr, Given]
        rintro _ rfl
        have tx := run_text_u8 (tb7.ext h1)
        go_wp2_with fail
        exact Post.isv (Ext.refl _) rfl rfl rfl
      -- 2: Op.move t24
      apply Stage2.step (Is _) true [] true false (Is.keeps _) (fun _ => Is.keeps _) (by kernel_rfl)
      · intro w1 h1
        have h1 : Ext _ w1 := h1
        simp only [List.nil_append, List.cons_append, List.map_cons, List.map_nil, Given]
        go_wp2_with fail
        exact Post.isv (Ext.refl _) rfl rfl rfl
      -- 3: Op.convert 23 9 t169
      apply Stage2.step (Is (.string ⟨M.toArray⟩)) true [false, false, true] true false (Is.keeps _) (fun _ => Is.keeps _) (by kernel_rfl)
      · intro w1 h1
        have h1 : Ext _ w1 := h1
        simp only [List.nil_append, List.cons_append, List.map_cons, List.map_nil, Sp.pr, Given]
        rintro _ rfl
        have tx := run_text_u8 (tb8.ext h1)
        go_wp2_with fail
        exact Post.isv (Ext.refl _) rfl rfl rfl
      -- 4: Op.binOp BinOp.eql 9 t168 t170 9
      apply Stage2.step (Is (.bool true)) true [false, true, false, true] true false (Is.keeps _) (fun _ => Is.keeps _) (by kernel_rfl)
      · intro w1 h1
        have h1 : Ext _ w1 := h1
        simp only [List.nil_append, List.cons_append, List.map_cons, List.map_nil, Sp.pr, Given]
        rintro _ rfl
        rintro _ rfl
        go_wp2_with fail
        exact Post.isv (Ext.refl _) rfl rfl rfl
      -- 5: Op.move t171
      apply Stage2.step (Is _) true [false, false, false, false, true] true false (Is.keeps _) (fun _ => Is.keeps _) (by kernel_rfl)
      · intro w1 h1
        have h1 : Ext _ w1 := h1
        simp only [List.nil_append, List.cons_append, List.map_cons, List.map_nil, Sp.pr, Given]
        rintro _ rfl
        go_wp2_with fail
        exact Post.isv (Ext.refl _) rfl rfl rfl
      -- 6: Op.move t23   [guarded: some (5, true)]
      apply Stage2.step (Is _) true [false, false, false, false, false, true] true false (Is.keeps _) (fun _ => Is.keeps _) (by kernel_rfl)
      · intro w1 h1
        have h1 : Ext _ w1 := h1
        simp only [List.nil_append, List.cons_append, List.map_cons, List.map_nil, Sp.pr, Given]
        rintro _ rfl
        go_wp2_with fail
        exact Post.isv (Ext.refl _) rfl rfl rfl
      -- 7: Op.move t25   [guarded: some (5, true)]
      apply Stage2.step (Is _) true [false, false, false, false, false, true] true false (Is.keeps _) (fun _ => Is.keeps _) (by kernel_rfl)
      · intro w1 h1
        have h1 : Ext _ w1 := h1
        simp only [List.nil_append, List.cons_append, List.map_cons, List.map_nil, Sp.pr, Given]
        rintro _ rfl
        go_wp2_with fail
        exact Post.isv (Ext.refl _) rfl rfl rfl
      -- 8: Op.binOp BinOp.eql 31 t173 t174 31   [guarded: some (5, true)]
      apply Stage2.step (Is (.bool true)) true [false, false, false, false, false, true, true, true] true false (Is.keeps _) (fun _ => Is.keeps _) (by kernel_rfl)
      · intro w1 h1
        have h1 : Ext _ w1 := h1
        simp only [List.nil_append, List.cons_append, List.map_cons, List.map_nil, Sp.pr, Given]
        rintro _ rfl
        rintro _ rfl
        rintro _ rfl
        go_wp2_with fail
        exact Post.isv (Ext.refl _) rfl rfl rfl
      -- 9: Op.pick t172 t175 (const (Value.bool false))
      apply Stage2.step (Is (.bool true)) true [false, false, false, false, false, true, false, false, true] true false (Is.keeps _) (fun _ => Is.keeps _) (by kernel_rfl)
      · intro w1 h1
        have h1 : Ext _ w1 := h1
        simp only [List.nil_append, List.cons_append, List.map_cons, List.map_nil, Sp.pr, Given]
        rintro _ rfl
        rintro _ rfl
        go_wp2_with fail
        exact Post.isv (Ext.refl _) rfl rfl rfl
      -- 10: Op.move t176
      apply Stage2.step (Is _) true [false, false, false, false, false, false, false, false, false, true] true false (Is.keeps _) (fun _ => Is.keeps _) (by kernel_rfl)
      · intro w1 h1
        have h1 : Ext _ w1 := h1
        simp only [List.nil_append, List.cons_append, List.map_cons, List.map_nil, Sp.pr, Given]
        rintro _ rfl
        go_wp2_with fail
        exact Post.isv (Ext.refl _) rfl rfl rfl
      -- 11: Op.load 43 t20   [guarded: some (10, true)]
      apply Stage2.step (Is (hdV ⟨q1, q2, q3, q4, q5, q6, XS⟩ (some ⟨g5, 0, none⟩) n1 c5)) true [false, false, false, false, false, false, false, false, false, false, true] true false (Is.keeps _) (fun _ => Is.keeps _) (by kernel_rfl)
      · intro w1 h1
        have h1 : Ext _ w1 := h1
        simp only [List.nil_append, List.cons_append, List.map_cons, List.map_nil, Sp.pr, Given]
        rintro _ rfl
        have u0 := h1.cell x0
        have u1 := h1.cell x1
        have u2 := h1.cell x2
        have u3 := h1.cell x3
        have u4 := h1.cell x4
        have u5 := h1.cell x5
        have u6 := h1.cell x6
        go_wp2_with fail
        exact Post.isv (Ext.refl _) rfl rfl rfl
      -- 12: Op.call { value (Operand.func 21), args := #[t178], argTypes := #[43] }   [guarded: some (10, true)]
      apply Stage2.step (Is (.bool r)) true [false, false, false, false, false, false, false, false, false, false, true, true] true false (Is.keeps _) (fun _ => Is.keeps _) (by kernel_rfl)
      · intro w1 h1
        have h1 : Ext _ w1 := h1
        simp only [List.nil_append, List.cons_append, List.map_cons, List.map_nil, Sp.pr, Given]
        rintro _ rfl
        rintro _ rfl
        go_wp2_with fail
        refine (header_Right ⟨q1, q2, q3, q4, q5, q6, XS⟩ (lW.ext mk_rep h1) HSW (by omega) HR2).mono ?_
        rintro e w2 ⟨rfl, hx2⟩
        go_wp2_with fail
        exact Post.isv hx2 rfl rfl rfl
      -- 13: Op.load 43 t20   [guarded: some (10, true)]
      apply Stage2.step (Is (hdV ⟨q1, q2, q3, q4, q5, q6, XS⟩ (some ⟨g5, 0, none⟩) n1 c5)) true [false, false, false, false, false, false, false, false, false, false, true] true false (Is.keeps _) (fun _ => Is.keeps _) (by kernel_rfl)
      · intro w1 h1
        have h1 : Ext _ w1 := h1
        simp only [List.nil_append, List.cons_append, List.map_cons, List.map_nil, Sp.pr, Given]
        rintro _ rfl
        have u0 := h1.cell x0
        have u1 := h1.cell x1
        have u2 := h1.cell x2
        have u3 := h1.cell x3
        have u4 := h1.cell x4
        have u5 := h1.cell x5
        have u6 := h1.cell x6
        go_wp2_with fail
        exact Post.isv (Ext.refl _) rfl rfl rfl
      -- 14: Op.call { value (Operand.func 22), args := #[t180], argTypes := #[43] }   [guarded: some (10, true)]
      apply Stage2.step (Is (.bool r)) true [false, false, false, false, false, false, false, false, false, false, true, false, false, true] true false (Is.keeps _) (fun _ => Is.keeps _) (by kernel_rfl)
      · intro w1 h1
        have h1 : Ext _ w1 := h1
        simp only [List.nil_append, List.cons_append, List.map_cons, List.map_nil, Sp.pr, Given]
        rintro _ rfl
        rintro _ rfl
        go_wp2_with fail
        refine (ref_RightHead ⟨q1, q2, q3, q4, q5, q6, XS⟩ (lW.ext mk_rep h1) HSW (by omega) HR2).mono ?_
        rintro e w2 ⟨rfl, hx2⟩
        go_wp2_with fail
        exact Post.isv hx2 rfl rfl rfl
      -- 15: Op.binOp BinOp.eql 4 t179 t181 4   [guarded: some (10, true)]
      apply Stage2.step (Is (.bool true)) true [false, false, false, false, false, false, false, false, false, false, true, false, true, false, true] true false (Is.keeps _) (fun _ => Is.keeps _) (by kernel_rfl)
      · intro w1 h1
        have h1 : Ext _ w1 := h1
        simp only [List.nil_append, List.cons_append, List.map_cons, List.map_nil, Sp.pr, Given]
        rintro _ rfl
        rintro _ rfl
        rintro _ rfl
        go_wp2_with fail
        exact Post.isv (Ext.refl _) rfl rfl rfl
      -- 16: Op.pick t177 t182 (const (Value.bool false))
      apply Stage2.step (Is (.bool true)) true [false, false, false, false, false, false, false, false, false, false, true, false, false, false, false, true] true false (Is.keeps _) (fun _ => Is.keeps _) (by kernel_rfl)
      · intro w1 h1
        have h1 : Ext _ w1 := h1
        simp only [List.nil_append, List.cons_append, List.map_cons, List.map_nil, Sp.pr, Given]
        rintro _ rfl
        rintro _ rfl
        go_wp2_with fail
        exact Post.isv (Ext.refl _) rfl rfl rfl
      -- 17: Op.move t183
      apply Stage2.step (Is _) true [false, false, false, false, false, false, false, false, false, false, false, false, false, false, false, false, true] true false (Is.keeps _) (fun _ => Is.keeps _) (by kernel_rfl)
      · intro w1 h1
        have h1 : Ext _ w1 := h1
        simp only [List.nil_append, List.cons_append, List.map_cons, List.map_nil, Sp.pr, Given]
        rintro _ rfl
        go_wp2_with fail
        exact Post.isv (Ext.refl _) rfl rfl rfl
      -- 18: Op.call { value (Operand.func 17), args := #[], argTypes := #[] }   [guarded: some (17, true)]
      apply Stage2.step (Is (.bool true)) true [false, false, false, false, false, false, false, false, false, false, false, false, false, false, false, false, false, true] true false (Is.keeps _) (fun _ => Is.keeps _) (by kernel_rfl)
      · intro w1 h1
        have h1 : Ext _ w1 := h1
        simp only [List.nil_append, List.cons_append, List.map_cons, List.map_nil, Sp.pr, Given]
        rintro _ rfl
        go_wp2_with fail
        refine (law8_known _).mono ?_
        rintro e w2 ⟨rfl, hx2⟩
        go_wp2_with fail
        exact Post.isv hx2 rfl rfl rfl
      -- 19: Op.pick t184 t185 (const (Value.bool false))
      apply Stage2.step (Is _) true [false, false, false, false, false, false, false, false, false, false, false, false, false, false, false, false, false, true, true] true false (Is.keeps _) (fun _ => Is.keeps _) (by kernel_rfl)
      · intro w1 h1
        have h1 : Ext _ w1 := h1
        simp only [List.nil_append, List.cons_append, List.map_cons, List.map_nil, Sp.pr, Given]
        rintro _ rfl
        rintro _ rfl
        go_wp2_with fail
        exact Post.isv (Ext.refl _) rfl rfl rfl
      -- 20: Op.assign t186
      apply Stage2.step (Is _) true [false, false, false, false, false, false, false, false, false, false, false, false, false, false, false, false, false, false, false, true] true false (Is.keeps _) (fun _ => Is.keeps _) (by kernel_rfl)
      · intro w1 h1
        have h1 : Ext _ w1 := h1
        simp only [List.nil_append, List.cons_append, List.map_cons, List.map_nil, Sp.pr, Given]
        rintro _ rfl
        go_wp2_with fail
        exact Post.isv (Ext.refl _) rfl rfl rfl
      apply Stage2.nil [true, true, true, true, true, true, true, true, true, true, true, true, true, true, true, true, true, true, true, true, true] (by kernel_rfl)
      intro w1 h1
      have h1 : (Ext) _ w1 := h1
      simp only [List.nil_append, List.cons_append, List.map_cons, List.map_nil, Sp.pr]
      refine Fin2.is_ ?_
      refine Fin2.is_ ?_
      refine Fin2.is_ ?_
      refine Fin2.is_ ?_
      refine Fin2.is_ ?_
      refine Fin2.is_ ?_
      refine Fin2.is_ ?_
      refine Fin2.is_ ?_
      refine Fin2.is_ ?_
      refine Fin2.is_ ?_
      refine Fin2.is_ ?_
      refine Fin2.is_ ?_
      refine Fin2.is_ ?_
      refine Fin2.is_ ?_
      refine Fin2.is_ ?_
      refine Fin2.is_ ?_
      refine Fin2.is_ ?_
      refine Fin2.is_ ?_
      refine Fin2.is_ ?_
      refine Fin2.is_ ?_
      refine Fin2.is_ ?_
      refine Fin2.nil_ ?_
      go_simp
      go_wp2_with fail
      go_ret
      exact ⟨rfl, gx7.trans h1⟩
    · skip
      go_wp2_with (
        at_builtin
        rw [← hw4]
        refine wpList_append_flatB mk_rep (fun x cs w h => mk_nop h) rfl _ _ _ _ rfl w4.heap.size (by rw [World.size_alloc]; omega) TMk TMk im _ 40 under_mks under_mks him hm0 hm1 hm2 rfl _ 0 0 [] rfl (OwnL.nil _ _ _ _) A1 n1 c1 ps rfl ((l1.ext mk_rep gx4).ext mk_rep (Ext.alloc _ _)) n1 (by omega) ps rfl (by simp only [maxLen]; omega) (by omega) ?_
        intro A5 c5 w5 own5 hkeep hext hsz5
        have hx5 := hext w4 (Ext.alloc _ _) (Nat.le_refl _)
        have B5 := Lib.hid (blk_ext B4.out hx5)
        have q6c := blk_cell B5.out 6
        have q6f := blk_frozen B5.out 6
        have B6 : Hid ((w5.setCell ⟨w3.heap.size, 6, none⟩ (.slice A5 n1 c5)).heap[w3.heap.size]? = some (.cells (hdC ⟨q1, q2, q3, q4, q5, q6, ps⟩ A5 n1 c5) THd (0, 0))) := by
          unfold Hid
          have := blk_set B5.out 6 (.slice A5 n1 c5)
          simpa using this
        have own6 : OwnL TMk 4 mkR (w5.setCell ⟨w3.heap.size, 6, none⟩ (.slice A5 n1 c5)) w4.heap.size A5 n1 c5 ps := own5.farM (p := ⟨w3.heap.size, 6, none⟩) (fun g hg => by have := (own5.row_lt g hg).1; simp only; omega) _
        have gx6 : Ext w (w5.setCell ⟨w3.heap.size, 6, none⟩ (.slice A5 n1 c5)) := ((gx1.trans gx4).trans hx5).sets (p := ⟨w3.heap.size, 6, none⟩) hwb _
        have y6 := blk_cell B6.out 6
        clear hx5 B5 hkeep hext hsz5 own5
        obtain ⟨g5, f1, f2, f3, f4, v2, rfl, hg5, hx, hs0, e0, e1, e2, e3, e01, ef⟩ := own_open2 own6 HSH.out hkl
        have hsx := shorts_at HSH.out hx
        have HX := Lib.hid hx
        have HEF := Lib.hid ef
        clear hx ef)
      obtain ⟨w6, hw6⟩ : ∃ q, q = w5.setCell ⟨w3.heap.size, 6, none⟩ (.slice (some ⟨g5, 0, none⟩) n1 c5) := ⟨_, rfl⟩
      rw [← hw6] at B6 own6 gx6 e0 e1 e2 e3 e01 y6
      rw [← hw6]
      clear hw6 q6c q6f HEF
      have hg5w : g5 ≠ w3.heap.size := by omega
      have hg5x : w.heap.size ≤ g5 := by omega
      refine wp_region_typed2 (R := But w6.heap.size (fun q => q = g5)) Ext.steady (But.steady _ _) (fun _ _ => But.of_ext) rfl 187 rfl [0, 1, 0, 0, 8, 24, 56, 120, 255, 511, 1023] 1024 (by kernel_rfl) ?_
      -- 0: Op.fieldAddr 43 t20 4
      apply Stage2.step (Is _) true [] true false (Is.keeps _) (fun _ => Is.keeps _) (by kernel_rfl)
      · intro w1 h1
        have h1 : Ext _ w1 := h1
        simp only [List.nil_append, List.cons_append, List.map_cons, List.map_nil, Given]
        go_wp2_with fail
        exact Post.isv (Ext.refl _) rfl rfl rfl
      -- 1: Op.load 27 t147
      apply Stage2.step (Is (.slice (some ⟨g5, 0, none⟩) n1 c5)) true [true] true false (Is.keeps _) (fun _ => Is.keeps _) (by kernel_rfl)
      · intro w1 h1
        have h1 : Ext _ w1 := h1
        simp only [List.nil_append, List.cons_append, List.map_cons, List.map_nil, Sp.pr, Given]
        rintro _ rfl
        have u6 := h1.cell y6
        go_wp2_with fail
        exact Post.isv (Ext.refl _) rfl rfl rfl
      -- 2: Op.move t21
      apply Stage2.step (Is _) true [] true false (Is.keeps _) (fun _ => Is.keeps _) (by kernel_rfl)
      · intro w1 h1
        have h1 : Ext _ w1 := h1
        simp only [List.nil_append, List.cons_append, List.map_cons, List.map_nil, Given]
        go_wp2_with fail
        exact Post.isv (Ext.refl _) rfl rfl rfl
      -- 3: Op.fieldAddr 43 t20 4
      apply Stage2.step (Is _) true [] true false (Is.keeps _) (fun _ => Is.keeps _) (by kernel_rfl)
      · intro w1 h1
        have h1 : Ext _ w1 := h1
        simp only [List.nil_append, List.cons_append, List.map_cons, List.map_nil, Given]
        go_wp2_with fail
        exact Post.isv (Ext.refl _) rfl rfl rfl
      -- 4: Op.load 27 t150
      apply Stage2.step (Is (.slice (some ⟨g5, 0, none⟩) n1 c5)) true [false, false, false, true] true false (Is.keeps _) (fun _ => Is.keeps _) (by kernel_rfl)
      · intro w1 h1
        have h1 : Ext _ w1 := h1
        simp only [List.nil_append, List.cons_append, List.map_cons, List.map_nil, Sp.pr, Given]
        rintro _ rfl
        have u6 := h1.cell y6
        go_wp2_with fail
        exact Post.isv (Ext.refl _) rfl rfl rfl
      -- 5: Op.indexAddr 27 t151 (const (0:i64))
      apply Stage2.step (Is _) true [false, false, false, false, true] true false (Is.keeps _) (fun _ => Is.keeps _) (by kernel_rfl)
      · intro w1 h1
        have h1 : Ext _ w1 := h1
        simp only [List.nil_append, List.cons_append, List.map_cons, List.map_nil, Sp.pr, Given]
        rintro _ rfl
        go_wp2_with fail
        exact Post.isv (Ext.refl _) rfl rfl rfl
      -- 6: Op.fieldAddr 48 t152 1
      apply Stage2.step (Is _) true [false, false, false, false, false, true] true false (Is.keeps _) (fun _ => Is.keeps _) (by kernel_rfl)
      · intro w1 h1
        have h1 : Ext _ w1 := h1
        simp only [List.nil_append, List.cons_append, List.map_cons, List.map_nil, Sp.pr, Given]
        rintro _ rfl
        go_wp2_with fail
        exact Post.isv (Ext.refl _) rfl rfl rfl
      -- 7: Op.load 9 t153
      apply Stage2.step (Is (.string v2)) true [false, false, false, false, false, false, true] true false (Is.keeps _) (fun _ => Is.keeps _) (by kernel_rfl)
      · intro w1 h1
        have h1 : Ext _ w1 := h1
        simp only [List.nil_append, List.cons_append, List.map_cons, List.map_nil, Sp.pr, Given]
        rintro _ rfl
        have u1 := h1.cell e01
        go_wp2_with fail
        exact Post.isv (Ext.refl _) rfl rfl rfl
      -- 8: Op.indexAddr 27 t148 t149
      apply Stage2.step (Is _) true [false, true, true] true false (Is.keeps _) (fun _ => Is.keeps _) (by kernel_rfl)
      · intro w1 h1
        have h1 : Ext _ w1 := h1
        simp only [List.nil_append, List.cons_append, List.map_cons, List.map_nil, Sp.pr, Given]
        rintro _ rfl
        rintro _ rfl
        go_wp2_with fail
        exact Post.isv (Ext.refl _) rfl rfl rfl
      -- 9: Op.fieldAddr 48 t155 1
      apply Stage2.step (Is _) true [false, false, false, false, false, false, false, false, true] true false (Is.keeps _) (fun _ => Is.keeps _) (by kernel_rfl)
      · intro w1 h1
        have h1 : Ext _ w1 := h1
        simp only [List.nil_append, List.cons_append, List.map_cons, List.map_nil, Sp.pr, Given]
        rintro _ rfl
        go_wp2_with fail
        exact Post.isv (Ext.refl _) rfl rfl rfl
      -- 10: Op.store 9 t156 t154
      apply Stage2.step (AftM w3.heap.size (hdC ⟨q1, q2, q3, q4, q5, q6, ps⟩ (some ⟨g5, 0, none⟩) n1 c5) w4.heap.size (some ⟨g5, 0, none⟩) n1 c5 (ps.set k ⟨f1, v2, f3, f4⟩)) false [false, false, false, false, false, false, false, true, false, true] true true (AftM.keeps _ _ _ _ _ _ _) (no_keeps) (by kernel_rfl)
      · intro w1 h1
        have h1 : Ext _ w1 := h1
        simp only [List.nil_append, List.cons_append, List.map_cons, List.map_nil, Sp.pr, Given]
        rintro _ rfl
        rintro _ rfl
        have hown1 := own6.ext mk_rep h1
        have uc := h1.cell e1
        have uf := own_frozen hown1 hkl (k * 4 + 1)
        have HO := Lib.hid hown1
        clear hown1
        go_wp2_with fail
        exact ⟨rfl, rfl, But.setCell (S := fun q => q = g5) (But.refl w6.heap.size (fun q => q = g5) w1) (p := ⟨g5, k * 4 + 1, none⟩) (.inl rfl) _, blk_far (blk_ext B6.out h1) hg5w _, HO.out.setM (j := 1) HX.out (x' := ⟨f1, v2, f3, f4⟩) (by omega) (v := .string v2) rfl⟩
      apply Stage2.nil [true, true, true, true, true, true, true, true, true, true, true] (by kernel_rfl)
      intro w1 h1
      have h1 : (But w6.heap.size (fun q => q = g5)) _ w1 := h1
      simp only [List.nil_append, List.cons_append, List.map_cons, List.map_nil, Sp.pr]
      refine Fin2.is_ ?_
      refine Fin2.is_ ?_
      refine Fin2.is_ ?_
      refine Fin2.is_ ?_
      refine Fin2.is_ ?_
      refine Fin2.is_ ?_
      refine Fin2.is_ ?_
      refine Fin2.is_ ?_
      refine Fin2.is_ ?_
      refine Fin2.is_ ?_
      refine Fin2.step_ ?_
      rintro _ ⟨aw, aown⟩
      refine Fin2.nil_ ?_
      go_simp
      have gxW : Ext w w1 := gx6.but h1 gx6.size (fun g hg => by omega)
      obtain ⟨wf, rfl⟩ : ∃ q, q = w1 := ⟨_, rfl⟩
      have x0 := blk_cell aw 0
      have x1 := blk_cell aw 1
      have x2 := blk_cell aw 2
      have x3 := blk_cell aw 3
      have x4 := blk_cell aw 4
      have x5 := blk_cell aw 5
      have x6 := blk_cell aw 6
      have lW := aown.lst
      have GXW := Lib.hid gxW
      clear aw aown gxW B6 own6 gx6 HX h1 y6 e0 e1 e2 e3 e01
      go_wp2_with fail
      have HSW : Hid (Shorts (ps.set k ⟨f1, v2, f3, f4⟩)) := shorts_set HSH.out hs0
      obtain ⟨XS, hXS⟩ : ∃ X, ps.set k ⟨f1, v2, f3, f4⟩ = X := ⟨_, rfl⟩
      rw [hXS] at lW HSW
      clear hXS
      obtain ⟨r, hr⟩ : ∃ q, rightH ⟨q1, q2, q3, q4, q5, q6, XS⟩ = q := ⟨_, rfl⟩
      have HR2 := Lib.hid hr
      obtain ⟨M, hM⟩ : ∃ q, putHr ⟨q1, q2, q3, q4, q5, q6, XS⟩ r = q := ⟨_, rfl⟩
      have HM2 := Lib.hid hM
      clear hr hM
      refine (header_Put ⟨q1, q2, q3, q4, q5, q6, XS⟩ lW HSW (by omega) HR2 HM2).mono ?_
      rintro e w7 ⟨A7, n7, c7, rfl, hb7, hx7⟩
      obtain ⟨er, her⟩ : ∃ q : Int, (if r = true then (0 : Int) else 1) = q := ⟨_, rfl⟩
      rw [her]
      have HER := Lib.hid her
      clear her
      replace x0 := hx7.cell x0
      replace x1 := hx7.cell x1
      replace x2 := hx7.cell x2
      replace x3 := hx7.cell x3
      replace x4 := hx7.cell x4
      replace x5 := hx7.cell x5
      replace x6 := hx7.cell x6
      have gx7 := GXW.out.trans hx7
      replace lW := lW.ext mk_rep hx7
      clear GXW hx7
      go_wp2_with fail
      refine (ref_PutHead ⟨q1, q2, q3, q4, q5, q6, XS⟩ lW HSW (by omega) HR2 HM2).mono ?_
      rintro e w8 ⟨A8, n8, c8, rfl, hb8, hx8⟩
      rw [HER.out]
      replace x0 := hx8.cell x0
      replace x1 := hx8.cell x1
      replace x2 := hx8.cell x2
      replace x3 := hx8.cell x3
      replace x4 := hx8.cell x4
      replace x5 := hx8.cell x5
      replace x6 := hx8.cell x6
      replace gx7 := gx7.trans hx8
      replace lW := lW.ext mk_rep hx8
      have tb7 := hb7.sl.ext hx8
      have tb8 := hb8.sl
      clear hx8 hb7 hb8 HER HM2
      go_wp2_with fail
      refine wp_region_typed2 (R := But w8.heap.size (fun _ => False)) Ext.steady (But.steady _ _) (fun _ _ => But.of_ext) rfl 187 rfl [0, 1, 0, 4, 15, 31, 63, 63, 255, 511, 1023, 2047, 4095, 2047, 16383, 32767, 65535, 131071, 262143, 524287, 1048575] 0 (by kernel_rfl) ?_
      -- 0: Op.move t22
      apply Stage2.step (Is _) true [] true false (Is.keeps _) (fun _ => Is.keeps _) (by kernel_rfl)
      · intro w1 h1
        have h1 : Ext _ w1 := h1
        simp only [List.nil_append, List.cons_append, List.map_cons, List.map_nil, Given]
        go_wp2_with fail
        exact Post.isv (Ext.refl _) rfl rfl rfl
      -- 1: Op.convert 23 9 t167
      apply Stage2.step (Is (.string ⟨M.toArray⟩)) true [true] true false (Is.keeps _) (fun _ => Is.keeps _) (by kernel_rfl)
      · intro w1 h1
        have h1 : Ext _ w1 := h1
        simp only [List.nil_append, List.cons_append, List.map_cons, List.map_nil, Sp.pr, Given]
        rintro _ rfl
        have tx := run_text_u8 (tb7.ext h1)
        go_wp2_with fail
        exact Post.isv (Ext.refl _) rfl rfl rfl
      -- 2: Op.move t24
      apply Stage2.step (Is _) true [] true false (Is.keeps _) (fun _ => Is.keeps _) (by kernel_rfl)
      · intro w1 h1
        have h1 : Ext _ w1 := h1
        simp only [List.nil_append, List.cons_append, List.map_cons, List.map_nil, Given]
        go_wp2_with fail
        exact Post.isv (Ext.refl _) rfl rfl rfl
      -- 3: Op.convert 23 9 t169
      apply Stage2.step (Is (.string ⟨M.toArray⟩)) true [false, false, true] true false (Is.keeps _) (fun _ => Is.keeps _) (by kernel_rfl)
      · intro w1 h1
        have h1 : Ext _ w1 := h1
        simp only [List.nil_append, List.cons_append, List.map_cons, List.map_nil, Sp.pr, Given]
        rintro _ rfl
        have tx := run_text_u8 (tb8.ext h1)
        go_wp2_with fail
        exact Post.isv (Ext.refl _) rfl rfl rfl
      -- 4: Op.binOp BinOp.eql 9 t168 t170 9
      apply Stage2.step (Is (.bool true)) true [false, true, false, true] true false (Is.keeps _) (fun _ => Is.keeps _) (by kernel_rfl)
      · intro w1 h1
        have h1 : Ext _ w1 := h1
        simp only [List.nil_append, List.cons_append, List.map_cons, List.map_nil, Sp.pr, Given]
        rintro _ rfl
        rintro _ rfl
        go_wp2_with fail
        exact Post.isv (Ext.refl _) rfl rfl rfl
      -- 5: Op.move t171
      apply Stage2.step (Is _) true [false, false, false, false, true] true false (Is.keeps _) (fun _ => Is.keeps _) (by kernel_rfl)
      · intro w1 h1
        have h1 : Ext _ w1 := h1
        simp only [List.nil_append, List.cons_append, List.map_cons, List.map_nil, Sp.pr, Given]
        rintro _ rfl
        go_wp2_with fail
        exact Post.isv (Ext.refl _) rfl rfl rfl
      -- 6: Op.move t23   [guarded: some (5, true)]
      apply Stage2.step (Is _) true [false, false, false, false, false, true] true false (Is.keeps _) (fun _ => Is.keeps _) (by kernel_rfl)
      · intro w1 h1
        have h1 : Ext _ w1 := h1
        simp only [List.nil_append, List.cons_append, List.map_cons, List.map_nil, Sp.pr, Given]
        rintro _ rfl
        go_wp2_with fail
        exact Post.isv (Ext.refl _) rfl rfl rfl
      -- 7: Op.move t25   [guarded: some (5, true)]
      apply Stage2.step (Is _) true [false, false, false, false, false, true] true false (Is.keeps _) (fun _ => Is.keeps _) (by kernel_rfl)
      · intro w1 h1
        have h1 : Ext _ w1 := h1
        simp only [List.nil_append, List.cons_append, List.map_cons, List.map_nil, Sp.pr, Given]
        rintro _ rfl
        go_wp2_with fail
        exact Post.isv (Ext.refl _) rfl rfl rfl
      -- 8: Op.binOp BinOp.eql 31 t173 t174 31   [guarded: some (5, true)]
      apply Stage2.step (Is (.bool true)) true [false, false, false, false, false, true, true, true] true false (Is.keeps _) (fun _ => Is.keeps _) (by kernel_rfl)
      · intro w1 h1
        have h1 : Ext _ w1 := h1
        simp only [List.nil_append, List.cons_append, List.map_cons, List.map_nil, Sp.pr, Given]
        rintro _ rfl
        rintro _ rfl
        rintro _ rfl
        go_wp2_with fail
        exact Post.isv (Ext.refl _) rfl rfl rfl
      -- 9: Op.pick t172 t175 (const (Value.bool false))
      apply Stage2.step (Is (.bool true)) true [false, false, false, false, false, true, false, false, true] true false (Is.keeps _) (fun _ => Is.keeps _) (by kernel_rfl)
      · intro w1 h1
        have h1 : Ext _ w1 := h1
        simp only [List.nil_append, List.cons_append, List.map_cons, List.map_nil, Sp.pr, Given]
        rintro _ rfl
        rintro _ rfl
        go_wp2_with fail
        exact Post.isv (Ext.refl _) rfl rfl rfl
      -- 10: Op.move t176
      apply Stage2.step (Is _) true [false, false, false, false, false, false, false, false, false, true] true false (Is.keeps _) (fun _ => Is.keeps _) (by kernel_rfl)
      · intro w1 h1
        have h1 : Ext _ w1 := h1
        simp only [List.nil_append, List.cons_append, List.map_cons, List.map_nil, Sp.pr, Given]
        rintro _ rfl
        go_wp2_with fail
        exact Post.isv (Ext.refl _) rfl rfl rfl
      -- 11: Op.load 43 t20   [guarded: some (10, true)]
      apply Stage2.step (Is (hdV ⟨q1, q2, q3, q4, q5, q6, XS⟩ (some ⟨g5, 0, none⟩) n1 c5)) true [false, false, false, false, false, false, false, false, false, false, true] true false (Is.keeps _) (fun _ => Is.keeps _) (by kernel_rfl)
      · intro w1 h1
        have h1 : Ext _ w1 := h1
        simp only [List.nil_append, List.cons_append, List.map_cons, List.map_nil, Sp.pr, Given]
        rintro _ rfl
        have u0 := h1.cell x0
        have u1 := h1.cell x1
        have u2 := h1.cell x2
        have u3 := h1.cell x3
        have u4 := h1.cell x4
        have u5 := h1.cell x5
        have u6 := h1.cell x6
        go_wp2_with fail
        exact Post.isv (Ext.refl _) rfl rfl rfl
      -- 12: Op.call { value (Operand.func 21), args := #[t178], argTypes := #[43] }   [guarded: some (10, true)]
      apply Stage2.step (Is (.bool r)) true [false, false, false, false, false, false, false, false, false, false, true, true] true false (Is.keeps _) (fun _ => Is.keeps _) (by kernel_rfl)
      · intro w1 h1
        have h1 : Ext _ w1 := h1
        simp only [List.nil_append, List.cons_append, List.map_cons, List.map_nil, Sp.pr, Given]
        rintro _ rfl
        rintro _ rfl
        go_wp2_with fail
        refine (header_Right ⟨q1, q2, q3, q4, q5, q6, XS⟩ (lW.ext mk_rep h1) HSW (by omega) HR2).mono ?_
        rintro e w2 ⟨rfl, hx2⟩
        go_wp2_with fail
        exact Post.isv hx2 rfl rfl rfl
      -- 13: Op.load 43 t20   [guarded: some (10, true)]
      apply Stage2.step (Is (hdV ⟨q1, q2, q3, q4, q5, q6, XS⟩ (some ⟨g5, 0, none⟩) n1 c5)) true [false, false, false, false, false, false, false, false, false, false, true] true false (Is.keeps _) (fun _ => Is.keeps _) (by kernel_rfl)
      · intro w1 h1
        have h1 : Ext _ w1 := h1
        simp only [List.nil_append, List.cons_append, List.map_cons, List.map_nil, Sp.pr, Given]
        rintro _ rfl
        have u0 := h1.cell x0
        have u1 := h1.cell x1
        have u2 := h1.cell x2
        have u3 := h1.cell x3
        have u4 := h1.cell x4
        have u5 := h1.cell x5
        have u6 := h1.cell x6
        go_wp2_with fail
        exact Post.isv (Ext.refl _) rfl rfl rfl
      -- 14: Op.call { value (Operand.func 22), args := #[t180], argTypes := #[43] }   [guarded: some (10, true)]
      apply Stage2.step (Is (.bool r)) true [false, false, false, false, false, false, false, false, false, false, true, false, false, true] true false (Is.keeps _) (fun _ => Is.keeps _) (by kernel_rfl)
      · intro w1 h1
        have h1 : Ext _ w1 := h1
        simp only [List.nil_append, List.cons_append, List.map_cons, List.map_nil, Sp.pr, Given]
        rintro _ rfl
        rintro _ rfl
        go_wp2_with fail
        refine (ref_RightHead ⟨q1, q2, q3, q4, q5, q6, XS⟩ (lW.ext mk_rep h1) HSW (by omega) HR2).mono ?_
        rintro e w2 ⟨rfl, hx2⟩
        go_wp2_with fail
        exact Post.isv hx2 rfl rfl rfl
      -- 15: Op.binOp BinOp.eql 4 t179 t181 4   [guarded: some (10, true)]
      apply Stage2.step (Is (.bool true)) true [false, false, false, false, false, false, false, false, false, false, true, false, true, false, true] true false (Is.keeps _) (fun _ => Is.keeps _) (by kernel_rfl)
      · intro w1 h1
        have h1 : Ext _ w1 := h1
        simp only [List.nil_append, List.cons_append, List.map_cons, List.map_nil, Sp.pr, Given]
        rintro _ rfl
        rintro _ rfl
        rintro _ rfl
        go_wp2_with fail
        exact Post.isv (Ext.refl _) rfl rfl rfl
      -- 16: Op.pick t177 t182 (const (Value.bool false))
      apply Stage2.step (Is (.bool true)) true [false, false, false, false, false, false, false, false, false, false, true, false, false, false, false, true] true false (Is.keeps _) (fun _ => Is.keeps _) (by kernel_rfl)
      · intro w1 h1
        have h1 : Ext _ w1 := h1
        simp only [List.nil_append, List.cons_append, List.map_cons, List.map_nil, Sp.pr, Given]
        rintro _ rfl
        rintro _ rfl
        go_wp2_with fail
        exact Post.isv (Ext.refl _) rfl rfl rfl
      -- 17: Op.move t183
      apply Stage2.step (Is _) true [false, false, false, false, false, false, false, false, false, false, false, false, false, false, false, false, true] true false (Is.keeps _) (fun _ => Is.keeps _) (by kernel_rfl)
      · intro w1 h1
        have h1 : Ext _ w1 := h1
        simp only [List.nil_append, List.cons_append, List.map_cons, List.map_nil, Sp.pr, Given]
        rintro _ rfl
        go_wp2_with fail
        exact Post.isv (Ext.refl _) rfl rfl rfl
      -- 18: Op.call { value (Operand.func 17), args := #[], argTypes := #[] }   [guarded: some (17, true)]
      apply Stage2.step (Is (.bool true)) true [false, false, false, false, false, false, false, false, false, false, false, false, false, false, false, false, false, true] true false (Is.keeps _) (fun _ => Is.keeps _) (by kernel_rfl)
      · intro w1 h1
        have h1 : Ext _ w1 := h1
        simp only [List.nil_append, List.cons_append, List.map_cons, List.map_nil, Sp.pr, Given]
        rintro _ rfl
        go_wp2_with fail
        refine (law8_known _).mono ?_
        rintro e w2 ⟨rfl, hx2⟩
        go_wp2_with fail
        exact Post.isv hx2 rfl rfl rfl
      -- 19: Op.pick t184 t185 (const (Value.bool false))
      apply Stage2.step (Is _) true [false, false, false, false, false, false, false, false, false, false, false, false, false, false, false, false, false, true, true] true false (Is.keeps _) (fun _ => Is.keeps _) (by kernel_rfl)
      · intro w1 h1
        have h1 : Ext _ w1 := h1
        simp only [List.nil_append, List.cons_append, List.map_cons, List.map_nil, Sp.pr, Given]
        rintro _ rfl
        rintro _ rfl
        go_wp2_with fail
        exact Post.isv (Ext.refl _) rfl rfl rfl
      -- 20: Op.assign t186
      apply Stage2.step (Is _) true [false, false, false, false, false, false, false, false, false, false, false, false, false, false, false, false, false, false, false, true] true false (Is.keeps _) (fun _ => Is.keeps _) (by kernel_rfl)
      · intro w1 h1
        have h1 : Ext _ w1 := h1
        simp only [List.nil_append, List.cons_append, List.map_cons, List.map_nil, Sp.pr, Given]
        rintro _ rfl
        go_wp2_with fail
        exact Post.isv (Ext.refl _) rfl rfl rfl
      apply Stage2.nil [true, true, true, true, true, true, true, true, true, true, true, true, true, true, true, true, true, true, true, true, true] (by kernel_rfl)
      intro w1 h1
      have h1 : (Ext) _ w1 := h1
      simp only [List.nil_append, List.cons_append, List.map_cons, List.map_nil, Sp.pr]
      refine Fin2.is_ ?_
      refine Fin2.is_ ?_
      refine Fin2.is_ ?_
      refine Fin2.is_ ?_
      refine Fin2.is_ ?_
      refine Fin2.is_ ?_
      refine Fin2.is_ ?_
      refine Fin2.is_ ?_
      refine Fin2.is_ ?_
      refine Fin2.is_ ?_
      refine Fin2.is_ ?_
      refine Fin2.is_ ?_
      refine Fin2.is_ ?_
      refine Fin2.is_ ?_
      refine Fin2.is_ ?_
      refine Fin2.is_ ?_
      refine Fin2.is_ ?_
      refine Fin2.is_ ?_
      refine Fin2.is_ ?_
      refine Fin2.is_ ?_
      refine Fin2.is_ ?_
      refine Fin2.nil_ ?_
      go_simp
      go_wp2_with fail
      go_ret
      exact ⟨rfl, gx7.trans h1⟩
    · skip
      go_wp2_with (
        at_builtin
        rw [← hw4]
        refine wpList_append_flatB mk_rep (fun x cs w h => mk_nop h) rfl _ _ _ _ rfl w4.heap.size (by rw [World.size_alloc]; omega) TMk TMk im _ 40 under_mks under_mks him hm0 hm1 hm2 rfl _ 0 0 [] rfl (OwnL.nil _ _ _ _) A1 n1 c1 ps rfl ((l1.ext mk_rep gx4).ext mk_rep (Ext.alloc _ _)) n1 (by omega) ps rfl (by simp only [maxLen]; omega) (by omega) ?_
        intro A5 c5 w5 own5 hkeep hext hsz5
        have hx5 := hext w4 (Ext.alloc _ _) (Nat.le_refl _)
        have B5 := Lib.hid (blk_ext B4.out hx5)
        have q6c := blk_cell B5.out 6
        have q6f := blk_frozen B5.out 6
        have B6 : Hid ((w5.setCell ⟨w3.heap.size, 6, none⟩ (.slice A5 n1 c5)).heap[w3.heap.size]? = some (.cells (hdC ⟨q1, q2, q3, q4, q5, q6, ps⟩ A5 n1 c5) THd (0, 0))) := by
          unfold Hid
          have := blk_set B5.out 6 (.slice A5 n1 c5)
          simpa using this
        have own6 : OwnL TMk 4 mkR (w5.setCell ⟨w3.heap.size, 6, none⟩ (.slice A5 n1 c5)) w4.heap.size A5 n1 c5 ps := own5.farM (p := ⟨w3.heap.size, 6, none⟩) (fun g hg => by have := (own5.row_lt g hg).1; simp only; omega) _
        have gx6 : Ext w (w5.setCell ⟨w3.heap.size, 6, none⟩ (.slice A5 n1 c5)) := ((gx1.trans gx4).trans hx5).sets (p := ⟨w3.heap.size, 6, none⟩) hwb _
        have y6 := blk_cell B6.out 6
        clear hx5 B5 hkeep hext hsz5 own5
        obtain ⟨g5, f1, f2, f3, f4, v2, rfl, hg5, hx, hs0, e0, e1, e2, e3, e01, ef⟩ := own_open2 own6 HSH.out hkl
        have hsx := shorts_at HSH.out hx
        have efk := ef (k * 4 + 1)
        have hg5w : w3.heap.size ≠ g5 := by omega
        have hg5x : w.heap.size ≤ g5 := by omega
        have BW : ((w5.setCell ⟨w3.heap.size, 6, none⟩ (.slice (some ⟨g5, 0, none⟩) n1 c5)).setCell ⟨g5, k * 4 + 1, none⟩ (.string ⟨#[126, 120]⟩)).heap[w3.heap.size]? = some (.cells (hdC ⟨q1, q2, q3, q4, q5, q6, ps⟩ (some ⟨g5, 0, none⟩) n1 c5) THd (0, 0)) := blk_far B6.out (fun h => hg5w h.symm) _
        have ownW : OwnL TMk 4 mkR ((w5.setCell ⟨w3.heap.size, 6, none⟩ (.slice (some ⟨g5, 0, none⟩) n1 c5)).setCell ⟨g5, k * 4 + 1, none⟩ (.string ⟨#[126, 120]⟩)) w4.heap.size (some ⟨g5, 0, none⟩) n1 c5 (ps.set k ⟨f1, ⟨#[126, 120]⟩, f3, f4⟩) := own6.setM (j := 1) hx (x' := ⟨f1, ⟨#[126, 120]⟩, f3, f4⟩) (by omega) (v := .string ⟨#[126, 120]⟩) rfl
        have gxW : Ext w ((w5.setCell ⟨w3.heap.size, 6, none⟩ (.slice (some ⟨g5, 0, none⟩) n1 c5)).setCell ⟨g5, k * 4 + 1, none⟩ (.string ⟨#[126, 120]⟩)) := gx6.sets (p := ⟨g5, k * 4 + 1, none⟩) hg5x (.string ⟨#[126, 120]⟩)
        clear hx ef
        have x0 := blk_cell BW 0
        have x1 := blk_cell BW 1
        have x2 := blk_cell BW 2
        have x3 := blk_cell BW 3
        have x4 := blk_cell BW 4
        have x5 := blk_cell BW 5
        have x6 := blk_cell BW 6
        have lW := ownW.lst
        have GXW := Lib.hid gxW
        clear ownW gxW BW own6 B6 gx6
        )
      obtain ⟨wf, hwf⟩ : ∃ q, q = (w5.setCell ⟨w3.heap.size, 6, none⟩ (.slice (some ⟨g5, 0, none⟩) n1 c5)).setCell ⟨g5, k * 4 + 1, none⟩ (.string ⟨#[126, 120]⟩) := ⟨_, rfl⟩
      rw [← hwf] at x0 x1 x2 x3 x4 x5 x6 lW GXW
      rw [← hwf]
      clear hwf
      have HSW : Hid (Shorts (ps.set k ⟨f1, ⟨#[126, 120]⟩, f3, f4⟩)) := shorts_set HSH.out (show ByteArray.size ⟨#[126, 120]⟩ ≤ 1000 by decide)
      obtain ⟨XS, hXS⟩ : ∃ X, ps.set k ⟨f1, ⟨#[126, 120]⟩, f3, f4⟩ = X := ⟨_, rfl⟩
      rw [hXS] at lW HSW
      clear hXS
      obtain ⟨r, hr⟩ : ∃ q, rightH ⟨q1, q2, q3, q4, q5, q6, XS⟩ = q := ⟨_, rfl⟩
      have HR2 := Lib.hid hr
      obtain ⟨M, hM⟩ : ∃ q, putHr ⟨q1, q2, q3, q4, q5, q6, XS⟩ r = q := ⟨_, rfl⟩
      have HM2 := Lib.hid hM
      clear hr hM
      refine (header_Put ⟨q1, q2, q3, q4, q5, q6, XS⟩ lW HSW (by omega) HR2 HM2).mono ?_
      rintro e w7 ⟨A7, n7, c7, rfl, hb7, hx7⟩
      obtain ⟨er, her⟩ : ∃ q : Int, (if r = true then (0 : Int) else 1) = q := ⟨_, rfl⟩
      rw [her]
      have HER := Lib.hid her
      clear her
      replace x0 := hx7.cell x0
      replace x1 := hx7.cell x1
      replace x2 := hx7.cell x2
      replace x3 := hx7.cell x3
      replace x4 := hx7.cell x4
      replace x5 := hx7.cell x5
      replace x6 := hx7.cell x6
      have gx7 := GXW.out.trans hx7
      replace lW := lW.ext mk_rep hx7
      clear GXW hx7
      go_wp2_with fail
      refine (ref_PutHead ⟨q1, q2, q3, q4, q5, q6, XS⟩ lW HSW (by omega) HR2 HM2).mono ?_
      rintro e w8 ⟨A8, n8, c8, rfl, hb8, hx8⟩
      rw [HER.out]
      replace x0 := hx8.cell x0
      replace x1 := hx8.cell x1
      replace x2 := hx8.cell x2
      replace x3 := hx8.cell x3
      replace x4 := hx8.cell x4
      replace x5 := hx8.cell x5
      replace x6 := hx8.cell x6
      replace gx7 := gx7.trans hx8
      replace lW := lW.ext mk_rep hx8
      have tb7 := hb7.sl.ext hx8
      have tb8 := hb8.sl
      clear hx8 hb7 hb8 HER HM2
      go_wp2_with fail
      refine wp_region_typed2 (R := But w8.heap.size (fun _ => False)) Ext.steady (But.steady _ _) (fun _ _ => But.of_ext) rfl 187 rfl [0, 1, 0, 4, 15, 31, 63, 63, 255, 511, 1023, 2047, 4095, 2047, 16383, 32767, 65535, 131071, 262143, 524287, 1048575] 0 (by kernel_rfl) ?_
      -- 0: Op.move t22
      apply Stage2.step (Is _) true [] true false (Is.keeps _) (fun _ => Is.keeps _) (by kernel_rfl)
      · intro w1 h1
        have h1 : Ext _ w1 := h1
        simp only [List.nil_append, List.cons_append, List.map_cons, List.map_nil, Given]
        go_wp2_with fail
        exact Post.isv (Ext.refl _) rfl rfl rfl
      -- 1: Op.convert 23 9 t167
      apply Stage2.step (Is (.string ⟨M.toArray⟩)) true [true] true false (Is.keeps _) (fun _ => Is.keeps _) (by kernel_rfl)
      · intro w1 h1
        have h1 : Ext _ w1 := h1
        simp only [List.nil_append, List.cons_append, List.map_cons, List.map_nil, Sp.pr, Given]
        rintro _ rfl
        have tx := run_text_u8 (tb7.ext h1)
        go_wp2_with fail
        exact Post.isv (Ext.refl _) rfl rfl rfl
      -- 2: Op.move t24
      apply Stage2.step (Is _) true [] true false (Is.keeps _) (fun _ => Is.keeps _) (by kernel_rfl)
      · intro w1 h1
        have h1 : Ext _ w1 := h1
        simp only [List.nil_append, List.cons_append, List.map_cons, List.map_nil, Given]
        go_wp2_with fail
        exact Post.isv (Ext.refl _) rfl rfl rfl
      -- 3: Op.convert 23 9 t169
      apply Stage2.step (Is (.string ⟨M.toArray⟩)) true [false, false, true] true false (Is.keeps _) (fun _ => Is.keeps _) (by kernel_rfl)
      · intro w1 h1
        have h1 : Ext _ w1 := h1
        simp only [List.nil_append, List.cons_append, List.map_cons, List.map_nil, Sp.pr, Given]
        rintro _ rfl
        have tx := run_text_u8 (tb8.ext h1)
        go_wp2_with fail
        exact Post.isv (Ext.refl _) rfl rfl rfl
      -- 4: Op.binOp BinOp.eql 9 t168 t170 9
      apply Stage2.step (Is (.bool true)) true [false, true, false, true] true false (Is.keeps _) (fun _ => Is.keeps _) (by kernel_rfl)
      · intro w1 h1
        have h1 : Ext _ w1 := h1
        simp only [List.nil_append, List.cons_append, List.map_cons, List.map_nil, Sp.pr, Given]
        rintro _ rfl
        rintro _ rfl
        go_wp2_with fail
        exact Post.isv (Ext.refl _) rfl rfl rfl
      -- 5: Op.move t171
      apply Stage2.step (Is _) true [false, false, false, false, true] true false (Is.keeps _) (fun _ => Is.keeps _) (by kernel_rfl)
      · intro w1 h1
        have h1 : Ext _ w1 := h1
        simp only [List.nil_append, List.cons_append, List.map_cons, List.map_nil, Sp.pr, Given]
        rintro _ rfl
        go_wp2_with fail
        exact Post.isv (Ext.refl _) rfl rfl rfl
      -- 6: Op.move t23   [guarded: some (5, true)]
      apply Stage2.step (Is _) true [false, false, false, false, false, true] true false (Is.keeps _) (fun _ => Is.keeps _) (by kernel_rfl)
      · intro w1 h1
        have h1 : Ext _ w1 := h1
        simp only [List.nil_append, List.cons_append, List.map_cons, List.map_nil, Sp.pr, Given]
        rintro _ rfl
        go_wp2_with fail
        exact Post.isv (Ext.refl _) rfl rfl rfl
      -- 7: Op.move t25   [guarded: some (5, true)]
      apply Stage2.step (Is _) true [false, false, false, false, false, true] true false (Is.keeps _) (fun _ => Is.keeps _) (by kernel_rfl)
      · intro w1 h1
        have h1 : Ext _ w1 := h1
        simp only [List.nil_append, List.cons_append, List.map_cons, List.map_nil, Sp.pr, Given]
        rintro _ rfl
        go_wp2_with fail
        exact Post.isv (Ext.refl _) rfl rfl rfl
      -- 8: Op.binOp BinOp.eql 31 t173 t174 31   [guarded: some (5, true)]
      apply Stage2.step (Is (.bool true)) true [false, false, false, false, false, true, true, true] true false (Is.keeps _) (fun _ => Is.keeps _) (by kernel_rfl)
      · intro w1 h1
        have h1 : Ext _ w1 := h1
        simp only [List.nil_append, List.cons_append, List.map_cons, List.map_nil, Sp.pr, Given]
        rintro _ rfl
        rintro _ rfl
        rintro _ rfl
        go_wp2_with fail
        exact Post.isv (Ext.refl _) rfl rfl rfl
      -- 9: Op.pick t172 t175 (const (Value.bool false))
      apply Stage2.step (Is (.bool true)) true [false, false, false, false, false, true, false, false, true] true false (Is.keeps _) (fun _ => Is.keeps _) (by kernel_rfl)
      · intro w1 h1
        have h1 : Ext _ w1 := h1
        simp only [List.nil_append, List.cons_append, List.map_cons, List.map_nil, Sp.pr, Given]
        rintro _ rfl
        rintro _ rfl
        go_wp2_with fail
        exact Post.isv (Ext.refl _) rfl rfl rfl
      -- 10: Op.move t176
      apply Stage2.step (Is _) true [false, false, false, false, false, false, false, false, false, true] true false (Is.keeps _) (fun _ => Is.keeps _) (by kernel_rfl)
      · intro w1 h1
        have h1 : Ext _ w1 := h1
        simp only [List.nil_append, List.cons_append, List.map_cons, List.map_nil, Sp.pr, Given]
        rintro _ rfl
        go_wp2_with fail
        exact Post.isv (Ext.refl _) rfl rfl rfl
      -- 11: Op.load 43 t20   [guarded: some (10, true)]
      apply Stage2.step (Is (hdV ⟨q1, q2, q3, q4, q5, q6, XS⟩ (some ⟨g5, 0, none⟩) n1 c5)) true [false, false, false, false, false, false, false, false, false, false, true] true false (Is.keeps _) (fun _ => Is.keeps _) (by kernel_rfl)
      · intro w1 h1
        have h1 : Ext _ w1 := h1
        simp only [List.nil_append, List.cons_append, List.map_cons, List.map_nil, Sp.pr, Given]
        rintro _ rfl
        have u0 := h1.cell x0
        have u1 := h1.cell x1
        have u2 := h1.cell x2
        have u3 := h1.cell x3
        have u4 := h1.cell x4
        have u5 := h1.cell x5
        have u6 := h1.cell x6
        go_wp2_with fail
        exact Post.isv (Ext.refl _) rfl rfl rfl
      -- 12: Op.call { value (Operand.func 21), args := #[t178], argTypes := #[43] }   [guarded: some (10, true)]
      apply Stage2.step (Is (.bool r)) true [false, false, false, false, false, false, false, false, false, false, true, true] true false (Is.keeps _) (fun _ => Is.keeps _) (by kernel_rfl)
      · intro w1 h1
        have h1 : Ext _ w1 := h1
        simp only [List.nil_append, List.cons_append, List.map_cons, List.map_nil, Sp.pr, Given]
        rintro _ rfl
        rintro _ rfl
        go_wp2_with fail
        refine (header_Right ⟨q1, q2, q3, q4, q5, q6, XS⟩ (lW.ext mk_rep h1) HSW (by omega) HR2).mono ?_
        rintro e w2 ⟨rfl, hx2⟩
        go_wp2_with fail
        exact Post.isv hx2 rfl rfl rfl
      -- 13: Op.load 43 t20   [guarded: some (10, true)]
      apply Stage2.step (Is (hdV ⟨q1, q2, q3, q4, q5, q6, XS⟩ (some ⟨g5, 0, none⟩) n1 c5)) true [false, false, false, false, false, false, false, false, false, false, true] true false (Is.keeps _) (fun _ => Is.keeps _) (by kernel_rfl)
      · intro w1 h1
        have h1 : Ext _ w1 := h1
        simp only [List.nil_append, List.cons_append, List.map_cons, List.map_nil, Sp.pr, Given]
        rintro _ rfl
        have u0 := h1.cell x0
        have u1 := h1.cell x1
        have u2 := h1.cell x2
        have u3 := h1.cell x3
        have u4 := h1.cell x4
        have u5 := h1.cell x5
        have u6 := h1.cell x6
        go_wp2_with fail
        exact Post.isv (Ext.refl _) rfl rfl rfl
      -- 14: Op.call { value (Operand.func 22), args := #[t180], argTypes := #[43] }   [guarded: some (10, true)]
      apply Stage2.step (Is (.bool r)) true [false, false, false, false, false, false, false, false, false, false, true, false, false, true] true false (Is.keeps _) (fun _ => Is.keeps _) (by kernel_rfl)
      · intro w1 h1
        have h1 : Ext _ w1 := h1
        simp only [List.nil_append, List.cons_append, List.map_cons, List.map_nil, Sp.pr, Given]
        rintro _ rfl
        rintro _ rfl
        go_wp2_with fail
        refine (ref_RightHead ⟨q1, q2, q3, q4, q5, q6, XS⟩ (lW.ext mk_rep h1) HSW (by omega) HR2).mono ?_
        rintro e w2 ⟨rfl, hx2⟩
        go_wp2_with fail
        exact Post.isv hx2 rfl rfl rfl
      -- 15: Op.binOp BinOp.eql 4 t179 t181 4   [guarded: some (10, true)]
      apply Stage2.step (Is (.bool true)) true [false, false, false, false, false, false, false, false, false, false, true, false, true, false, true] true false (Is.keeps _) (fun _ => Is.keeps _) (by kernel_rfl)
      · intro w1 h1
        have h1 : Ext _ w1 := h1
        simp only [List.nil_append, List.cons_append, List.map_cons, List.map_nil, Sp.pr, Given]
        rintro _ rfl
        rintro _ rfl
        rintro _ rfl
        go_wp2_with fail
        exact Post.isv (Ext.refl _) rfl rfl rfl
      -- 16: Op.pick t177 t182 (const (Value.bool false))
      apply Stage2.step (Is (.bool true)) true [false, false, false, false, false, false, false, false, false, false, true, false, false, false, false, true] true false (Is.keeps _) (fun _ => Is.keeps _) (by kernel_rfl)
      · intro w1 h1
        have h1 : Ext _ w1 := h1
        simp only [List.nil_append, List.cons_append, List.map_cons, List.map_nil, Sp.pr, Given]
        rintro _ rfl
        rintro _ rfl
        go_wp2_with fail
        exact Post.isv (Ext.refl _) rfl rfl rfl
      -- 17: Op.move t183
      apply Stage2.step (Is _) true [false, false, false, false, false, false, false, false, false, false, false, false, false, false, false, false, true] true false (Is.keeps _) (fun _ => Is.keeps _) (by kernel_rfl)
      · intro w1 h1
        have h1 : Ext _ w1 := h1
        simp only [List.nil_append, List.cons_append, List.map_cons, List.map_nil, Sp.pr, Given]
        rintro _ rfl
        go_wp2_with fail
        exact Post.isv (Ext.refl _) rfl rfl rfl
      -- 18: Op.call { value (Operand.func 17), args := #[], argTypes := #[] }   [guarded: some (17, true)]
      apply Stage2.step (Is (.bool true)) true [false, false, false, false, false, false, false, false, false, false, false, false, false, false, false, false, false, true] true false (Is.keeps _) (fun _ => Is.keeps _) (by kernel_rfl)
      · intro w1 h1
        have h1 : Ext _ w1 := h1
        simp only [List.nil_append, List.cons_append, List.map_cons, List.map_nil, Sp.pr, Given]
        rintro _ rfl
        go_wp2_with fail
        refine (law8_known _).mono ?_
        rintro e w2 ⟨rfl, hx2⟩
        go_wp2_with fail
        exact Post.isv hx2 rfl rfl rfl
      -- 19: Op.pick t184 t185 (const (Value.bool false))
      apply Stage2.step (Is _) true [false, false, false, false, false, false, false, false, false, false, false, false, false, false, false, false, false, true, true] true false (Is.keeps _) (fun _ => Is.keeps _) (by kernel_rfl)
      · intro w1 h1
        have h1 : Ext _ w1 := h1
        simp only [List.nil_append, List.cons_append, List.map_cons, List.map_nil, Sp.pr, Given]
        rintro _ rfl
        rintro _ rfl
        go_wp2_with fail
        exact Post.isv (Ext.refl _) rfl rfl rfl
      -- 20: Op.assign t186
      apply Stage2.step (Is _) true [false, false, false, false, false, false, false, false, false, false, false, false, false, false, false, false, false, false, false, true] true false (Is.keeps _) (fun _ => Is.keeps _) (by kernel_rfl)
      · intro w1 h1
        have h1 : Ext _ w1 := h1
        simp only [List.nil_append, List.cons_append, List.map_cons, List.map_nil, Sp.pr, Given]
        rintro _ rfl
        go_wp2_with fail
        exact Post.isv (Ext.refl _) rfl rfl rfl
      apply Stage2.nil [true, true, true, true, true, true, true, true, true, true, true, true, true, true, true, true, true, true, true, true, true] (by kernel_rfl)
      intro w1 h1
      have h1 : (Ext) _ w1 := h1
      simp only [List.nil_append, List.cons_append, List.map_cons, List.map_nil, Sp.pr]
      refine Fin2.is_ ?_
      refine Fin2.is_ ?_
      refine Fin2.is_ ?_
      refine Fin2.is_ ?_
      refine Fin2.is_ ?_
      refine Fin2.is_ ?_
      refine Fin2.is_ ?_
      refine Fin2.is_ ?_
      refine Fin2.is_ ?_
      refine Fin2.is_ ?_
      refine Fin2.is_ ?_
      refine Fin2.is_ ?_
      refine Fin2.is_ ?_
      refine Fin2.is_ ?_
      refine Fin2.is_ ?_
      refine Fin2.is_ ?_
      refine Fin2.is_ ?_
      refine Fin2.is_ ?_
      refine Fin2.is_ ?_
      refine Fin2.is_ ?_
      refine Fin2.is_ ?_
      refine Fin2.nil_ ?_
      go_simp
      go_wp2_with fail
      go_ret
      exact ⟨rfl, gx7.trans h1⟩
end Go.Proofs.Ytoeknbogaclfdaa
