/-
  The walk of one statement of chapter 14: what a snapshot keeps.
-/
import Derived.Test.YtcklkjklepmabaaKnown14
import Derived.Test.YtcklkjklepmabaaFoldLaws
import Derived.Test.YtcklkjklepmabaaOpenEvs
namespace Go.Proofs.Ytcklkjklepmabaa
open Go.RowKit
set_option linter.unusedVariables false
set_option linter.unusedSimpArgs false
set_option linter.unnecessarySimpa false
set_option maxRecDepth 100000


theorem ev_lit {w : World} {A : Option Addr} {n c : Nat} {l : List UInt8} {k o m : Int} {s : ByteArray} (h : Sl w A n c l) (hs : s.size ≤ maxLen) : Lst 5 evR (w.alloc (.cells #[.int .i64 k, .int .i64 o, .int .i64 m, .slice A n c, .string s] TEv)) (some ⟨w.heap.size, 0, none⟩) 1 1 [⟨k, o, m, l, s⟩] := by
  refine ⟨rfl, Nat.le_refl _, by simp [maxLen], [[.int .i64 k, .int .i64 o, .int .i64 m, .slice A n c, .string s]], .cons ⟨A, n, c, rfl, h.ext (Ext.alloc _ _), hs⟩ .nil, ?_⟩
  exact (Own.made w w.heap.size TEv 5 #[.int .i64 k, .int .i64 o, .int .i64 m, .slice A n c, .string s] 1 1 (Nat.le_refl _) (Nat.le_refl _) (by simp [maxLen]) rfl).rd
/-- a row of one event -/
def EvL1 (x : Ev) : Ty := fun v w => ∃ A, v = .slice A 1 1 ∧ Lst 5 evR w A 1 1 [x]
theorem EvL1.keeps (x : Ev) : Keeps Ext (EvL1 x) := fun _ _ _ hx ⟨A, e, h⟩ => ⟨A, e, h.ext ev_rep hx⟩

/-- a value that is an image in memory of its own -/
def StT (B : Nat) (s : St) : Ty := fun v w => ∃ A n c A2 n2 c2, v = stV A n c A2 n2 c2 ∧ StF w B A n c A2 n2 c2 s
theorem StT.keeps (B : Nat) (s : St) : Keeps Ext (StT B s) := fun _ _ _ hx ⟨A, n, c, A2, n2, c2, e, h⟩ => ⟨A, n, c, A2, n2, c2, e, h.ext hx⟩
/-- a pair of an image and a number -/
def StE (B : Nat) (s : St) (r : Nat) : Ty := fun v w => ∃ A n c A2 n2 c2, v = .tuple #[stV A n c A2 n2 c2, .int .i64 r] ∧ StF w B A n c A2 n2 c2 s
theorem StE.keeps (B : Nat) (s : St) (r : Nat) : Keeps Ext (StE B s r) := fun _ _ _ hx ⟨A, n, c, A2, n2, c2, e, h⟩ => ⟨A, n, c, A2, n2, c2, e, h.ext hx⟩
/-- the image in a box -/
def StB (g B : Nat) (s : St) : Ty := fun _ w => ∃ A n c A2 n2 c2, w.cell? ⟨g, 0, none⟩ = some (.slice A n c) ∧ w.cell? ⟨g, 1, none⟩ = some (.slice A2 n2 c2) ∧ (∀ q, w.frozen? ⟨g, q, none⟩ = false) ∧ StF w B A n c A2 n2 c2 s ∧ g < w.heap.size
theorem StB.keeps (g B : Nat) (s : St) : Keeps Ext (StB g B s) := fun _ _ _ hx ⟨A, n, c, A2, n2, c2, h0, h1, hf, h, hg⟩ => ⟨A, n, c, A2, n2, c2, hx.cell h0, hx.cell h1, fun q => frozen_ext hx hg (hf q), h.ext hx, Nat.lt_of_lt_of_le hg hx.size⟩
/-- two cells of a box set -/
theorem stb_set {w : World} {g B B' : Nat} {u0 u1 : Value} {A : Option Addr} {n c : Nat} {A2 : Option Addr} {n2 c2 : Nat} {s : St} (c0 : w.cell? ⟨g, 0, none⟩ = some u0) (c1 : w.cell? ⟨g, 1, none⟩ = some u1) (hf : ∀ q, w.frozen? ⟨g, q, none⟩ = false) (h : StF w B A n c A2 n2 c2 s) (hg : g < B) (hw : g < w.heap.size) (hB : B' ≤ B) (v : Value) :
    StB g B' s v ((w.setCell ⟨g, 0, none⟩ (.slice A n c)).setCell ⟨g, 1, none⟩ (.slice A2 n2 c2)) := by
  refine ⟨A, n, c, A2, n2, c2, ?_, ?_, ?_, ?_, ?_⟩
  · rw [World.cell?_setCell_other _ _ _ _ (fun e => by injection e with e1 e2; omega)]
    exact World.cell?_setCell_same _ _ _ c0
  · exact World.cell?_setCell_same _ _ _ (by rw [World.cell?_setCell_other _ _ _ _ (fun e => by injection e with e1 e2; omega)]; exact c1)
  · intro q
    rw [World.frozen?_setCell, World.frozen?_setCell]
    exact hf q
  · exact ((h.sets (p := ⟨g, 0, none⟩) hg _).sets (p := ⟨g, 1, none⟩) hg _).low hB
  · simp [World.setCell]; omega
theorem but_set2 {w : World} {H g : Nat} (u v : Value) : But H (fun k => k = g) w ((w.setCell ⟨g, 0, none⟩ u).setCell ⟨g, 1, none⟩ v) :=
  But.setCell (S := fun k => k = g) (But.setCell (S := fun k => k = g) (But.refl H (fun k => k = g) w) (p := ⟨g, 0, none⟩) (.inl rfl) u) (p := ⟨g, 1, none⟩) (.inl rfl) v
theorem small_len {xs : List Ev} {m : Nat} (h : smallB xs m = true) : xs.length ≤ m := (of_decide_eq_true h).2
theorem mine_name : nameB ⟨#[109, 105, 110, 101]⟩ = true := by decide +kernel
theorem mine_ne : (⟨#[109, 105, 110, 101]⟩ : ByteArray) ≠ ⟨#[]⟩ := by decide +kernel
theorem mine_not {s : ByteArray} (h : ¬ s = ⟨#[109, 105, 110, 101]⟩) : (!s.toList == [109, 105, 110, 101]) = true := by
  have q0 : (⟨#[109, 105, 110, 101]⟩ : ByteArray).toList = [109, 105, 110, 101] := by rw [ByteArray.toList_eq]
  rw [← q0, bs_ne h]
  rfl
set_option maxHeartbeats 4000000 in
theorem law_ModelSnaps (z : Int) (A : Option Addr) (n c : Nat) (one : List Ev) (A' : Option Addr) (n' c' : Nat) (two : List Ev) (w : World) (hz1 : -9223372036854775808 ≤ z) (hz2 : z ≤ 9223372036854775807) (h : Lst 5 evR w A n c one) (h' : Lst 5 evR w A' n' c' two) :
    Calls Try.prog 12 #[.int .i64 z, .slice A n c, .slice A' n' c'] w fun e w' => e = .returned (.bool true) ∧ Ext w w' := by
  have h63 := h.n63
  have h63' := h'.n63
  obtain ⟨f, hf⟩ : ∃ q, smallB one 40 = q := ⟨_, rfl⟩
  obtain ⟨f2, hf2⟩ : ∃ q, smallB two 40 = q := ⟨_, rfl⟩
  have HF := Lib.hid hf
  have HF2 := Lib.hid hf2
  cases f with
  | false =>
    clear hf hf2
    go_enter Try.func12, Try.ntmps12
    go_wp2_with fail
    refine (keep_Small h (m := 40) (by decide) HF).mono ?_
    rintro e w1 ⟨rfl, gq⟩
    go_wp2_with fail
    refine (law14_known _).mono ?_
    rintro e w9 ⟨rfl, hx1⟩
    go_wp2_with fail
    go_ret
    exact ⟨rfl, gq.trans hx1⟩
  | true =>
    have hnl := small_len hf
    rw [h.len] at hnl
    cases f2 with
    | false =>
      clear hf hf2
      go_enter Try.func12, Try.ntmps12
      go_wp2_with fail
      refine (keep_Small h (m := 40) (by decide) HF).mono ?_
      rintro e w1 ⟨rfl, gq⟩
      have gx := gq
      go_wp2_with fail
      refine (keep_Small (h'.ext ev_rep gx) (m := 40) (by decide) HF2).mono ?_
      rintro e w1 ⟨rfl, gq⟩
      replace gx := gx.trans gq
      go_wp2_with fail
      refine (law14_known _).mono ?_
      rintro e w9 ⟨rfl, hx1⟩
      go_wp2_with fail
      go_ret
      exact ⟨rfl, gx.trans hx1⟩
    | true =>
      have hnl2 := small_len hf2
      rw [h'.len] at hnl2
      have rt0 := right_new z
      obtain ⟨S0, hS0⟩ : ∃ S, newS z = S := ⟨_, rfl⟩
      rw [hS0] at rt0
      have rt1 := right_fold rt0 one
      obtain ⟨S1, hS1⟩ : ∃ S, foldS S0 one = S := ⟨_, rfl⟩
      rw [hS1] at rt1
      have ok0 := okS_right rt0
      have ok1 := okS_right rt1
      have HS0 := Lib.hid hS0
      have HS1 := Lib.hid hS1
      obtain ⟨r, hr⟩ : ∃ r, checkN S1 5 0 0 0 ⟨#[109, 105, 110, 101]⟩ = r := ⟨_, rfl⟩
      have HR := Lib.hid hr
      clear hf hf2 hS0 hS1 rt0
      by_cases hr0 : r = 0
      · subst hr0
        have hk0 := snap_made mine_name hr
        have rt2 := right_apply (l := []) rt1 hr
        obtain ⟨T0, hT0⟩ : ∃ T, applyS S1 5 0 0 [] ⟨#[109, 105, 110, 101]⟩ = T := ⟨_, rfl⟩
        rw [hT0] at hk0 rt2
        have HT0 : Hid (appliedS 0 S1 5 0 0 [] ⟨#[109, 105, 110, 101]⟩ = T0) := Lib.hid (by unfold appliedS; rw [if_pos rfl]; exact hT0)
        replace hk0 := Lib.hid hk0
        replace rt2 := Lib.hid rt2
        clear hr hT0 rt1
        go_enter Try.func12, Try.ntmps12
        go_wp2_with fail
        refine (keep_Small h (m := 40) (by decide) HF).mono ?_
        rintro e w1 ⟨rfl, gq⟩
        have gx := gq
        go_wp2_with fail
        refine (keep_Small (h'.ext ev_rep gx) (m := 40) (by decide) HF2).mono ?_
        rintro e w1 ⟨rfl, gq⟩
        replace gx := gx.trans gq
        clear gq
        go_wp2_with fail
        refine (model_New z _).mono ?_
        rintro e w2 ⟨A2, n2, c2, rfl, k1, gq⟩
        have b2 := k1.1.n63
        rw [HS0.out] at k1
        replace gx := gx.trans gq
        clear gq
        go_wp2_with fail
        refine (model_Fold k1 ok0 (h.ext ev_rep gx)).mono ?_
        rintro e w3 ⟨A3, n3, c3, B3, m3, d3, rfl, ua, gq⟩
        rw [HS1.out] at ua
        have b3 := ua.st.1.n63
        have bb3 := ua.st.2.n63
        replace gx := gx.trans gq
        clear gq k1
        obtain ⟨wp, hW⟩ : ∃ q, w3.alloc (.cells #[.slice A3 n3 c3, .slice B3 m3 d3] TSt) = q := ⟨_, rfl⟩
        obtain ⟨gp, hgp⟩ : ∃ q, w3.heap.size = q := ⟨_, rfl⟩
        have gq : Ext w3 wp := by rw [← hW]; exact Ext.alloc _ _
        have p0 : wp.cell? ⟨gp, 0, none⟩ = some (.slice A3 n3 c3) := by rw [← hW, ← hgp]; exact cell_new w3 _ _ 0
        have p1 : wp.cell? ⟨gp, 1, none⟩ = some (.slice B3 m3 d3) := by rw [← hW, ← hgp]; exact cell_new w3 _ _ 1
        replace gx := gx.trans gq
        replace ua := ua.ext gq
        clear gq
        have hnd := ua.data.sl.len
        have hnm := ua.snaps.len
        obtain ⟨o1, o2, o3⟩ := ok1
        have hn3 : n3 ≤ 1000 := by omega
        have hm3 : m3 ≤ 1000 := by omega
        go_wp2_with fail
        refine (model_Apply ua.st hn3 hm3 o3 (Sl.nil _) (by decide) HR HT0).mono ?_
        rintro e w4 ⟨A4, n4, c4, B4, m4, d4, rfl, ub, gq⟩
        obtain ⟨w5, hW5⟩ : ∃ q, w4.alloc (.cells #[.slice A4 n4 c4, .slice B4 m4 d4] TSt) = q := ⟨_, rfl⟩
        obtain ⟨gs, hgs⟩ : ∃ q, w4.heap.size = q := ⟨_, rfl⟩
        have gq5 : Ext w4 w5 := by rw [← hW5]; exact Ext.alloc _ _
        have hB0 : StB gs wp.heap.size T0 (.bool true) w5 := by
          refine ⟨A4, n4, c4, B4, m4, d4, ?_, ?_, ?_, ub.ext gq5, ?_⟩
          · rw [← hW5, ← hgs]; exact cell_new w4 _ _ 0
          · rw [← hW5, ← hgs]; exact cell_new w4 _ _ 1
          · intro q
            rw [← hW5, ← hgs]
            unfold World.frozen?
            rw [heap_alloc_new]
            simp
          · rw [← hW5, ← hgs]; simp
        have gw5 := gq.trans gq5
        have hpg : gp < wp.heap.size := by rw [← hW, ← hgp]; simp
        have hgw : wp.heap.size ≤ gs := by have := gq.size; omega
        clear gq gq5 ub hW
        go_wp2_with fail
        clear hW5 hgs
        go_loopw [10] (fun i wr => ∃ (k : Nat) (T : St), k ≤ n' ∧ i = .int .i64 k ∧ StB gs wp.heap.size T (.bool true) wr ∧ Hid (keptS T ⟨#[109, 105, 110, 101]⟩ S1.d) ∧ Hid (rightS T = true) ∧ Ext wp wr) (fun i _ => n' - (intOf i).toNat)
        case atStart => exact ⟨0, T0, by omega, rfl, hB0, hk0, rt2, gw5⟩
        case round =>
          obtain ⟨k, T, hk, rfl, ⟨A6, n6, c6, B6, m6, d6, r0, r1, rf, hS, hg⟩, hkT, hrT, gxr⟩ := hrel
          clear hB0 hk0 rt2 gw5 HT0
          have b6 := hS.st.1.n63
          have bb6 := hS.st.2.n63
          by_cases hlt : k < n'
          · obtain ⟨ga, oa, x, cs, rfl, hx, ⟨Aa, na, ca, rfl, sa0, hs⟩, ha⟩ := h'.at2 ev_rep (by omega) hlt
            have gxx := gx.trans gxr
            have a0 : wr.cell? ⟨ga, oa + k * 5, none⟩ = _ := gxx.cell (ha 0 _ rfl)
            have a1 := gxx.cell (ha 1 _ rfl)
            have a2 := gxx.cell (ha 2 _ rfl)
            have a3 := gxx.cell (ha 3 _ rfl)
            have a4 := gxx.cell (ha 4 _ rfl)
            have sa := sa0.ext gxx
            have hna := sa0.n63
            have hka := fun (e : Ev) (hne : e.k ≠ 6 ∨ e.s ≠ ⟨#[109, 105, 110, 101]⟩) => kept_step (e := e) hkT.out hne
            have hra := fun (e : Ev) => right_step (e := e) hrT.out
            obtain ⟨xk, xo, xm, xl, xs'⟩ := x
            simp only at a0 a1 a2 a3 a4 sa hs
            clear ha hx sa0
            by_cases hk6 : xk = 6
            · subst hk6
              by_cases hnm : xs' = ⟨#[109, 105, 110, 101]⟩
              · subst hnm
                have hS8 := hS
                have hg8 := hg
                have x0 := r0
                have x1 := r1
                have xf := rf
                have gx8 := gxr
                have hkT8 := hkT
                have hrT8 := hrT
                obtain ⟨A8, n8, c8, B8, m8, d8, hE⟩ : ∃ A8 n8 c8 B8 m8 d8, (A8, n8, c8, B8, m8, d8) = (A6, n6, c6, B6, m6, d6) := ⟨_, _, _, _, _, _, rfl⟩
                injection hE with e1 e2
                injection e2 with e2 e3
                injection e3 with e3 e4
                injection e4 with e4 e5
                injection e5 with e5 e6
                subst e1 e2 e3 e4 e5 e6
                clear hka hra
                have b8 := hS8.st.1.n63
                have bb8 := hS8.st.2.n63
                have okT := okS_right hrT8.out
                have hl8 := hS8.data.sl.len
                have hm8 := hS8.snaps.len
                obtain ⟨o4, o5, o6⟩ := okT
                have hn8 : n8 ≤ 1000 := by omega
                have hkr := kept_read hkT8.out mine_ne
                rw [hnd] at hkr
                have HR1 := Lib.hid hkr.1
                have HR2 := Lib.hid hkr.2
                have P0 := gx8.cell p0
                have P1 := gx8.cell p1
                clear hkr
                go_wp2_with fail
                refine (model_Read hS8.st hn8 o6 HR1 HR2).mono ?_
                rintro e w9 ⟨A9, n9, c9, rfl, h9, gq⟩
                have b9 := h9.sl.n63
                replace gx8 := gx8.trans gq
                replace P0 := gq.cell P0
                replace P1 := gq.cell P1
                have Y0 := gq.cell x0
                have Y1 := gq.cell x1
                have hS9 := hS8.ext gq
                have hg9 : gs < w9.heap.size := Nat.lt_of_lt_of_le hg8 gq.size
                have Yf : ∀ q, w9.frozen? ⟨gs, q, none⟩ = false := fun q => frozen_ext gq hg8 (xf q)
                have ht := run_text_u8 h9.sl
                have ht2 := run_text_u8 (ua.ext gx8).data.sl
                go_wp2_with fail
                go_roundw
                case rel => exact ⟨k + 1, _, by omega, by go_num, ⟨A8, n8, c8, B8, m8, d8, Y0, Y1, Yf, hS9, hg9⟩, hkT8, hrT8, gx8⟩
                case measure => simp [intOf]; omega
              · have q1 := mine_not hnm
                have hkT8 := Lib.hid (hka ⟨6, xo, xm, xl, xs'⟩ (.inr hnm))
                have hrT8 := Lib.hid (hra ⟨6, xo, xm, xl, xs'⟩)
                have HT8 := Lib.hid (fold_one T ⟨6, xo, xm, xl, xs'⟩)
                obtain ⟨T8, hT8⟩ : ∃ q, stepS T ⟨6, xo, xm, xl, xs'⟩ = q := ⟨_, rfl⟩
                rw [hT8] at hkT8 hrT8 HT8
                have okT0 := okS_right hrT.out
                have hgr := gxr.size
                clear hka hra hT8
                go_wp2_with fail
                refine wp_region_typed2 (R := But wr.heap.size (fun k => k = gs)) Ext.steady (But.steady _ _) (fun _ _ => But.of_ext) rfl 125 rfl [0, 0, 0, 6, 14, 30, 63, 127] 128 (by kernel_rfl) ?_
                -- 0: Op.load 35 t8
                apply Stage2.step (Is _) true [] true false (Is.keeps _) (fun _ => Is.keeps _) (by kernel_rfl)
                · intro w1 h1
                  have h1 : Ext _ w1 := h1
                  simp only [List.nil_append, List.cons_append, List.map_cons, List.map_nil, Given]
                  have hq := h1.cell r0
                  have hq2 := h1.cell r1
                  go_wp2_with fail
                  exact Post.isv (Ext.refl _) rfl rfl rfl
                -- 1: Op.move t2
                apply Stage2.step (Is _) true [] true false (Is.keeps _) (fun _ => Is.keeps _) (by kernel_rfl)
                · intro w1 h1
                  have h1 : Ext _ w1 := h1
                  simp only [List.nil_append, List.cons_append, List.map_cons, List.map_nil, Given]
                  go_wp2_with fail
                  exact Post.isv (Ext.refl _) rfl rfl rfl
                -- 2: Op.move t10
                apply Stage2.step (Is _) true [] true false (Is.keeps _) (fun _ => Is.keeps _) (by kernel_rfl)
                · intro w1 h1
                  have h1 : Ext _ w1 := h1
                  simp only [List.nil_append, List.cons_append, List.map_cons, List.map_nil, Given]
                  go_wp2_with fail
                  exact Post.isv (Ext.refl _) rfl rfl rfl
                -- 3: Op.indexAddr 23 t72 t73
                apply Stage2.step (Is _) true [false, true, true] true false (Is.keeps _) (fun _ => Is.keeps _) (by kernel_rfl)
                · intro w1 h1
                  have h1 : Ext _ w1 := h1
                  simp only [List.nil_append, List.cons_append, List.map_cons, List.map_nil, Sp.pr, Given]
                  rintro _ rfl
                  rintro _ rfl
                  go_wp2_with fail
                  exact Post.isv (Ext.refl _) rfl rfl rfl
                -- 4: Op.load 28 t74
                apply Stage2.step (Is _) true [false, false, false, true] true false (Is.keeps _) (fun _ => Is.keeps _) (by kernel_rfl)
                · intro w1 h1
                  have h1 : Ext _ w1 := h1
                  simp only [List.nil_append, List.cons_append, List.map_cons, List.map_nil, Sp.pr, Given]
                  rintro _ rfl
                  have hq0 := h1.cell a0
                  have hq1 := h1.cell a1
                  have hq2 := h1.cell a2
                  have hq3 := h1.cell a3
                  have hq4 := h1.cell a4
                  go_wp2_with fail
                  exact Post.isv (Ext.refl _) rfl rfl rfl
                -- 5: Op.buildSlice 23 1 #[(0, t75)]
                apply Stage2.step (EvL1 ⟨6, xo, xm, xl, xs'⟩) false [false, false, false, false, true] true false (EvL1.keeps _) (no_keeps) (by kernel_rfl)
                · intro w1 h1
                  have h1 : Ext _ w1 := h1
                  simp only [List.nil_append, List.cons_append, List.map_cons, List.map_nil, Sp.pr, Given]
                  rintro _ rfl
                  have sa1 := sa.ext h1
                  go_wp2_with fail
                  exact ⟨rfl, rfl, Ext.alloc _ _, _, rfl, ev_lit sa1 hs⟩
                -- 6: Op.call { value (Operand.func 48), args := #[t71, t76], argTypes := #[35, 23] }
                apply Stage2.step (StT wr.heap.size T8) false [true, false, false, false, false, true] true false (StT.keeps _ _) (no_keeps) (by kernel_rfl)
                · intro w1 h1
                  have h1 : Ext _ w1 := h1
                  simp only [List.nil_append, List.cons_append, List.map_cons, List.map_nil, Sp.pr, Given]
                  rintro _ rfl
                  rintro _ ⟨A7, rfl, h7⟩
                  go_wp2_with fail
                  refine (model_Fold (hS.st.ext h1) okT0 h7).mono ?_
                  rintro e w7 ⟨A8, n8, c8, B8, m8, d8, rfl, h8, gq⟩
                  rw [HT8.out] at h8
                  go_wp2_with fail
                  exact ⟨rfl, rfl, gq, _, _, _, _, _, _, rfl, h8.low h1.size⟩
                -- 7: Op.store 35 t8 t77
                apply Stage2.step (StB gs wp.heap.size T8) false [false, false, false, false, false, false, true] true true (StB.keeps _ _ _) (no_keeps) (by kernel_rfl)
                · intro w1 h1
                  have h1 : Ext _ w1 := h1
                  simp only [List.nil_append, List.cons_append, List.map_cons, List.map_nil, Sp.pr, Given]
                  rintro _ ⟨A8, n8, c8, B8, m8, d8, rfl, h8⟩
                  have f0 := h1.cell r0
                  have f1 := h1.cell r1
                  have ff : ∀ q, w1.frozen? ⟨gs, q, none⟩ = false := fun q => frozen_ext h1 hg (rf q)
                  have ff0 := ff 0
                  have ff1 := ff 1
                  have hg1 : gs < w1.heap.size := Nat.lt_of_lt_of_le hg h1.size
                  go_wp2_with fail
                  exact ⟨rfl, rfl, but_set2 _ _, stb_set f0 f1 ff h8 hg hg1 hgr _⟩
                apply Stage2.nil [true, true, true, true, true, false, false, true] (by kernel_rfl)
                intro w1 h1
                have h1 : (But wr.heap.size (fun k => k = gs)) _ w1 := h1
                simp only [List.nil_append, List.cons_append, List.map_cons, List.map_nil, Sp.pr]
                refine Fin2.is_ ?_
                refine Fin2.is_ ?_
                refine Fin2.is_ ?_
                refine Fin2.is_ ?_
                refine Fin2.is_ ?_
                refine Fin2.dead_ ?_
                intro dead5
                refine Fin2.dead_ ?_
                intro dead6
                refine Fin2.step_ ?_
                rintro _ ⟨A8, n8, c8, B8, m8, d8, x0, x1, xf, hS8, hg8⟩
                refine Fin2.nil_ ?_
                go_simp
                have gx8 := gxr.but h1 (Nat.le_trans gxr.size (Nat.le_refl _)) (fun g e => by omega)
                have b8 := hS8.st.1.n63
                have bb8 := hS8.st.2.n63
                have okT := okS_right hrT8.out
                have hl8 := hS8.data.sl.len
                have hm8 := hS8.snaps.len
                obtain ⟨o4, o5, o6⟩ := okT
                have hn8 : n8 ≤ 1000 := by omega
                have hkr := kept_read hkT8.out mine_ne
                rw [hnd] at hkr
                have HR1 := Lib.hid hkr.1
                have HR2 := Lib.hid hkr.2
                have P0 := gx8.cell p0
                have P1 := gx8.cell p1
                clear hkr
                go_wp2_with fail
                refine (model_Read hS8.st hn8 o6 HR1 HR2).mono ?_
                rintro e w9 ⟨A9, n9, c9, rfl, h9, gq⟩
                have b9 := h9.sl.n63
                replace gx8 := gx8.trans gq
                replace P0 := gq.cell P0
                replace P1 := gq.cell P1
                have Y0 := gq.cell x0
                have Y1 := gq.cell x1
                have hS9 := hS8.ext gq
                have hg9 : gs < w9.heap.size := Nat.lt_of_lt_of_le hg8 gq.size
                have Yf : ∀ q, w9.frozen? ⟨gs, q, none⟩ = false := fun q => frozen_ext gq hg8 (xf q)
                have ht := run_text_u8 h9.sl
                have ht2 := run_text_u8 (ua.ext gx8).data.sl
                go_wp2_with fail
                go_roundw
                case rel => exact ⟨k + 1, _, by omega, by go_num, ⟨A8, n8, c8, B8, m8, d8, Y0, Y1, Yf, hS9, hg9⟩, hkT8, hrT8, gx8⟩
                case measure => simp [intOf]; omega
            · have q1 : (xk != 6) = true := by simp; omega
              have hkT8 := Lib.hid (hka ⟨xk, xo, xm, xl, xs'⟩ (.inl hk6))
              have hrT8 := Lib.hid (hra ⟨xk, xo, xm, xl, xs'⟩)
              have HT8 := Lib.hid (fold_one T ⟨xk, xo, xm, xl, xs'⟩)
              obtain ⟨T8, hT8⟩ : ∃ q, stepS T ⟨xk, xo, xm, xl, xs'⟩ = q := ⟨_, rfl⟩
              rw [hT8] at hkT8 hrT8 HT8
              have okT0 := okS_right hrT.out
              have hgr := gxr.size
              clear hka hra hT8
              go_wp2_with fail
              refine wp_region_typed2 (R := But wr.heap.size (fun k => k = gs)) Ext.steady (But.steady _ _) (fun _ _ => But.of_ext) rfl 125 rfl [0, 0, 0, 6, 14, 30, 63, 127] 128 (by kernel_rfl) ?_
              -- 0: Op.load 35 t8
              apply Stage2.step (Is _) true [] true false (Is.keeps _) (fun _ => Is.keeps _) (by kernel_rfl)
              · intro w1 h1
                have h1 : Ext _ w1 := h1
                simp only [List.nil_append, List.cons_append, List.map_cons, List.map_nil, Given]
                have hq := h1.cell r0
                have hq2 := h1.cell r1
                go_wp2_with fail
                exact Post.isv (Ext.refl _) rfl rfl rfl
              -- 1: Op.move t2
              apply Stage2.step (Is _) true [] true false (Is.keeps _) (fun _ => Is.keeps _) (by kernel_rfl)
              · intro w1 h1
                have h1 : Ext _ w1 := h1
                simp only [List.nil_append, List.cons_append, List.map_cons, List.map_nil, Given]
                go_wp2_with fail
                exact Post.isv (Ext.refl _) rfl rfl rfl
              -- 2: Op.move t10
              apply Stage2.step (Is _) true [] true false (Is.keeps _) (fun _ => Is.keeps _) (by kernel_rfl)
              · intro w1 h1
                have h1 : Ext _ w1 := h1
                simp only [List.nil_append, List.cons_append, List.map_cons, List.map_nil, Given]
                go_wp2_with fail
                exact Post.isv (Ext.refl _) rfl rfl rfl
              -- 3: Op.indexAddr 23 t72 t73
              apply Stage2.step (Is _) true [false, true, true] true false (Is.keeps _) (fun _ => Is.keeps _) (by kernel_rfl)
              · intro w1 h1
                have h1 : Ext _ w1 := h1
                simp only [List.nil_append, List.cons_append, List.map_cons, List.map_nil, Sp.pr, Given]
                rintro _ rfl
                rintro _ rfl
                go_wp2_with fail
                exact Post.isv (Ext.refl _) rfl rfl rfl
              -- 4: Op.load 28 t74
              apply Stage2.step (Is _) true [false, false, false, true] true false (Is.keeps _) (fun _ => Is.keeps _) (by kernel_rfl)
              · intro w1 h1
                have h1 : Ext _ w1 := h1
                simp only [List.nil_append, List.cons_append, List.map_cons, List.map_nil, Sp.pr, Given]
                rintro _ rfl
                have hq0 := h1.cell a0
                have hq1 := h1.cell a1
                have hq2 := h1.cell a2
                have hq3 := h1.cell a3
                have hq4 := h1.cell a4
                go_wp2_with fail
                exact Post.isv (Ext.refl _) rfl rfl rfl
              -- 5: Op.buildSlice 23 1 #[(0, t75)]
              apply Stage2.step (EvL1 ⟨xk, xo, xm, xl, xs'⟩) false [false, false, false, false, true] true false (EvL1.keeps _) (no_keeps) (by kernel_rfl)
              · intro w1 h1
                have h1 : Ext _ w1 := h1
                simp only [List.nil_append, List.cons_append, List.map_cons, List.map_nil, Sp.pr, Given]
                rintro _ rfl
                have sa1 := sa.ext h1
                go_wp2_with fail
                exact ⟨rfl, rfl, Ext.alloc _ _, _, rfl, ev_lit sa1 hs⟩
              -- 6: Op.call { value (Operand.func 48), args := #[t71, t76], argTypes := #[35, 23] }
              apply Stage2.step (StT wr.heap.size T8) false [true, false, false, false, false, true] true false (StT.keeps _ _) (no_keeps) (by kernel_rfl)
              · intro w1 h1
                have h1 : Ext _ w1 := h1
                simp only [List.nil_append, List.cons_append, List.map_cons, List.map_nil, Sp.pr, Given]
                rintro _ rfl
                rintro _ ⟨A7, rfl, h7⟩
                go_wp2_with fail
                refine (model_Fold (hS.st.ext h1) okT0 h7).mono ?_
                rintro e w7 ⟨A8, n8, c8, B8, m8, d8, rfl, h8, gq⟩
                rw [HT8.out] at h8
                go_wp2_with fail
                exact ⟨rfl, rfl, gq, _, _, _, _, _, _, rfl, h8.low h1.size⟩
              -- 7: Op.store 35 t8 t77
              apply Stage2.step (StB gs wp.heap.size T8) false [false, false, false, false, false, false, true] true true (StB.keeps _ _ _) (no_keeps) (by kernel_rfl)
              · intro w1 h1
                have h1 : Ext _ w1 := h1
                simp only [List.nil_append, List.cons_append, List.map_cons, List.map_nil, Sp.pr, Given]
                rintro _ ⟨A8, n8, c8, B8, m8, d8, rfl, h8⟩
                have f0 := h1.cell r0
                have f1 := h1.cell r1
                have ff : ∀ q, w1.frozen? ⟨gs, q, none⟩ = false := fun q => frozen_ext h1 hg (rf q)
                have ff0 := ff 0
                have ff1 := ff 1
                have hg1 : gs < w1.heap.size := Nat.lt_of_lt_of_le hg h1.size
                go_wp2_with fail
                exact ⟨rfl, rfl, but_set2 _ _, stb_set f0 f1 ff h8 hg hg1 hgr _⟩
              apply Stage2.nil [true, true, true, true, true, false, false, true] (by kernel_rfl)
              intro w1 h1
              have h1 : (But wr.heap.size (fun k => k = gs)) _ w1 := h1
              simp only [List.nil_append, List.cons_append, List.map_cons, List.map_nil, Sp.pr]
              refine Fin2.is_ ?_
              refine Fin2.is_ ?_
              refine Fin2.is_ ?_
              refine Fin2.is_ ?_
              refine Fin2.is_ ?_
              refine Fin2.dead_ ?_
              intro dead5
              refine Fin2.dead_ ?_
              intro dead6
              refine Fin2.step_ ?_
              rintro _ ⟨A8, n8, c8, B8, m8, d8, x0, x1, xf, hS8, hg8⟩
              refine Fin2.nil_ ?_
              go_simp
              have gx8 := gxr.but h1 (Nat.le_trans gxr.size (Nat.le_refl _)) (fun g e => by omega)
              have b8 := hS8.st.1.n63
              have bb8 := hS8.st.2.n63
              have okT := okS_right hrT8.out
              have hl8 := hS8.data.sl.len
              have hm8 := hS8.snaps.len
              obtain ⟨o4, o5, o6⟩ := okT
              have hn8 : n8 ≤ 1000 := by omega
              have hkr := kept_read hkT8.out mine_ne
              rw [hnd] at hkr
              have HR1 := Lib.hid hkr.1
              have HR2 := Lib.hid hkr.2
              have P0 := gx8.cell p0
              have P1 := gx8.cell p1
              clear hkr
              go_wp2_with fail
              refine (model_Read hS8.st hn8 o6 HR1 HR2).mono ?_
              rintro e w9 ⟨A9, n9, c9, rfl, h9, gq⟩
              have b9 := h9.sl.n63
              replace gx8 := gx8.trans gq
              replace P0 := gq.cell P0
              replace P1 := gq.cell P1
              have Y0 := gq.cell x0
              have Y1 := gq.cell x1
              have hS9 := hS8.ext gq
              have hg9 : gs < w9.heap.size := Nat.lt_of_lt_of_le hg8 gq.size
              have Yf : ∀ q, w9.frozen? ⟨gs, q, none⟩ = false := fun q => frozen_ext gq hg8 (xf q)
              have ht := run_text_u8 h9.sl
              have ht2 := run_text_u8 (ua.ext gx8).data.sl
              go_wp2_with fail
              go_roundw
              case rel => exact ⟨k + 1, _, by omega, by go_num, ⟨A8, n8, c8, B8, m8, d8, Y0, Y1, Yf, hS9, hg9⟩, hkT8, hrT8, gx8⟩
              case measure => simp [intOf]; omega
          · obtain ⟨q7, q8⟩ := kept_roll hkT.out mine_name
            obtain ⟨o4, o5, o6⟩ := okS_right hrT.out
            have HR7 := Lib.hid q7
            have HT7 : Hid (appliedS 0 T 7 0 0 [] ⟨#[109, 105, 110, 101]⟩ = ⟨S1.d, T.sn⟩) := Lib.hid (by unfold appliedS; rw [if_pos rfl]; exact q8)
            have hl6 := hS.data.sl.len
            have hm6 := hS.snaps.len
            have hn6 : n6 ≤ 1000 := by omega
            have hm6' : m6 ≤ 1000 := by omega
            have P0 := gxr.cell p0
            have P1 := gxr.cell p1
            clear q7 q8
            go_wp2_with fail
            refine (model_Apply hS.st hn6 hm6' o6 (Sl.nil _) (by decide) HR7 HT7).mono ?_
            rintro e w8 ⟨A8, n8, c8, B8, m8, d8, rfl, h8, gq⟩
            have e1 := h8.snaps.len
            simp only at e1
            rw [hm6] at e1
            subst e1
            have e2 := h8.data.sl.len
            simp only at e2
            rw [hnd] at e2
            subst e2
            obtain ⟨w9, hW9⟩ : ∃ q, w8.alloc (.cells #[.slice A8 n3 c8, .slice B8 m6 d8] TSt) = q := ⟨_, rfl⟩
            have gq9 : Ext w8 w9 := by rw [← hW9]; exact Ext.alloc _ _
            have t0 : w9.cell? ⟨w8.heap.size, 0, none⟩ = some (.slice A8 n3 c8) := by rw [← hW9]; exact cell_new w8 _ _ 0
            have t1 : w9.cell? ⟨w8.heap.size, 1, none⟩ = some (.slice B8 m6 d8) := by rw [← hW9]; exact cell_new w8 _ _ 1
            replace h8 := h8.ext gq9
            replace gq := gq.trans gq9
            replace P0 := gq.cell P0
            replace P1 := gq.cell P1
            have Y0 := gq.cell r0
            have Y1 := gq.cell r1
            have gx9 := gxr.trans gq
            have ht := run_text_u8 h8.data.sl
            have ht2 := run_text_u8 (ua.ext gx9).data.sl
            simp only at ht
            go_wp2_with fail
            refine (law14_known _).mono ?_
            rintro e w10 ⟨rfl, hx1⟩
            go_wp2_with fail
            go_ret
            exact ⟨rfl, (gx.trans gx9).trans hx1⟩
      · have hsn := snap_no mine_name (show checkN S1 5 0 0 0 ⟨#[109, 105, 110, 101]⟩ ≠ 0 by rw [hr]; exact hr0)
        rw [hr] at hsn
        obtain ⟨hr5, hpos⟩ := hsn
        have hr1 : ((r : Int) != 0) = true := by simp; omega
        clear hr rt1 hr0
        rcases hr5 with rfl | rfl
        · clear hr1
          go_enter Try.func12, Try.ntmps12
          go_wp2_with fail
          refine (keep_Small h (m := 40) (by decide) HF).mono ?_
          rintro e w1 ⟨rfl, gq⟩
          have gx := gq
          go_wp2_with fail
          refine (keep_Small (h'.ext ev_rep gx) (m := 40) (by decide) HF2).mono ?_
          rintro e w1 ⟨rfl, gq⟩
          replace gx := gx.trans gq
          clear gq
          go_wp2_with fail
          refine (model_New z _).mono ?_
          rintro e w2 ⟨A2, n2, c2, rfl, k1, gq⟩
          have b2 := k1.1.n63
          rw [HS0.out] at k1
          replace gx := gx.trans gq
          clear gq
          go_wp2_with fail
          refine (model_Fold k1 ok0 (h.ext ev_rep gx)).mono ?_
          rintro e w3 ⟨A3, n3, c3, B3, m3, d3, rfl, ua, gq⟩
          rw [HS1.out] at ua
          have b3 := ua.st.1.n63
          have bb3 := ua.st.2.n63
          replace gx := gx.trans gq
          clear gq k1
          obtain ⟨wp, hW⟩ : ∃ q, w3.alloc (.cells #[.slice A3 n3 c3, .slice B3 m3 d3] TSt) = q := ⟨_, rfl⟩
          obtain ⟨gp, hgp⟩ : ∃ q, w3.heap.size = q := ⟨_, rfl⟩
          have gq : Ext w3 wp := by rw [← hW]; exact Ext.alloc _ _
          have p0 : wp.cell? ⟨gp, 0, none⟩ = some (.slice A3 n3 c3) := by rw [← hW, ← hgp]; exact cell_new w3 _ _ 0
          have p1 : wp.cell? ⟨gp, 1, none⟩ = some (.slice B3 m3 d3) := by rw [← hW, ← hgp]; exact cell_new w3 _ _ 1
          replace gx := gx.trans gq
          replace ua := ua.ext gq
          clear gq
          have hnd := ua.data.sl.len
          have hnm := ua.snaps.len
          obtain ⟨o1, o2, o3⟩ := ok1
          have hn3 : n3 ≤ 1000 := by omega
          have hm3 : m3 ≤ 1000 := by omega
          go_wp2_with fail
          refine (model_Apply ua.st hn3 hm3 o3 (Sl.nil _) (by decide) HR (Lib.hid rfl)).mono ?_
          rintro e w4 ⟨A4, n4, c4, B4, m4, d4, rfl, ub, gq⟩
          have hq1 : decide ((m3 : Int) > 0) = true := by simp; omega
          have hq2 : decide ((0 : Int) < (m3 : Int)) = true := by simp; omega
          obtain ⟨w5, hW5⟩ : ∃ q, w4.alloc (.cells #[.slice A4 n4 c4, .slice B4 m4 d4] TSt) = q := ⟨_, rfl⟩
          have gq5 : Ext w4 w5 := by rw [← hW5]; exact Ext.alloc _ _
          replace gq := gq.trans gq5
          replace p0 := gq.cell p0
          replace p1 := gq.cell p1
          replace gx := gx.trans gq
          clear gq gq5 ub
          go_wp2_with fail
          refine (law14_known _).mono ?_
          rintro e w9 ⟨rfl, hx1⟩
          go_wp2_with fail
          go_ret
          exact ⟨rfl, gx.trans hx1⟩
        · clear hr1
          go_enter Try.func12, Try.ntmps12
          go_wp2_with fail
          refine (keep_Small h (m := 40) (by decide) HF).mono ?_
          rintro e w1 ⟨rfl, gq⟩
          have gx := gq
          go_wp2_with fail
          refine (keep_Small (h'.ext ev_rep gx) (m := 40) (by decide) HF2).mono ?_
          rintro e w1 ⟨rfl, gq⟩
          replace gx := gx.trans gq
          clear gq
          go_wp2_with fail
          refine (model_New z _).mono ?_
          rintro e w2 ⟨A2, n2, c2, rfl, k1, gq⟩
          have b2 := k1.1.n63
          rw [HS0.out] at k1
          replace gx := gx.trans gq
          clear gq
          go_wp2_with fail
          refine (model_Fold k1 ok0 (h.ext ev_rep gx)).mono ?_
          rintro e w3 ⟨A3, n3, c3, B3, m3, d3, rfl, ua, gq⟩
          rw [HS1.out] at ua
          have b3 := ua.st.1.n63
          have bb3 := ua.st.2.n63
          replace gx := gx.trans gq
          clear gq k1
          obtain ⟨wp, hW⟩ : ∃ q, w3.alloc (.cells #[.slice A3 n3 c3, .slice B3 m3 d3] TSt) = q := ⟨_, rfl⟩
          obtain ⟨gp, hgp⟩ : ∃ q, w3.heap.size = q := ⟨_, rfl⟩
          have gq : Ext w3 wp := by rw [← hW]; exact Ext.alloc _ _
          have p0 : wp.cell? ⟨gp, 0, none⟩ = some (.slice A3 n3 c3) := by rw [← hW, ← hgp]; exact cell_new w3 _ _ 0
          have p1 : wp.cell? ⟨gp, 1, none⟩ = some (.slice B3 m3 d3) := by rw [← hW, ← hgp]; exact cell_new w3 _ _ 1
          replace gx := gx.trans gq
          replace ua := ua.ext gq
          clear gq
          have hnd := ua.data.sl.len
          have hnm := ua.snaps.len
          obtain ⟨o1, o2, o3⟩ := ok1
          have hn3 : n3 ≤ 1000 := by omega
          have hm3 : m3 ≤ 1000 := by omega
          go_wp2_with fail
          refine (model_Apply ua.st hn3 hm3 o3 (Sl.nil _) (by decide) HR (Lib.hid rfl)).mono ?_
          rintro e w4 ⟨A4, n4, c4, B4, m4, d4, rfl, ub, gq⟩
          have hq1 : decide ((m3 : Int) > 0) = true := by simp; omega
          have hq2 : decide ((0 : Int) < (m3 : Int)) = true := by simp; omega
          obtain ⟨w5, hW5⟩ : ∃ q, w4.alloc (.cells #[.slice A4 n4 c4, .slice B4 m4 d4] TSt) = q := ⟨_, rfl⟩
          have gq5 : Ext w4 w5 := by rw [← hW5]; exact Ext.alloc _ _
          replace gq := gq.trans gq5
          replace p0 := gq.cell p0
          replace p1 := gq.cell p1
          replace gx := gx.trans gq
          clear gq gq5 ub
          go_wp2_with fail
          refine (law14_known _).mono ?_
          rintro e w9 ⟨rfl, hx1⟩
          go_wp2_with fail
          go_ret
          exact ⟨rfl, gx.trans hx1⟩
end Go.Proofs.Ytcklkjklepmabaa
