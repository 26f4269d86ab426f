/-
  Two images with snapshots: the reference's way from one to the other: contract of its Way.
-/
import Derived.Test.YtcklkjklepmabaaZWay
import Derived.Test.YtcklkjklepmabaaZDiffRefF
import Derived.Test.YtcklkjklepmabaaZRefRight
import Derived.Test.YtcklkjklepmabaaZCore
namespace Go.Proofs.Ytcklkjklepmabaa
open Go.RowKit
set_option linter.unusedVariables false
set_option linter.unusedSimpArgs false
set_option linter.unnecessarySimpa false
set_option maxRecDepth 100000

/-- a list of events that lead from a block on -/
def EvFr (B m : Nat) (l : List Ev) : Ty := fun v w => ∃ A c, v = .slice A m c ∧ Lst 5 (fromR evR B) w A m c l
theorem EvFr.keeps (B m : Nat) (l : List Ev) : Keeps Ext (EvFr B m l) := fun _ _ _ hx ⟨A, c, e, h⟩ => ⟨A, c, e, h.ext (from_rep ev_rep B) hx⟩
/-- the row behind an append -/
def EvOw (B H m : Nat) (row : Option Nat) (l : List Ev) : Ty := fun v w => ∃ A c, v = .slice A m c ∧ OwnL TEv 5 (fromR evR 0) w B A m c l ∧ ∀ g, rowOf A c = some g → (row = some g ∨ H ≤ g)
theorem EvOw.keeps (B H m : Nat) (row : Option Nat) (l : List Ev) : Keeps Ext (EvOw B H m row l) := fun _ _ _ hx ⟨A, c, e, h, hr⟩ => ⟨A, c, e, h.ext (from_rep ev_rep 0) hx, hr⟩
/-- a row of one event that names a snapshot -/
def EvLt (H : Nat) (k : Int) (s : ByteArray) : Ty := fun v w => ∃ g, v = .slice (some ⟨g, 0, none⟩) 1 1 ∧ H ≤ g ∧ w.heap[g]? = some (.cells #[.int .i64 k, .int .i64 0, .int .i64 0, .slice none 0 0, .string s] TEv (0, 0))
theorem EvLt.keeps (H : Nat) (k : Int) (s : ByteArray) : Keeps Ext (EvLt H k s) := fun _ _ _ hx ⟨g, e, h1, h2⟩ => ⟨g, e, h1, by rw [Below.block hx g (Array.getElem?_eq_some_iff.1 h2).1]; exact h2⟩
theorem EvLt.keeps2 {H : Nat} (k : Int) (s : ByteArray) {S : Nat → Prop} (hS : ∀ g, S g → g < H) : Keeps (Bet S) (EvLt H k s) := fun _ _ _ hx ⟨g, e, h1, h2⟩ => ⟨g, e, h1, by rw [hx.block (fun h => by have := hS g h; omega) (Array.getElem?_eq_some_iff.1 h2).1]; exact h2⟩
theorem lit_feed {w : World} {g : Nat} {A : Option Addr} {c : Nat} {k : Int} {s : ByteArray} (h : w.heap[g]? = some (.cells #[.int .i64 k, .int .i64 0, .int .i64 0, .slice none 0 0, .string s] TEv (0, 0))) (hs : s.size ≤ maxLen) : Feed Try.prog 5 (fromR evR 0) w 23 A c (.slice (some ⟨g, 0, none⟩) 1 1) 1 [⟨k, 0, 0, [], s⟩] := by
  have ho : Own w 0 TEv 5 (some ⟨g, 0, none⟩) 1 1 [.int .i64 k, .int .i64 0, .int .i64 0, .slice none 0 0, .string s] := .inr ⟨g, _, rfl, Nat.zero_le _, h, Nat.le_refl _, by simp [maxLen], rfl, rfl, rfl⟩
  refine ⟨rfl, [[.int .i64 k, .int .i64 0, .int .i64 0, .slice none 0 0, .string s]], .cons ⟨⟨none, 0, 0, rfl, Sl.nil _, hs⟩, fun _ _ => Nat.zero_le _⟩ .nil, ho.rd.src 1 under_evs (by
    intro u hu
    simp at hu
    rcases hu with rfl | rfl | rfl | rfl | rfl <;> rfl), fun cs hcs j hj e => ?_⟩
  simp at hcs
  subst hcs
  obtain ⟨ad, e2, _⟩ := pts_ev hj
  cases e2
set_option maxHeartbeats 8000000 in
theorem ref_Way {A : Option Addr} {n c : Nat} {A2 : Option Addr} {n2 c2 : Nat} {s : St} {B : Option Addr} {m d : Nat} {B2 : Option Addr} {m2 d2 : Nat} {t : St} {w : World} (h1 : StR w A n c A2 n2 c2 s) (h2 : StR w B m d B2 m2 d2 t) {R : List Ev} (hR : Hid (wayS s t = R)) :
    Calls Try.prog 29 #[stV A n c A2 n2 c2, stV B m d B2 m2 d2] w fun e w' => ∃ A3 n3 c3, e = .returned (.slice A3 n3 c3) ∧ Lst 5 evR w' A3 n3 c3 R ∧ Ext w w' := by
  have h63 := h1.1.n63
  have h63a := h1.2.n63
  have h63b := h2.1.n63
  have h63c := h2.2.n63
  obtain ⟨ra, hra⟩ : ∃ q, rightS s = q := ⟨_, rfl⟩
  obtain ⟨rb, hrb⟩ : ∃ q, rightS t = q := ⟨_, rfl⟩
  have HRA := Lib.hid hra
  have HRB := Lib.hid hrb
  obtain ⟨W, hW⟩ : ∃ W, (w.alloc (.cells #[.slice A n c, .slice A2 n2 c2] TSt)).alloc (.cells #[.slice B m d, .slice B2 m2 d2] TSt) = W := ⟨_, rfl⟩
  have gW : Ext w W := by rw [← hW]; exact (Ext.alloc _ _).trans (Ext.alloc _ _)
  have s0 : W.cell? ⟨w.heap.size, 0, none⟩ = some (.slice A n c) := by rw [← hW]; exact (Ext.alloc _ _).cell (cell_new w _ _ 0)
  have s1 : W.cell? ⟨w.heap.size, 1, none⟩ = some (.slice A2 n2 c2) := by rw [← hW]; exact (Ext.alloc _ _).cell (cell_new w _ _ 1)
  have u0 : W.cell? ⟨w.heap.size + 1, 0, none⟩ = some (.slice B m d) := by rw [← hW]; have := cell_new (w.alloc (.cells #[.slice A n c, .slice A2 n2 c2] TSt)) #[.slice B m d, .slice B2 m2 d2] TSt 0; simpa using this
  have u1 : W.cell? ⟨w.heap.size + 1, 1, none⟩ = some (.slice B2 m2 d2) := by rw [← hW]; have := cell_new (w.alloc (.cells #[.slice A n c, .slice A2 n2 c2] TSt)) #[.slice B m d, .slice B2 m2 d2] TSt 1; simpa using this
  cases ra with
  | false =>
    obtain rfl : [] = R := by rw [← hR.out]; unfold wayS; rw [hra]; rfl
    clear hra hrb hR
    go_enter Try.func29, Try.ntmps29
    go_wp2_with fail
    clear hW
    refine (ref_Right14 (h1.ext gW) HRA).mono ?_
    rintro e w1 ⟨rfl, gq⟩
    replace s0 := gq.cell s0
    replace s1 := gq.cell s1
    replace u0 := gq.cell u0
    replace u1 := gq.cell u1
    replace gW := gW.trans gq
    clear gq
    go_wp2_with fail
    go_ret
    exact ⟨none, 0, 0, rfl, Lst.nil _, gW⟩
  | true =>
    cases rb with
    | false =>
      obtain rfl : [] = R := by rw [← hR.out]; unfold wayS; rw [hrb]; simp
      clear hra hrb hR
      go_enter Try.func29, Try.ntmps29
      go_wp2_with fail
      clear hW
      refine (ref_Right14 (h1.ext gW) HRA).mono ?_
      rintro e w1 ⟨rfl, gq⟩
      replace s0 := gq.cell s0
      replace s1 := gq.cell s1
      replace u0 := gq.cell u0
      replace u1 := gq.cell u1
      replace gW := gW.trans gq
      clear gq
      go_wp2_with fail
      refine (ref_Right14 (h2.ext gW) HRB).mono ?_
      rintro e w1 ⟨rfl, gq⟩
      replace s0 := gq.cell s0
      replace s1 := gq.cell s1
      replace u0 := gq.cell u0
      replace u1 := gq.cell u1
      replace gW := gW.trans gq
      clear gq
      go_wp2_with fail
      go_ret
      exact ⟨none, 0, 0, rfl, Lst.nil _, gW⟩
    | true =>
      obtain ⟨a1, a2, a3, a4⟩ := right_iff.1 hra
      obtain ⟨b1, b2, b3, b4⟩ := right_iff.1 hrb
      obtain ⟨k0, hk0⟩ : ∃ q, alikeL s.sn t.sn = q := ⟨_, rfl⟩
      have hkl := alike_le s.sn t.sn
      rw [hk0, h1.2.len, h2.2.len] at hkl
      rw [h1.2.len] at a4
      rw [h2.2.len] at b4
      have hRR := hR.out
      unfold wayS at hRR
      rw [hra, hrb, hk0] at hRR
      simp only [Bool.and_self, if_true] at hRR
      replace hR := Lib.hid hRR
      have HK := Lib.hid hk0
      obtain ⟨i0, hi0, hy0, hy1, hy2⟩ := info_parts info_ev
      obtain ⟨j0, hj0, hz0, hz1, hz2⟩ := info_parts info_ol
      obtain ⟨h1d, h1s⟩ := h1
      obtain ⟨h2d, h2s⟩ := h2
      have h1 : StR w A n c A2 n2 c2 s := ⟨h1d, h1s⟩
      have h2 : StR w B m d B2 m2 d2 t := ⟨h2d, h2s⟩
      have hr0 : Hid (0 + alikeL (s.sn.drop 0) (t.sn.drop 0) = k0) := Lib.hid (by rw [List.drop_zero, List.drop_zero, Nat.zero_add]; exact hk0)
      clear hra hrb hk0 hRR HK
      go_enter Try.func29, Try.ntmps29
      go_wp2_with fail
      clear hW
      refine (ref_Right14 (h1.ext gW) HRA).mono ?_
      rintro e w1 ⟨rfl, gq⟩
      replace s0 := gq.cell s0
      replace s1 := gq.cell s1
      replace u0 := gq.cell u0
      replace u1 := gq.cell u1
      replace gW := gW.trans gq
      clear gq
      go_wp2_with fail
      refine (ref_Right14 (h2.ext gW) HRB).mono ?_
      rintro e w1 ⟨rfl, gq⟩
      replace s0 := gq.cell s0
      replace s1 := gq.cell s1
      replace u0 := gq.cell u0
      replace u1 := gq.cell u1
      replace gW := gW.trans gq
      clear gq
      go_wp2_with fail
      obtain ⟨wz, rfl⟩ : ∃ q, q = w1 := ⟨_, rfl⟩
      go_loopw [6] (fun i wr => ∃ k : Nat, k ≤ n2 ∧ i = .int .i64 k ∧ Hid (k + alikeL (s.sn.drop k) (t.sn.drop k) = k0) ∧ Ext wz wr) (fun i _ => n2 - (intOf i).toNat)
      case atStart => exact ⟨0, by omega, rfl, hr0, Ext.refl _⟩
      case round =>
        obtain ⟨k, hk, rfl, hrk, hxz⟩ := hrel
        clear hr0
        replace s0 := hxz.cell s0
        replace s1 := hxz.cell s1
        replace u0 := hxz.cell u0
        replace u1 := hxz.cell u1
        have gz := gW.trans hxz
        by_cases hlt : k < n2
        · have k1 : decide ((k : Int) < (n2 : Int)) = true := by simp; omega
          by_cases hlt2 : k < m2
          · have k2 : decide ((k : Int) < (m2 : Int)) = true := by simp; omega
            obtain ⟨ga, oa, x, cs, rfl, hx, ⟨Aa, na, ca, rfl, sa0, hs⟩, ha⟩ := h1s.at2 ol_rep (by omega) hlt
            obtain ⟨gb, ob, y, cs', rfl, hy, ⟨Ab, nb, cb, rfl, sb0, hs'⟩, hb⟩ := h2s.at2 ol_rep (by omega) hlt2
            have a0 : wr.cell? ⟨ga, oa + k * 2, none⟩ = _ := gz.cell (ha 0 _ rfl)
            have a1 := gz.cell (ha 1 _ rfl)
            have b0 : wr.cell? ⟨gb, ob + k * 2, none⟩ = _ := gz.cell (hb 0 _ rfl)
            have b1c := gz.cell (hb 1 _ rfl)
            have sa := sa0.ext gz
            have sb := sb0.ext gz
            have e1 := drop_stepO hx
            have e2 := drop_stepO hy
            have hro := hrk.out
            rw [e1, e2, alikeL] at hro
            obtain ⟨xn, xd⟩ := x
            obtain ⟨yn, yd⟩ := y
            simp only at a0 a1 b0 b1c sa sb hs hs'
            clear ha hb hx hy sa0 sb0 e1 e2
            by_cases hn : xn = yn
            · have k3 : (xn.toList == yn.toList) = true := by rw [hn]; simp
              by_cases hd : xd = yd
              · rw [if_pos (by rw [hn, hd])] at hro
                replace hrk := Lib.hid (show (k + 1) + alikeL (s.sn.drop (k + 1)) (t.sn.drop (k + 1)) = k0 by omega)
                have k4 : (xd == yd) = true := by simpa using hd
                clear hro hn hd
                go_wp2_with fail
                refine wp_region_typed Ext.steady rfl 124 rfl (by kernel_rfl) ?_
                -- 0: Op.move t6
                apply Stage.step (Is _) [] (Is.keeps _) (by kernel_rfl)
                · intro w1 h1
                  simp only [Given]
                  go_wp2_with fail
                  exact Post.isv (Ext.refl _) rfl rfl rfl
                -- 1: Op.fieldAddr 35 t2 1
                apply Stage.step (Is _) [] (Is.keeps _) (by kernel_rfl)
                · intro w1 h1
                  simp only [Given]
                  go_wp2_with fail
                  exact Post.isv (Ext.refl _) rfl rfl rfl
                -- 2: Op.load 33 t19
                apply Stage.step (Is _) [false, true] (Is.keeps _) (by kernel_rfl)
                · intro w1 h1
                  simp only [List.nil_append, List.cons_append, Given]
                  rintro _ rfl
                  have hq := h1.cell s1
                  go_wp2_with fail
                  exact Post.isv (Ext.refl _) rfl rfl rfl
                -- 3: Op.call { builtin len, args := #[t20], argTypes := #[33] }
                apply Stage.step (Is _) [false, false, true] (Is.keeps _) (by kernel_rfl)
                · intro w1 h1
                  simp only [List.nil_append, List.cons_append, Given]
                  rintro _ rfl
                  go_wp2_with fail
                  exact Post.isv (Ext.refl _) rfl rfl rfl
                -- 4: Op.binOp BinOp.lss 3 t18 t21 3
                apply Stage.step (Is _) [true, false, false, true] (Is.keeps _) (by kernel_rfl)
                · intro w1 h1
                  simp only [List.nil_append, List.cons_append, Given]
                  rintro _ rfl
                  rintro _ rfl
                  go_wp2_with fail
                  exact Post.isv (Ext.refl _) rfl rfl rfl
                -- 5: Op.move t22
                apply Stage.step (Is _) [false, false, false, false, true] (Is.keeps _) (by kernel_rfl)
                · intro w1 h1
                  simp only [List.nil_append, List.cons_append, Given]
                  rintro _ rfl
                  go_wp2_with fail
                  exact Post.isv (Ext.refl _) rfl rfl rfl
                -- 6: Op.move t6   [guarded: some (5, true)]
                apply Stage.step (Is _) [false, false, false, false, false, true] (Is.keeps _) (by kernel_rfl)
                · intro w1 h1
                  simp only [List.nil_append, List.cons_append, Given]
                  rintro _ rfl
                  go_wp2_with fail
                  exact Post.isv (Ext.refl _) rfl rfl rfl
                -- 7: Op.fieldAddr 35 t3 1   [guarded: some (5, true)]
                apply Stage.step (Is _) [false, false, false, false, false, true] (Is.keeps _) (by kernel_rfl)
                · intro w1 h1
                  simp only [List.nil_append, List.cons_append, Given]
                  rintro _ rfl
                  go_wp2_with fail
                  exact Post.isv (Ext.refl _) rfl rfl rfl
                -- 8: Op.load 33 t25   [guarded: some (5, true)]
                apply Stage.step (Is _) [false, false, false, false, false, true, false, true] (Is.keeps _) (by kernel_rfl)
                · intro w1 h1
                  simp only [List.nil_append, List.cons_append, Given]
                  rintro _ rfl
                  rintro _ rfl
                  have hq := h1.cell u1
                  go_wp2_with fail
                  exact Post.isv (Ext.refl _) rfl rfl rfl
                -- 9: Op.call { builtin len, args := #[t26], argTypes := #[33] }   [guarded: some (5, true)]
                apply Stage.step (Is _) [false, false, false, false, false, true, false, false, true] (Is.keeps _) (by kernel_rfl)
                · intro w1 h1
                  simp only [List.nil_append, List.cons_append, Given]
                  rintro _ rfl
                  rintro _ rfl
                  go_wp2_with fail
                  exact Post.isv (Ext.refl _) rfl rfl rfl
                -- 10: Op.binOp BinOp.lss 3 t24 t27 3   [guarded: some (5, true)]
                apply Stage.step (Is _) [false, false, false, false, false, true, true, false, false, true] (Is.keeps _) (by kernel_rfl)
                · intro w1 h1
                  simp only [List.nil_append, List.cons_append, Given]
                  rintro _ rfl
                  rintro _ rfl
                  rintro _ rfl
                  go_wp2_with fail
                  exact Post.isv (Ext.refl _) rfl rfl rfl
                -- 11: Op.pick t23 t28 (const (Value.bool false))
                apply Stage.step (Is _) [false, false, false, false, false, true, false, false, false, false, true] (Is.keeps _) (by kernel_rfl)
                · intro w1 h1
                  simp only [List.nil_append, List.cons_append, Given]
                  rintro _ rfl
                  rintro _ rfl
                  go_wp2_with fail
                  exact Post.isv (Ext.refl _) rfl rfl rfl
                -- 12: Op.move t29
                apply Stage.step (Is _) [false, false, false, false, false, false, false, false, false, false, false, true] (Is.keeps _) (by kernel_rfl)
                · intro w1 h1
                  simp only [List.nil_append, List.cons_append, Given]
                  rintro _ rfl
                  go_wp2_with fail
                  exact Post.isv (Ext.refl _) rfl rfl rfl
                -- 13: Op.fieldAddr 35 t2 1   [guarded: some (12, true)]
                apply Stage.step (Is _) [false, false, false, false, false, false, false, false, false, false, false, false, true] (Is.keeps _) (by kernel_rfl)
                · intro w1 h1
                  simp only [List.nil_append, List.cons_append, Given]
                  rintro _ rfl
                  go_wp2_with fail
                  exact Post.isv (Ext.refl _) rfl rfl rfl
                -- 14: Op.load 33 t31   [guarded: some (12, true)]
                apply Stage.step (Is _) [false, false, false, false, false, false, false, false, false, false, false, false, true, true] (Is.keeps _) (by kernel_rfl)
                · intro w1 h1
                  simp only [List.nil_append, List.cons_append, Given]
                  rintro _ rfl
                  rintro _ rfl
                  have hq := h1.cell s1
                  go_wp2_with fail
                  exact Post.isv (Ext.refl _) rfl rfl rfl
                -- 15: Op.move t6   [guarded: some (12, true)]
                apply Stage.step (Is _) [false, false, false, false, false, false, false, false, false, false, false, false, true] (Is.keeps _) (by kernel_rfl)
                · intro w1 h1
                  simp only [List.nil_append, List.cons_append, Given]
                  rintro _ rfl
                  go_wp2_with fail
                  exact Post.isv (Ext.refl _) rfl rfl rfl
                -- 16: Op.indexAddr 33 t32 t33   [guarded: some (12, true)]
                apply Stage.step (Is _) [false, false, false, false, false, false, false, false, false, false, false, false, true, false, true, true] (Is.keeps _) (by kernel_rfl)
                · intro w1 h1
                  simp only [List.nil_append, List.cons_append, Given]
                  rintro _ rfl
                  rintro _ rfl
                  rintro _ rfl
                  go_wp2_with fail
                  exact Post.isv (Ext.refl _) rfl rfl rfl
                -- 17: Op.fieldAddr 42 t34 0   [guarded: some (12, true)]
                apply Stage.step (Is _) [false, false, false, false, false, false, false, false, false, false, false, false, true, false, false, false, true] (Is.keeps _) (by kernel_rfl)
                · intro w1 h1
                  simp only [List.nil_append, List.cons_append, Given]
                  rintro _ rfl
                  rintro _ rfl
                  go_wp2_with fail
                  exact Post.isv (Ext.refl _) rfl rfl rfl
                -- 18: Op.load 9 t35   [guarded: some (12, true)]
                apply Stage.step (Is _) [false, false, false, false, false, false, false, false, false, false, false, false, true, false, false, false, false, true] (Is.keeps _) (by kernel_rfl)
                · intro w1 h1
                  simp only [List.nil_append, List.cons_append, Given]
                  rintro _ rfl
                  rintro _ rfl
                  have hq := h1.cell a0
                  go_wp2_with fail
                  exact Post.isv (Ext.refl _) rfl rfl rfl
                -- 19: Op.fieldAddr 35 t3 1   [guarded: some (12, true)]
                apply Stage.step (Is _) [false, false, false, false, false, false, false, false, false, false, false, false, true] (Is.keeps _) (by kernel_rfl)
                · intro w1 h1
                  simp only [List.nil_append, List.cons_append, Given]
                  rintro _ rfl
                  go_wp2_with fail
                  exact Post.isv (Ext.refl _) rfl rfl rfl
                -- 20: Op.load 33 t37   [guarded: some (12, true)]
                apply Stage.step (Is _) [false, false, false, false, false, false, false, false, false, false, false, false, true, false, false, false, false, false, false, true] (Is.keeps _) (by kernel_rfl)
                · intro w1 h1
                  simp only [List.nil_append, List.cons_append, Given]
                  rintro _ rfl
                  rintro _ rfl
                  have hq := h1.cell u1
                  go_wp2_with fail
                  exact Post.isv (Ext.refl _) rfl rfl rfl
                -- 21: Op.move t6   [guarded: some (12, true)]
                apply Stage.step (Is _) [false, false, false, false, false, false, false, false, false, false, false, false, true] (Is.keeps _) (by kernel_rfl)
                · intro w1 h1
                  simp only [List.nil_append, List.cons_append, Given]
                  rintro _ rfl
                  go_wp2_with fail
                  exact Post.isv (Ext.refl _) rfl rfl rfl
                -- 22: Op.indexAddr 33 t38 t39   [guarded: some (12, true)]
                apply Stage.step (Is _) [false, false, false, false, false, false, false, false, false, false, false, false, true, false, false, false, false, false, false, false, true, true] (Is.keeps _) (by kernel_rfl)
                · intro w1 h1
                  simp only [List.nil_append, List.cons_append, Given]
                  rintro _ rfl
                  rintro _ rfl
                  rintro _ rfl
                  go_wp2_with fail
                  exact Post.isv (Ext.refl _) rfl rfl rfl
                -- 23: Op.fieldAddr 42 t40 0   [guarded: some (12, true)]
                apply Stage.step (Is _) [false, false, false, false, false, false, false, false, false, false, false, false, true, false, false, false, false, false, false, false, false, false, true] (Is.keeps _) (by kernel_rfl)
                · intro w1 h1
                  simp only [List.nil_append, List.cons_append, Given]
                  rintro _ rfl
                  rintro _ rfl
                  go_wp2_with fail
                  exact Post.isv (Ext.refl _) rfl rfl rfl
                -- 24: Op.load 9 t41   [guarded: some (12, true)]
                apply Stage.step (Is _) [false, false, false, false, false, false, false, false, false, false, false, false, true, false, false, false, false, false, false, false, false, false, false, true] (Is.keeps _) (by kernel_rfl)
                · intro w1 h1
                  simp only [List.nil_append, List.cons_append, Given]
                  rintro _ rfl
                  rintro _ rfl
                  have hq := h1.cell b0
                  go_wp2_with fail
                  exact Post.isv (Ext.refl _) rfl rfl rfl
                -- 25: Op.binOp BinOp.eql 9 t36 t42 9   [guarded: some (12, true)]
                apply Stage.step (Is _) [false, false, false, false, false, false, false, false, false, false, false, false, true, false, false, false, false, false, true, false, false, false, false, false, true] (Is.keeps _) (by kernel_rfl)
                · intro w1 h1
                  simp only [List.nil_append, List.cons_append, Given]
                  rintro _ rfl
                  rintro _ rfl
                  rintro _ rfl
                  go_wp2_with fail
                  exact Post.isv (Ext.refl _) rfl rfl rfl
                -- 26: Op.pick t30 t43 (const (Value.bool false))
                apply Stage.step (Is _) [false, false, false, false, false, false, false, false, false, false, false, false, true, false, false, false, false, false, false, false, false, false, false, false, false, true] (Is.keeps _) (by kernel_rfl)
                · intro w1 h1
                  simp only [List.nil_append, List.cons_append, Given]
                  rintro _ rfl
                  rintro _ rfl
                  go_wp2_with fail
                  exact Post.isv (Ext.refl _) rfl rfl rfl
                -- 27: Op.move t44
                apply Stage.step (Is _) [false, false, false, false, false, false, false, false, false, false, false, false, false, false, false, false, false, false, false, false, false, false, false, false, false, false, true] (Is.keeps _) (by kernel_rfl)
                · intro w1 h1
                  simp only [List.nil_append, List.cons_append, Given]
                  rintro _ rfl
                  go_wp2_with fail
                  exact Post.isv (Ext.refl _) rfl rfl rfl
                -- 28: Op.fieldAddr 35 t2 1   [guarded: some (27, true)]
                apply Stage.step (Is _) [false, false, false, false, false, false, false, false, false, false, false, false, false, false, false, false, false, false, false, false, false, false, false, false, false, false, false, true] (Is.keeps _) (by kernel_rfl)
                · intro w1 h1
                  simp only [List.nil_append, List.cons_append, Given]
                  rintro _ rfl
                  go_wp2_with fail
                  exact Post.isv (Ext.refl _) rfl rfl rfl
                -- 29: Op.load 33 t46   [guarded: some (27, true)]
                apply Stage.step (Is _) [false, false, false, false, false, false, false, false, false, false, false, false, false, false, false, false, false, false, false, false, false, false, false, false, false, false, false, true, true] (Is.keeps _) (by kernel_rfl)
                · intro w1 h1
                  simp only [List.nil_append, List.cons_append, Given]
                  rintro _ rfl
                  rintro _ rfl
                  have hq := h1.cell s1
                  go_wp2_with fail
                  exact Post.isv (Ext.refl _) rfl rfl rfl
                -- 30: Op.move t6   [guarded: some (27, true)]
                apply Stage.step (Is _) [false, false, false, false, false, false, false, false, false, false, false, false, false, false, false, false, false, false, false, false, false, false, false, false, false, false, false, true] (Is.keeps _) (by kernel_rfl)
                · intro w1 h1
                  simp only [List.nil_append, List.cons_append, Given]
                  rintro _ rfl
                  go_wp2_with fail
                  exact Post.isv (Ext.refl _) rfl rfl rfl
                -- 31: Op.indexAddr 33 t47 t48   [guarded: some (27, true)]
                apply Stage.step (Is _) [false, false, false, false, false, false, false, false, false, false, false, false, false, false, false, false, false, false, false, false, false, false, false, false, false, false, false, true, false, true, true] (Is.keeps _) (by kernel_rfl)
                · intro w1 h1
                  simp only [List.nil_append, List.cons_append, Given]
                  rintro _ rfl
                  rintro _ rfl
                  rintro _ rfl
                  go_wp2_with fail
                  exact Post.isv (Ext.refl _) rfl rfl rfl
                -- 32: Op.fieldAddr 42 t49 1   [guarded: some (27, true)]
                apply Stage.step (Is _) [false, false, false, false, false, false, false, false, false, false, false, false, false, false, false, false, false, false, false, false, false, false, false, false, false, false, false, true, false, false, false, true] (Is.keeps _) (by kernel_rfl)
                · intro w1 h1
                  simp only [List.nil_append, List.cons_append, Given]
                  rintro _ rfl
                  rintro _ rfl
                  go_wp2_with fail
                  exact Post.isv (Ext.refl _) rfl rfl rfl
                -- 33: Op.load 22 t50   [guarded: some (27, true)]
                apply Stage.step (Is _) [false, false, false, false, false, false, false, false, false, false, false, false, false, false, false, false, false, false, false, false, false, false, false, false, false, false, false, true, false, false, false, false, true] (Is.keeps _) (by kernel_rfl)
                · intro w1 h1
                  simp only [List.nil_append, List.cons_append, Given]
                  rintro _ rfl
                  rintro _ rfl
                  have hq := h1.cell a1
                  go_wp2_with fail
                  exact Post.isv (Ext.refl _) rfl rfl rfl
                -- 34: Op.convert 22 9 t51   [guarded: some (27, true)]
                apply Stage.step (Is _) [false, false, false, false, false, false, false, false, false, false, false, false, false, false, false, false, false, false, false, false, false, false, false, false, false, false, false, true, false, false, false, false, false, true] (Is.keeps _) (by kernel_rfl)
                · intro w1 h1
                  simp only [List.nil_append, List.cons_append, Given]
                  rintro _ rfl
                  rintro _ rfl
                  have ht := run_text_u8 (sa.ext h1)
                  go_wp2_with fail
                  exact Post.isv (Ext.refl _) rfl rfl rfl
                -- 35: Op.fieldAddr 35 t3 1   [guarded: some (27, true)]
                apply Stage.step (Is _) [false, false, false, false, false, false, false, false, false, false, false, false, false, false, false, false, false, false, false, false, false, false, false, false, false, false, false, true] (Is.keeps _) (by kernel_rfl)
                · intro w1 h1
                  simp only [List.nil_append, List.cons_append, Given]
                  rintro _ rfl
                  go_wp2_with fail
                  exact Post.isv (Ext.refl _) rfl rfl rfl
                -- 36: Op.load 33 t53   [guarded: some (27, true)]
                apply Stage.step (Is _) [false, false, false, false, false, false, false, false, false, false, false, false, false, false, false, false, false, false, false, false, false, false, false, false, false, false, false, true, false, false, false, false, false, false, false, true] (Is.keeps _) (by kernel_rfl)
                · intro w1 h1
                  simp only [List.nil_append, List.cons_append, Given]
                  rintro _ rfl
                  rintro _ rfl
                  have hq := h1.cell u1
                  go_wp2_with fail
                  exact Post.isv (Ext.refl _) rfl rfl rfl
                -- 37: Op.move t6   [guarded: some (27, true)]
                apply Stage.step (Is _) [false, false, false, false, false, false, false, false, false, false, false, false, false, false, false, false, false, false, false, false, false, false, false, false, false, false, false, true] (Is.keeps _) (by kernel_rfl)
                · intro w1 h1
                  simp only [List.nil_append, List.cons_append, Given]
                  rintro _ rfl
                  go_wp2_with fail
                  exact Post.isv (Ext.refl _) rfl rfl rfl
                -- 38: Op.indexAddr 33 t54 t55   [guarded: some (27, true)]
                apply Stage.step (Is _) [false, false, false, false, false, false, false, false, false, false, false, false, false, false, false, false, false, false, false, false, false, false, false, false, false, false, false, true, false, false, false, false, false, false, false, false, true, true] (Is.keeps _) (by kernel_rfl)
                · intro w1 h1
                  simp only [List.nil_append, List.cons_append, Given]
                  rintro _ rfl
                  rintro _ rfl
                  rintro _ rfl
                  go_wp2_with fail
                  exact Post.isv (Ext.refl _) rfl rfl rfl
                -- 39: Op.fieldAddr 42 t56 1   [guarded: some (27, true)]
                apply Stage.step (Is _) [false, false, false, false, false, false, false, false, false, false, false, false, false, false, false, false, false, false, false, false, false, false, false, false, false, false, false, true, false, false, false, false, false, false, false, false, false, false, true] (Is.keeps _) (by kernel_rfl)
                · intro w1 h1
                  simp only [List.nil_append, List.cons_append, Given]
                  rintro _ rfl
                  rintro _ rfl
                  go_wp2_with fail
                  exact Post.isv (Ext.refl _) rfl rfl rfl
                -- 40: Op.load 22 t57   [guarded: some (27, true)]
                apply Stage.step (Is _) [false, false, false, false, false, false, false, false, false, false, false, false, false, false, false, false, false, false, false, false, false, false, false, false, false, false, false, true, false, false, false, false, false, false, false, false, false, false, false, true] (Is.keeps _) (by kernel_rfl)
                · intro w1 h1
                  simp only [List.nil_append, List.cons_append, Given]
                  rintro _ rfl
                  rintro _ rfl
                  have hq := h1.cell b1c
                  go_wp2_with fail
                  exact Post.isv (Ext.refl _) rfl rfl rfl
                -- 41: Op.convert 22 9 t58   [guarded: some (27, true)]
                apply Stage.step (Is _) [false, false, false, false, false, false, false, false, false, false, false, false, false, false, false, false, false, false, false, false, false, false, false, false, false, false, false, true, false, false, false, false, false, false, false, false, false, false, false, false, true] (Is.keeps _) (by kernel_rfl)
                · intro w1 h1
                  simp only [List.nil_append, List.cons_append, Given]
                  rintro _ rfl
                  rintro _ rfl
                  have ht := run_text_u8 (sb.ext h1)
                  go_wp2_with fail
                  exact Post.isv (Ext.refl _) rfl rfl rfl
                -- 42: Op.binOp BinOp.eql 9 t52 t59 9   [guarded: some (27, true)]
                apply Stage.step (Is _) [false, false, false, false, false, false, false, false, false, false, false, false, false, false, false, false, false, false, false, false, false, false, false, false, false, false, false, true, false, false, false, false, false, false, true, false, false, false, false, false, false, true] (Is.keeps _) (by kernel_rfl)
                · intro w1 h1
                  simp only [List.nil_append, List.cons_append, Given]
                  rintro _ rfl
                  rintro _ rfl
                  rintro _ rfl
                  go_wp2_with fail
                  exact Post.isv (Ext.refl _) rfl rfl rfl
                -- 43: Op.pick t45 t60 (const (Value.bool false))
                apply Stage.step (Is _) [false, false, false, false, false, false, false, false, false, false, false, false, false, false, false, false, false, false, false, false, false, false, false, false, false, false, false, true, false, false, false, false, false, false, false, false, false, false, false, false, false, false, true] (Is.keeps _) (by kernel_rfl)
                · intro w1 h1
                  simp only [List.nil_append, List.cons_append, Given]
                  rintro _ rfl
                  rintro _ rfl
                  go_wp2_with fail
                  exact Post.isv (Ext.refl _) rfl rfl rfl
                apply Stage.nil
                intro w1 h1
                simp only [List.nil_append, List.cons_append]
                refine Fin.is_ ?_
                refine Fin.is_ ?_
                refine Fin.is_ ?_
                refine Fin.is_ ?_
                refine Fin.is_ ?_
                refine Fin.is_ ?_
                refine Fin.is_ ?_
                refine Fin.is_ ?_
                refine Fin.is_ ?_
                refine Fin.is_ ?_
                refine Fin.is_ ?_
                refine Fin.is_ ?_
                refine Fin.is_ ?_
                refine Fin.is_ ?_
                refine Fin.is_ ?_
                refine Fin.is_ ?_
                refine Fin.is_ ?_
                refine Fin.is_ ?_
                refine Fin.is_ ?_
                refine Fin.is_ ?_
                refine Fin.is_ ?_
                refine Fin.is_ ?_
                refine Fin.is_ ?_
                refine Fin.is_ ?_
                refine Fin.is_ ?_
                refine Fin.is_ ?_
                refine Fin.is_ ?_
                refine Fin.is_ ?_
                refine Fin.is_ ?_
                refine Fin.is_ ?_
                refine Fin.is_ ?_
                refine Fin.is_ ?_
                refine Fin.is_ ?_
                refine Fin.is_ ?_
                refine Fin.is_ ?_
                refine Fin.is_ ?_
                refine Fin.is_ ?_
                refine Fin.is_ ?_
                refine Fin.is_ ?_
                refine Fin.is_ ?_
                refine Fin.is_ ?_
                refine Fin.is_ ?_
                refine Fin.is_ ?_
                refine Fin.is_ ?_
                refine Fin.nil_ ?_
                go_simp
                go_wp2_with fail
                go_roundw
                case rel => exact ⟨k + 1, by omega, by go_num, hrk, hxz.trans h1⟩
                case measure => simp [intOf]; omega
              · rw [if_neg (by intro e; injection e with e1 e2; exact hd e2)] at hro
                obtain rfl : k = k0 := by omega
                have k4 : (xd == yd) = false := by simpa using hd
                clear hro hn hd hrk
                go_wp2_with fail
                refine wp_region_typed Ext.steady rfl 124 rfl (by kernel_rfl) ?_
                -- 0: Op.move t6
                apply Stage.step (Is _) [] (Is.keeps _) (by kernel_rfl)
                · intro w1 h1
                  simp only [Given]
                  go_wp2_with fail
                  exact Post.isv (Ext.refl _) rfl rfl rfl
                -- 1: Op.fieldAddr 35 t2 1
                apply Stage.step (Is _) [] (Is.keeps _) (by kernel_rfl)
                · intro w1 h1
                  simp only [Given]
                  go_wp2_with fail
                  exact Post.isv (Ext.refl _) rfl rfl rfl
                -- 2: Op.load 33 t19
                apply Stage.step (Is _) [false, true] (Is.keeps _) (by kernel_rfl)
                · intro w1 h1
                  simp only [List.nil_append, List.cons_append, Given]
                  rintro _ rfl
                  have hq := h1.cell s1
                  go_wp2_with fail
                  exact Post.isv (Ext.refl _) rfl rfl rfl
                -- 3: Op.call { builtin len, args := #[t20], argTypes := #[33] }
                apply Stage.step (Is _) [false, false, true] (Is.keeps _) (by kernel_rfl)
                · intro w1 h1
                  simp only [List.nil_append, List.cons_append, Given]
                  rintro _ rfl
                  go_wp2_with fail
                  exact Post.isv (Ext.refl _) rfl rfl rfl
                -- 4: Op.binOp BinOp.lss 3 t18 t21 3
                apply Stage.step (Is _) [true, false, false, true] (Is.keeps _) (by kernel_rfl)
                · intro w1 h1
                  simp only [List.nil_append, List.cons_append, Given]
                  rintro _ rfl
                  rintro _ rfl
                  go_wp2_with fail
                  exact Post.isv (Ext.refl _) rfl rfl rfl
                -- 5: Op.move t22
                apply Stage.step (Is _) [false, false, false, false, true] (Is.keeps _) (by kernel_rfl)
                · intro w1 h1
                  simp only [List.nil_append, List.cons_append, Given]
                  rintro _ rfl
                  go_wp2_with fail
                  exact Post.isv (Ext.refl _) rfl rfl rfl
                -- 6: Op.move t6   [guarded: some (5, true)]
                apply Stage.step (Is _) [false, false, false, false, false, true] (Is.keeps _) (by kernel_rfl)
                · intro w1 h1
                  simp only [List.nil_append, List.cons_append, Given]
                  rintro _ rfl
                  go_wp2_with fail
                  exact Post.isv (Ext.refl _) rfl rfl rfl
                -- 7: Op.fieldAddr 35 t3 1   [guarded: some (5, true)]
                apply Stage.step (Is _) [false, false, false, false, false, true] (Is.keeps _) (by kernel_rfl)
                · intro w1 h1
                  simp only [List.nil_append, List.cons_append, Given]
                  rintro _ rfl
                  go_wp2_with fail
                  exact Post.isv (Ext.refl _) rfl rfl rfl
                -- 8: Op.load 33 t25   [guarded: some (5, true)]
                apply Stage.step (Is _) [false, false, false, false, false, true, false, true] (Is.keeps _) (by kernel_rfl)
                · intro w1 h1
                  simp only [List.nil_append, List.cons_append, Given]
                  rintro _ rfl
                  rintro _ rfl
                  have hq := h1.cell u1
                  go_wp2_with fail
                  exact Post.isv (Ext.refl _) rfl rfl rfl
                -- 9: Op.call { builtin len, args := #[t26], argTypes := #[33] }   [guarded: some (5, true)]
                apply Stage.step (Is _) [false, false, false, false, false, true, false, false, true] (Is.keeps _) (by kernel_rfl)
                · intro w1 h1
                  simp only [List.nil_append, List.cons_append, Given]
                  rintro _ rfl
                  rintro _ rfl
                  go_wp2_with fail
                  exact Post.isv (Ext.refl _) rfl rfl rfl
                -- 10: Op.binOp BinOp.lss 3 t24 t27 3   [guarded: some (5, true)]
                apply Stage.step (Is _) [false, false, false, false, false, true, true, false, false, true] (Is.keeps _) (by kernel_rfl)
                · intro w1 h1
                  simp only [List.nil_append, List.cons_append, Given]
                  rintro _ rfl
                  rintro _ rfl
                  rintro _ rfl
                  go_wp2_with fail
                  exact Post.isv (Ext.refl _) rfl rfl rfl
                -- 11: Op.pick t23 t28 (const (Value.bool false))
                apply Stage.step (Is _) [false, false, false, false, false, true, false, false, false, false, true] (Is.keeps _) (by kernel_rfl)
                · intro w1 h1
                  simp only [List.nil_append, List.cons_append, Given]
                  rintro _ rfl
                  rintro _ rfl
                  go_wp2_with fail
                  exact Post.isv (Ext.refl _) rfl rfl rfl
                -- 12: Op.move t29
                apply Stage.step (Is _) [false, false, false, false, false, false, false, false, false, false, false, true] (Is.keeps _) (by kernel_rfl)
                · intro w1 h1
                  simp only [List.nil_append, List.cons_append, Given]
                  rintro _ rfl
                  go_wp2_with fail
                  exact Post.isv (Ext.refl _) rfl rfl rfl
                -- 13: Op.fieldAddr 35 t2 1   [guarded: some (12, true)]
                apply Stage.step (Is _) [false, false, false, false, false, false, false, false, false, false, false, false, true] (Is.keeps _) (by kernel_rfl)
                · intro w1 h1
                  simp only [List.nil_append, List.cons_append, Given]
                  rintro _ rfl
                  go_wp2_with fail
                  exact Post.isv (Ext.refl _) rfl rfl rfl
                -- 14: Op.load 33 t31   [guarded: some (12, true)]
                apply Stage.step (Is _) [false, false, false, false, false, false, false, false, false, false, false, false, true, true] (Is.keeps _) (by kernel_rfl)
                · intro w1 h1
                  simp only [List.nil_append, List.cons_append, Given]
                  rintro _ rfl
                  rintro _ rfl
                  have hq := h1.cell s1
                  go_wp2_with fail
                  exact Post.isv (Ext.refl _) rfl rfl rfl
                -- 15: Op.move t6   [guarded: some (12, true)]
                apply Stage.step (Is _) [false, false, false, false, false, false, false, false, false, false, false, false, true] (Is.keeps _) (by kernel_rfl)
                · intro w1 h1
                  simp only [List.nil_append, List.cons_append, Given]
                  rintro _ rfl
                  go_wp2_with fail
                  exact Post.isv (Ext.refl _) rfl rfl rfl
                -- 16: Op.indexAddr 33 t32 t33   [guarded: some (12, true)]
                apply Stage.step (Is _) [false, false, false, false, false, false, false, false, false, false, false, false, true, false, true, true] (Is.keeps _) (by kernel_rfl)
                · intro w1 h1
                  simp only [List.nil_append, List.cons_append, Given]
                  rintro _ rfl
                  rintro _ rfl
                  rintro _ rfl
                  go_wp2_with fail
                  exact Post.isv (Ext.refl _) rfl rfl rfl
                -- 17: Op.fieldAddr 42 t34 0   [guarded: some (12, true)]
                apply Stage.step (Is _) [false, false, false, false, false, false, false, false, false, false, false, false, true, false, false, false, true] (Is.keeps _) (by kernel_rfl)
                · intro w1 h1
                  simp only [List.nil_append, List.cons_append, Given]
                  rintro _ rfl
                  rintro _ rfl
                  go_wp2_with fail
                  exact Post.isv (Ext.refl _) rfl rfl rfl
                -- 18: Op.load 9 t35   [guarded: some (12, true)]
                apply Stage.step (Is _) [false, false, false, false, false, false, false, false, false, false, false, false, true, false, false, false, false, true] (Is.keeps _) (by kernel_rfl)
                · intro w1 h1
                  simp only [List.nil_append, List.cons_append, Given]
                  rintro _ rfl
                  rintro _ rfl
                  have hq := h1.cell a0
                  go_wp2_with fail
                  exact Post.isv (Ext.refl _) rfl rfl rfl
                -- 19: Op.fieldAddr 35 t3 1   [guarded: some (12, true)]
                apply Stage.step (Is _) [false, false, false, false, false, false, false, false, false, false, false, false, true] (Is.keeps _) (by kernel_rfl)
                · intro w1 h1
                  simp only [List.nil_append, List.cons_append, Given]
                  rintro _ rfl
                  go_wp2_with fail
                  exact Post.isv (Ext.refl _) rfl rfl rfl
                -- 20: Op.load 33 t37   [guarded: some (12, true)]
                apply Stage.step (Is _) [false, false, false, false, false, false, false, false, false, false, false, false, true, false, false, false, false, false, false, true] (Is.keeps _) (by kernel_rfl)
                · intro w1 h1
                  simp only [List.nil_append, List.cons_append, Given]
                  rintro _ rfl
                  rintro _ rfl
                  have hq := h1.cell u1
                  go_wp2_with fail
                  exact Post.isv (Ext.refl _) rfl rfl rfl
                -- 21: Op.move t6   [guarded: some (12, true)]
                apply Stage.step (Is _) [false, false, false, false, false, false, false, false, false, false, false, false, true] (Is.keeps _) (by kernel_rfl)
                · intro w1 h1
                  simp only [List.nil_append, List.cons_append, Given]
                  rintro _ rfl
                  go_wp2_with fail
                  exact Post.isv (Ext.refl _) rfl rfl rfl
                -- 22: Op.indexAddr 33 t38 t39   [guarded: some (12, true)]
                apply Stage.step (Is _) [false, false, false, false, false, false, false, false, false, false, false, false, true, false, false, false, false, false, false, false, true, true] (Is.keeps _) (by kernel_rfl)
                · intro w1 h1
                  simp only [List.nil_append, List.cons_append, Given]
                  rintro _ rfl
                  rintro _ rfl
                  rintro _ rfl
                  go_wp2_with fail
                  exact Post.isv (Ext.refl _) rfl rfl rfl
                -- 23: Op.fieldAddr 42 t40 0   [guarded: some (12, true)]
                apply Stage.step (Is _) [false, false, false, false, false, false, false, false, false, false, false, false, true, false, false, false, false, false, false, false, false, false, true] (Is.keeps _) (by kernel_rfl)
                · intro w1 h1
                  simp only [List.nil_append, List.cons_append, Given]
                  rintro _ rfl
                  rintro _ rfl
                  go_wp2_with fail
                  exact Post.isv (Ext.refl _) rfl rfl rfl
                -- 24: Op.load 9 t41   [guarded: some (12, true)]
                apply Stage.step (Is _) [false, false, false, false, false, false, false, false, false, false, false, false, true, false, false, false, false, false, false, false, false, false, false, true] (Is.keeps _) (by kernel_rfl)
                · intro w1 h1
                  simp only [List.nil_append, List.cons_append, Given]
                  rintro _ rfl
                  rintro _ rfl
                  have hq := h1.cell b0
                  go_wp2_with fail
                  exact Post.isv (Ext.refl _) rfl rfl rfl
                -- 25: Op.binOp BinOp.eql 9 t36 t42 9   [guarded: some (12, true)]
                apply Stage.step (Is _) [false, false, false, false, false, false, false, false, false, false, false, false, true, false, false, false, false, false, true, false, false, false, false, false, true] (Is.keeps _) (by kernel_rfl)
                · intro w1 h1
                  simp only [List.nil_append, List.cons_append, Given]
                  rintro _ rfl
                  rintro _ rfl
                  rintro _ rfl
                  go_wp2_with fail
                  exact Post.isv (Ext.refl _) rfl rfl rfl
                -- 26: Op.pick t30 t43 (const (Value.bool false))
                apply Stage.step (Is _) [false, false, false, false, false, false, false, false, false, false, false, false, true, false, false, false, false, false, false, false, false, false, false, false, false, true] (Is.keeps _) (by kernel_rfl)
                · intro w1 h1
                  simp only [List.nil_append, List.cons_append, Given]
                  rintro _ rfl
                  rintro _ rfl
                  go_wp2_with fail
                  exact Post.isv (Ext.refl _) rfl rfl rfl
                -- 27: Op.move t44
                apply Stage.step (Is _) [false, false, false, false, false, false, false, false, false, false, false, false, false, false, false, false, false, false, false, false, false, false, false, false, false, false, true] (Is.keeps _) (by kernel_rfl)
                · intro w1 h1
                  simp only [List.nil_append, List.cons_append, Given]
                  rintro _ rfl
                  go_wp2_with fail
                  exact Post.isv (Ext.refl _) rfl rfl rfl
                -- 28: Op.fieldAddr 35 t2 1   [guarded: some (27, true)]
                apply Stage.step (Is _) [false, false, false, false, false, false, false, false, false, false, false, false, false, false, false, false, false, false, false, false, false, false, false, false, false, false, false, true] (Is.keeps _) (by kernel_rfl)
                · intro w1 h1
                  simp only [List.nil_append, List.cons_append, Given]
                  rintro _ rfl
                  go_wp2_with fail
                  exact Post.isv (Ext.refl _) rfl rfl rfl
                -- 29: Op.load 33 t46   [guarded: some (27, true)]
                apply Stage.step (Is _) [false, false, false, false, false, false, false, false, false, false, false, false, false, false, false, false, false, false, false, false, false, false, false, false, false, false, false, true, true] (Is.keeps _) (by kernel_rfl)
                · intro w1 h1
                  simp only [List.nil_append, List.cons_append, Given]
                  rintro _ rfl
                  rintro _ rfl
                  have hq := h1.cell s1
                  go_wp2_with fail
                  exact Post.isv (Ext.refl _) rfl rfl rfl
                -- 30: Op.move t6   [guarded: some (27, true)]
                apply Stage.step (Is _) [false, false, false, false, false, false, false, false, false, false, false, false, false, false, false, false, false, false, false, false, false, false, false, false, false, false, false, true] (Is.keeps _) (by kernel_rfl)
                · intro w1 h1
                  simp only [List.nil_append, List.cons_append, Given]
                  rintro _ rfl
                  go_wp2_with fail
                  exact Post.isv (Ext.refl _) rfl rfl rfl
                -- 31: Op.indexAddr 33 t47 t48   [guarded: some (27, true)]
                apply Stage.step (Is _) [false, false, false, false, false, false, false, false, false, false, false, false, false, false, false, false, false, false, false, false, false, false, false, false, false, false, false, true, false, true, true] (Is.keeps _) (by kernel_rfl)
                · intro w1 h1
                  simp only [List.nil_append, List.cons_append, Given]
                  rintro _ rfl
                  rintro _ rfl
                  rintro _ rfl
                  go_wp2_with fail
                  exact Post.isv (Ext.refl _) rfl rfl rfl
                -- 32: Op.fieldAddr 42 t49 1   [guarded: some (27, true)]
                apply Stage.step (Is _) [false, false, false, false, false, false, false, false, false, false, false, false, false, false, false, false, false, false, false, false, false, false, false, false, false, false, false, true, false, false, false, true] (Is.keeps _) (by kernel_rfl)
                · intro w1 h1
                  simp only [List.nil_append, List.cons_append, Given]
                  rintro _ rfl
                  rintro _ rfl
                  go_wp2_with fail
                  exact Post.isv (Ext.refl _) rfl rfl rfl
                -- 33: Op.load 22 t50   [guarded: some (27, true)]
                apply Stage.step (Is _) [false, false, false, false, false, false, false, false, false, false, false, false, false, false, false, false, false, false, false, false, false, false, false, false, false, false, false, true, false, false, false, false, true] (Is.keeps _) (by kernel_rfl)
                · intro w1 h1
                  simp only [List.nil_append, List.cons_append, Given]
                  rintro _ rfl
                  rintro _ rfl
                  have hq := h1.cell a1
                  go_wp2_with fail
                  exact Post.isv (Ext.refl _) rfl rfl rfl
                -- 34: Op.convert 22 9 t51   [guarded: some (27, true)]
                apply Stage.step (Is _) [false, false, false, false, false, false, false, false, false, false, false, false, false, false, false, false, false, false, false, false, false, false, false, false, false, false, false, true, false, false, false, false, false, true] (Is.keeps _) (by kernel_rfl)
                · intro w1 h1
                  simp only [List.nil_append, List.cons_append, Given]
                  rintro _ rfl
                  rintro _ rfl
                  have ht := run_text_u8 (sa.ext h1)
                  go_wp2_with fail
                  exact Post.isv (Ext.refl _) rfl rfl rfl
                -- 35: Op.fieldAddr 35 t3 1   [guarded: some (27, true)]
                apply Stage.step (Is _) [false, false, false, false, false, false, false, false, false, false, false, false, false, false, false, false, false, false, false, false, false, false, false, false, false, false, false, true] (Is.keeps _) (by kernel_rfl)
                · intro w1 h1
                  simp only [List.nil_append, List.cons_append, Given]
                  rintro _ rfl
                  go_wp2_with fail
                  exact Post.isv (Ext.refl _) rfl rfl rfl
                -- 36: Op.load 33 t53   [guarded: some (27, true)]
                apply Stage.step (Is _) [false, false, false, false, false, false, false, false, false, false, false, false, false, false, false, false, false, false, false, false, false, false, false, false, false, false, false, true, false, false, false, false, false, false, false, true] (Is.keeps _) (by kernel_rfl)
                · intro w1 h1
                  simp only [List.nil_append, List.cons_append, Given]
                  rintro _ rfl
                  rintro _ rfl
                  have hq := h1.cell u1
                  go_wp2_with fail
                  exact Post.isv (Ext.refl _) rfl rfl rfl
                -- 37: Op.move t6   [guarded: some (27, true)]
                apply Stage.step (Is _) [false, false, false, false, false, false, false, false, false, false, false, false, false, false, false, false, false, false, false, false, false, false, false, false, false, false, false, true] (Is.keeps _) (by kernel_rfl)
                · intro w1 h1
                  simp only [List.nil_append, List.cons_append, Given]
                  rintro _ rfl
                  go_wp2_with fail
                  exact Post.isv (Ext.refl _) rfl rfl rfl
                -- 38: Op.indexAddr 33 t54 t55   [guarded: some (27, true)]
                apply Stage.step (Is _) [false, false, false, false, false, false, false, false, false, false, false, false, false, false, false, false, false, false, false, false, false, false, false, false, false, false, false, true, false, false, false, false, false, false, false, false, true, true] (Is.keeps _) (by kernel_rfl)
                · intro w1 h1
                  simp only [List.nil_append, List.cons_append, Given]
                  rintro _ rfl
                  rintro _ rfl
                  rintro _ rfl
                  go_wp2_with fail
                  exact Post.isv (Ext.refl _) rfl rfl rfl
                -- 39: Op.fieldAddr 42 t56 1   [guarded: some (27, true)]
                apply Stage.step (Is _) [false, false, false, false, false, false, false, false, false, false, false, false, false, false, false, false, false, false, false, false, false, false, false, false, false, false, false, true, false, false, false, false, false, false, false, false, false, false, true] (Is.keeps _) (by kernel_rfl)
                · intro w1 h1
                  simp only [List.nil_append, List.cons_append, Given]
                  rintro _ rfl
                  rintro _ rfl
                  go_wp2_with fail
                  exact Post.isv (Ext.refl _) rfl rfl rfl
                -- 40: Op.load 22 t57   [guarded: some (27, true)]
                apply Stage.step (Is _) [false, false, false, false, false, false, false, false, false, false, false, false, false, false, false, false, false, false, false, false, false, false, false, false, false, false, false, true, false, false, false, false, false, false, false, false, false, false, false, true] (Is.keeps _) (by kernel_rfl)
                · intro w1 h1
                  simp only [List.nil_append, List.cons_append, Given]
                  rintro _ rfl
                  rintro _ rfl
                  have hq := h1.cell b1c
                  go_wp2_with fail
                  exact Post.isv (Ext.refl _) rfl rfl rfl
                -- 41: Op.convert 22 9 t58   [guarded: some (27, true)]
                apply Stage.step (Is _) [false, false, false, false, false, false, false, false, false, false, false, false, false, false, false, false, false, false, false, false, false, false, false, false, false, false, false, true, false, false, false, false, false, false, false, false, false, false, false, false, true] (Is.keeps _) (by kernel_rfl)
                · intro w1 h1
                  simp only [List.nil_append, List.cons_append, Given]
                  rintro _ rfl
                  rintro _ rfl
                  have ht := run_text_u8 (sb.ext h1)
                  go_wp2_with fail
                  exact Post.isv (Ext.refl _) rfl rfl rfl
                -- 42: Op.binOp BinOp.eql 9 t52 t59 9   [guarded: some (27, true)]
                apply Stage.step (Is _) [false, false, false, false, false, false, false, false, false, false, false, false, false, false, false, false, false, false, false, false, false, false, false, false, false, false, false, true, false, false, false, false, false, false, true, false, false, false, false, false, false, true] (Is.keeps _) (by kernel_rfl)
                · intro w1 h1
                  simp only [List.nil_append, List.cons_append, Given]
                  rintro _ rfl
                  rintro _ rfl
                  rintro _ rfl
                  go_wp2_with fail
                  exact Post.isv (Ext.refl _) rfl rfl rfl
                -- 43: Op.pick t45 t60 (const (Value.bool false))
                apply Stage.step (Is _) [false, false, false, false, false, false, false, false, false, false, false, false, false, false, false, false, false, false, false, false, false, false, false, false, false, false, false, true, false, false, false, false, false, false, false, false, false, false, false, false, false, false, true] (Is.keeps _) (by kernel_rfl)
                · intro w1 h1
                  simp only [List.nil_append, List.cons_append, Given]
                  rintro _ rfl
                  rintro _ rfl
                  go_wp2_with fail
                  exact Post.isv (Ext.refl _) rfl rfl rfl
                apply Stage.nil
                intro w1 h1
                simp only [List.nil_append, List.cons_append]
                refine Fin.is_ ?_
                refine Fin.is_ ?_
                refine Fin.is_ ?_
                refine Fin.is_ ?_
                refine Fin.is_ ?_
                refine Fin.is_ ?_
                refine Fin.is_ ?_
                refine Fin.is_ ?_
                refine Fin.is_ ?_
                refine Fin.is_ ?_
                refine Fin.is_ ?_
                refine Fin.is_ ?_
                refine Fin.is_ ?_
                refine Fin.is_ ?_
                refine Fin.is_ ?_
                refine Fin.is_ ?_
                refine Fin.is_ ?_
                refine Fin.is_ ?_
                refine Fin.is_ ?_
                refine Fin.is_ ?_
                refine Fin.is_ ?_
                refine Fin.is_ ?_
                refine Fin.is_ ?_
                refine Fin.is_ ?_
                refine Fin.is_ ?_
                refine Fin.is_ ?_
                refine Fin.is_ ?_
                refine Fin.is_ ?_
                refine Fin.is_ ?_
                refine Fin.is_ ?_
                refine Fin.is_ ?_
                refine Fin.is_ ?_
                refine Fin.is_ ?_
                refine Fin.is_ ?_
                refine Fin.is_ ?_
                refine Fin.is_ ?_
                refine Fin.is_ ?_
                refine Fin.is_ ?_
                refine Fin.is_ ?_
                refine Fin.is_ ?_
                refine Fin.is_ ?_
                refine Fin.is_ ?_
                refine Fin.is_ ?_
                refine Fin.is_ ?_
                refine Fin.nil_ ?_
                go_simp
                obtain ⟨k0, rfl⟩ : ∃ q, q = k := ⟨_, rfl⟩
                clear a0 a1 b0 b1c sa sb k1 k2 k3 k4 hk hlt hlt2
                obtain ⟨wb, rfl⟩ : ∃ q, q = w1 := ⟨_, rfl⟩
                have gW := gz.trans h1
                have sb0 := h1.cell s0
                have sb1 := h1.cell s1
                have ub0 := h1.cell u0
                have ub1 := h1.cell u1
                clear s0 s1 u0 u1 h1 gz hxz
                go_wp2_with fail
                go_loopw [5, 7] (fun v i wr => ∃ (p mo : Nat) (Ao : Option Addr) (co : Nat), k0 ≤ p ∧ p ≤ n2 ∧ v = .slice Ao mo co ∧ i = .int .i64 ((p : Int) - 1) ∧ OwnL TEv 5 (fromR evR 0) wr wb.heap.size Ao mo co ((s.sn.drop p).reverse.map unE) ∧ Ext wb wr) (fun _ i _ => (intOf i + 1).toNat)
                case atStart => exact ⟨n2, 0, none, 0, by omega, by omega, rfl, rfl, by rw [List.drop_of_length_le (by rw [h1s.len]; exact Nat.le_refl _)]; exact OwnL.nil _ _ _ _, Ext.refl _⟩
                case round =>
                  obtain ⟨p, mo, Ao, co, hkp, hpn, rfl, rfl, hown, hxr⟩ := hrel
                  have s0 := hxr.cell sb0
                  have s1 := hxr.cell sb1
                  have gx := gW.trans hxr
                  have hmo := hown.len
                  simp only [List.length_map, List.length_reverse, List.length_drop, h1s.len] at hmo
                  by_cases hlt : k0 < p
                  · obtain ⟨q, rfl⟩ : ∃ q, p = q + 1 := ⟨p - 1, by omega⟩
                    obtain ⟨ga, oa, x, cs, he, hx, ⟨Aa, na, ca, rfl, sa0, hs⟩, ha⟩ := h1s.at2 ol_rep (i := q) (by omega) (by omega)
                    cases he
                    have x0 := gx.cell (ha 0 _ rfl)
                    rw [Nat.add_zero] at x0
                    have e1 : ((q + 1 : Nat) : Int) - 1 = (q : Int) := by omega
                    rw [e1]
                    have hl1 : (s.sn.drop (q + 1)).reverse.map unE ++ [unE x] = (s.sn.drop q).reverse.map unE := by
                      rw [drop_stepO hx, List.reverse_cons, List.map_append]
                      rfl
                    obtain ⟨xn, xd⟩ := x
                    simp only at x0 hs
                    replace hl1 := Lib.hid hl1
                    have k1 : decide ((q : Int) ≥ (k0 : Int)) = true := by simp; omega
                    have k2 : decide ((k0 : Int) ≤ (q : Int)) = true := by simp; omega
                    clear ha hx sa0 e1
                    go_wp2_with (
                      at_builtin
                      refine wpList_append_lst4 (B := wb.heap.size) (from_rep ev_rep 0) rfl _ _ _ _ rfl TEv i0 _ 64 under_evs hi0 hy0 hy1 hy2 rfl Ao mo co _ rfl (hown.ext (from_rep ev_rep 0) (Ext.alloc _ _)) _ 1 [⟨6, 0, 0, [], xn⟩] rfl (under_evl hs) (mo + 1) rfl _ hl1.out (by simp only [maxLen]; omega) (by omega) (by have := hxr.size; simp; omega) ?_
                      intro A9 c9 w9 ho9 hg9 hr9)
                    have hrow := hown.row_lt
                    have gx9 : Ext wb w9 := (hxr.trans (Ext.alloc _ _)).but (But.grown (H := wb.heap.size) (S := fun _ => False) (But.refl _ _ _) hg9 (fun g hg => .inr (hrow g hg).1)) (Nat.le_refl _) (fun _ h => h.elim)
                    go_wp2_with fail
                    go_roundw
                    case rel => exact ⟨q, mo + 1, A9, c9, by omega, by omega, rfl, rfl, ho9, gx9⟩
                    case measure => first | (simp [intOf]; done) | (simp [intOf]; omega)
                  · obtain rfl : k0 = p := by omega
                    have k1 : decide ((k0 : Int) - 1 ≥ (k0 : Int)) = false := by simp; omega
                    have k2 : decide ((k0 : Int) ≤ (k0 : Int) - 1) = false := by simp; omega
                    go_wp2_with fail
                    obtain ⟨wl, rfl⟩ : ∃ q, q = wr := ⟨_, rfl⟩
                    have hR0 : Hid ((s.sn.drop k0).reverse.map unE ++ snapsW s.d (t.sn.drop k0) t.d = R) := hR
                    go_loopw [5, 8, 9] (fun v nw i wr => ∃ (p mo : Nat) (Ao : Option Addr) (co : Nat) (out : List Ev) (An : Option Addr) (nn cn : Nat) (now : List UInt8), p ≤ m2 ∧ v = .slice Ao mo co ∧ nw = .slice An nn cn ∧ i = .int .i64 p ∧ OwnL TEv 5 (fromR evR 0) wr wb.heap.size Ao mo co out ∧ Sl w An nn cn now ∧ now.length ≤ 512 ∧ mo ≤ 8 + 600 * p ∧ Hid (out ++ snapsW now (t.sn.drop p) t.d = R) ∧ Ext wb wr) (fun _ _ i _ => m2 - (intOf i).toNat)
                    case atStart => exact ⟨k0, mo, Ao, co, _, A, n, c, s.d, by omega, rfl, rfl, rfl, hown, h1d, a3, by omega, hR0, hxr⟩
                    case round =>
                      obtain ⟨p, mo, Ao, co, out, An, nn, cn, now, hj, rfl, rfl, rfl, hown, hnow, hn512, hmo8, hRj, hx2⟩ := hrel
                      clear hR0 hR
                      have u0 := hx2.cell ub0
                      have u1 := hx2.cell ub1
                      have g2 := gW.trans hx2
                      have hmo := hown.len
                      have bn := hnow.n63
                      have hnl := hnow.len
                      have hrow0 := hown.row_lt
                      by_cases hlt : p < m2
                      · obtain ⟨ga, oa, x, cs, he, hx, ⟨Aa, na, ca, rfl, sa0, hs⟩, ha⟩ := h2s.at2 ol_rep (i := p) (by omega) hlt
                        cases he
                        have a0 := g2.cell (ha 0 _ rfl)
                        rw [Nat.add_zero] at a0
                        have a1 := g2.cell (ha 1 _ rfl)
                        have hga := World.block_lt_of_cell? _ _ (ha 0 _ rfl)
                        have hca1 := ha 1 _ rfl
                        have hxm := (b1 x (List.mem_of_getElem? hx)).2
                        have hRx := hRj.out
                        rw [drop_stepO hx, snapsW] at hRx
                        obtain ⟨xn, xd⟩ := x
                        simp only at a0 a1 hs sa0 hRx hxm hga hca1
                        have ba := sa0.n63
                        have hal := sa0.len
                        obtain ⟨E, hE⟩ : ∃ q, bytesL now xd = q := ⟨_, rfl⟩
                        have hEl := bytesL_len now xd
                        rw [hE] at hRx hEl
                        have HE := Lib.hid hE
                        obtain ⟨n7, hn7⟩ : ∃ q, E.length = q := ⟨_, rfl⟩
                        rw [hn7] at hEl
                        have hRn : Hid ((out ++ E) ++ [⟨5, 0, 0, [], xn⟩] ++ snapsW xd (t.sn.drop (p + 1)) t.d = R) := Lib.hid (by rw [← hRx]; simp)
                        have hwz := gW.size
                        have hw1z : w.heap.size + 1 < wb.heap.size := World.block_lt_of_cell? _ _ ub1
                        have hxs := hx2.size
                        have HN7 := Lib.hid hn7
                        clear ha hx hRx hE hRj hn7
                        go_wp2_with fail
                        refine wp_region_typed4' (R := Bet (fun k => rowOf Ao co = some k)) 18 Ext.steady (Bet.steady _) (fun _ _ => Bet.of_ext) rfl 124 rfl [0, 0, 0, 4, 0, 28, 60, 124, 254, 511, 0, 1024, 0, 7168, 15360, 31744, 64512, 130048, 262143, 524287] 512 (by kernel_rfl) ?_
                        simp only [List.take_succ_cons, List.take_zero, List.drop_succ_cons, List.drop_zero]
                        -- 0: Op.move t5
                        apply Stage2.step (Is _) true [] true false (Is.keeps _) (fun _ => Is.keeps _) (by kernel_rfl)
                        · intro w1 h1
                          have h1 : Ext _ w1 := h1
                          simp only [List.nil_append, List.cons_append, List.map_cons, List.map_nil, Given]
                          go_wp2_with fail
                          exact Post.isv (Ext.refl _) rfl rfl rfl
                        -- 1: Op.move t8
                        apply Stage2.step (Is _) true [] true false (Is.keeps _) (fun _ => Is.keeps _) (by kernel_rfl)
                        · intro w1 h1
                          have h1 : Ext _ w1 := h1
                          simp only [List.nil_append, List.cons_append, List.map_cons, List.map_nil, Given]
                          go_wp2_with fail
                          exact Post.isv (Ext.refl _) rfl rfl rfl
                        -- 2: Op.fieldAddr 35 t3 1
                        apply Stage2.step (Is _) true [] true false (Is.keeps _) (fun _ => Is.keeps _) (by kernel_rfl)
                        · intro w1 h1
                          have h1 : Ext _ w1 := h1
                          simp only [List.nil_append, List.cons_append, List.map_cons, List.map_nil, Given]
                          go_wp2_with fail
                          exact Post.isv (Ext.refl _) rfl rfl rfl
                        -- 3: Op.load 33 t95
                        apply Stage2.step (Is _) true [false, false, true] true false (Is.keeps _) (fun _ => Is.keeps _) (by kernel_rfl)
                        · intro w1 h1
                          have h1 : Ext _ w1 := h1
                          simp only [List.nil_append, List.cons_append, List.map_cons, List.map_nil, Sp.pr, Given]
                          rintro _ rfl
                          have hq := h1.cell u1
                          go_wp2_with fail
                          exact Post.isv (Ext.refl _) rfl rfl rfl
                        -- 4: Op.move t9
                        apply Stage2.step (Is _) true [] true false (Is.keeps _) (fun _ => Is.keeps _) (by kernel_rfl)
                        · intro w1 h1
                          have h1 : Ext _ w1 := h1
                          simp only [List.nil_append, List.cons_append, List.map_cons, List.map_nil, Given]
                          go_wp2_with fail
                          exact Post.isv (Ext.refl _) rfl rfl rfl
                        -- 5: Op.indexAddr 33 t96 t97
                        apply Stage2.step (Is _) true [false, false, false, true, true] true false (Is.keeps _) (fun _ => Is.keeps _) (by kernel_rfl)
                        · intro w1 h1
                          have h1 : Ext _ w1 := h1
                          simp only [List.nil_append, List.cons_append, List.map_cons, List.map_nil, Sp.pr, Given]
                          rintro _ rfl
                          rintro _ rfl
                          go_wp2_with fail
                          exact Post.isv (Ext.refl _) rfl rfl rfl
                        -- 6: Op.fieldAddr 42 t98 1
                        apply Stage2.step (Is _) true [false, false, false, false, false, true] true false (Is.keeps _) (fun _ => Is.keeps _) (by kernel_rfl)
                        · intro w1 h1
                          have h1 : Ext _ w1 := h1
                          simp only [List.nil_append, List.cons_append, List.map_cons, List.map_nil, Sp.pr, Given]
                          rintro _ rfl
                          go_wp2_with fail
                          exact Post.isv (Ext.refl _) rfl rfl rfl
                        -- 7: Op.load 22 t99
                        apply Stage2.step (Is _) true [false, false, false, false, false, false, true] true false (Is.keeps _) (fun _ => Is.keeps _) (by kernel_rfl)
                        · intro w1 h1
                          have h1 : Ext _ w1 := h1
                          simp only [List.nil_append, List.cons_append, List.map_cons, List.map_nil, Sp.pr, Given]
                          rintro _ rfl
                          have hq := h1.cell a1
                          go_wp2_with fail
                          exact Post.isv (Ext.refl _) rfl rfl rfl
                        -- 8: Op.call { value (Operand.func 30), args := #[t94, t100], argTypes := #[22, 22] }
                        apply Stage2.step (EvFr wr.heap.size n7 E) false [false, true, false, false, false, false, false, true] true false (EvFr.keeps _ _ _) (no_keeps) (by kernel_rfl)
                        · intro w1 h1
                          have h1 : Ext _ w1 := h1
                          simp only [List.nil_append, List.cons_append, List.map_cons, List.map_nil, Sp.pr, Given]
                          rintro _ rfl
                          rintro _ rfl
                          go_wp2_with fail
                          refine (ref_BytesF (hnow.ext (g2.trans h1)) (sa0.ext (g2.trans h1)) (by omega) (by omega) HE).mono ?_
                          rintro e w4 ⟨A7, n8, c7, rfl, h7, gq4⟩
                          have h7l := h7.len
                          rw [HN7.out] at h7l
                          subst h7l
                          go_wp2_with fail
                          exact ⟨rfl, rfl, gq4, _, _, rfl, h7.lst.weak fun x cs h => ⟨h.1, fun k hk => Nat.le_trans h1.size (h.2 k hk)⟩⟩
                        -- 9: Op.call { builtin append, args := #[t93, t101], argTypes := #[23, 23] }
                        apply Stage2.step (EvOw wb.heap.size wr.heap.size (mo + n7) (rowOf Ao co) (out ++ E)) false [true, false, false, false, false, false, false, false, true] true true (EvOw.keeps _ _ _ _ _) (no_keeps) (by kernel_rfl)
                        · intro w1 h1
                          have h1 : Ext _ w1 := h1
                          simp only [List.nil_append, List.cons_append, List.map_cons, List.map_nil, Sp.pr, Given]
                          rintro _ rfl
                          rintro _ ⟨A7, c7, rfl, h7⟩
                          have hown4 := hown.ext (from_rep ev_rep 0) h1
                          have hfd := Feed.from (P := Try.prog) (tx := 23) (B0 := 0) ev_rep hown4 (fun g hg => (hrow0 g hg).2) (Nat.zero_le _) h7 under_evs
                          have hs1 := h1.size
                          have b7 := h7.n63
                          go_wp2_with (
                            at_builtin
                            refine wpList_append_lst4 (B := wb.heap.size) (from_rep ev_rep 0) rfl _ _ _ _ rfl TEv i0 _ 64 under_evs hi0 hy0 hy1 hy2 rfl Ao mo co out rfl hown4 _ n7 E rfl hfd (mo + n7) rfl _ rfl (by simp only [maxLen]; omega) (by omega) (by omega) ?_
                            intro A8 c8 w8 ho8 hg8 hr8)
                          exact ⟨rfl, rfl, Bet.grown hg8 (fun k hk => hk), _, _, rfl, ho8, fun g hg => by
                            rcases hr8 with h | h
                            · exact .inl (by rw [← h]; exact hg)
                            · rw [h] at hg; injection hg with hg; exact .inr (by omega)⟩
                        -- 10: Op.fieldAddr 35 t3 1
                        apply Stage2.step (Is _) true [] false false (Is.keeps _) (fun _ => Is.keeps _) (by kernel_rfl)
                        · intro w1 h1
                          have h1 : (Bet (fun k => rowOf Ao co = some k)) _ w1 := h1
                          simp only [List.nil_append, List.cons_append, List.map_cons, List.map_nil, Given]
                          go_wp2_with fail
                          exact Post.isv (Ext.refl _) rfl rfl rfl
                        -- 11: Op.load 33 t103
                        apply Stage2.step (Is _) true [false, false, false, false, false, false, false, false, false, false, true] false false (Is.keeps _) (fun _ => Is.keeps _) (by kernel_rfl)
                        · intro w1 h1
                          have h1 : (Bet (fun k => rowOf Ao co = some k)) _ w1 := h1
                          simp only [List.nil_append, List.cons_append, List.map_cons, List.map_nil, Sp.pr, Given]
                          rintro _ rfl
                          have hq := h1.cell u1 (fun e => by have := (hrow0 _ e).1; simp only at this; omega)
                          go_wp2_with fail
                          exact Post.isv (Ext.refl _) rfl rfl rfl
                        -- 12: Op.move t9
                        apply Stage2.step (Is _) true [] false false (Is.keeps _) (fun _ => Is.keeps _) (by kernel_rfl)
                        · intro w1 h1
                          have h1 : (Bet (fun k => rowOf Ao co = some k)) _ w1 := h1
                          simp only [List.nil_append, List.cons_append, List.map_cons, List.map_nil, Given]
                          go_wp2_with fail
                          exact Post.isv (Ext.refl _) rfl rfl rfl
                        -- 13: Op.indexAddr 33 t104 t105
                        apply Stage2.step (Is _) true [false, false, false, false, false, false, false, false, false, false, false, true, true] false false (Is.keeps _) (fun _ => Is.keeps _) (by kernel_rfl)
                        · intro w1 h1
                          have h1 : (Bet (fun k => rowOf Ao co = some k)) _ w1 := h1
                          simp only [List.nil_append, List.cons_append, List.map_cons, List.map_nil, Sp.pr, Given]
                          rintro _ rfl
                          rintro _ rfl
                          go_wp2_with fail
                          exact Post.isv (Ext.refl _) rfl rfl rfl
                        -- 14: Op.fieldAddr 42 t106 0
                        apply Stage2.step (Is _) true [false, false, false, false, false, false, false, false, false, false, false, false, false, true] false false (Is.keeps _) (fun _ => Is.keeps _) (by kernel_rfl)
                        · intro w1 h1
                          have h1 : (Bet (fun k => rowOf Ao co = some k)) _ w1 := h1
                          simp only [List.nil_append, List.cons_append, List.map_cons, List.map_nil, Sp.pr, Given]
                          rintro _ rfl
                          go_wp2_with fail
                          exact Post.isv (Ext.refl _) rfl rfl rfl
                        -- 15: Op.load 9 t107
                        apply Stage2.step (Is _) true [false, false, false, false, false, false, false, false, false, false, false, false, false, false, true] false false (Is.keeps _) (fun _ => Is.keeps _) (by kernel_rfl)
                        · intro w1 h1
                          have h1 : (Bet (fun k => rowOf Ao co = some k)) _ w1 := h1
                          simp only [List.nil_append, List.cons_append, List.map_cons, List.map_nil, Sp.pr, Given]
                          rintro _ rfl
                          have hq := h1.cell a0 (fun e => by have := (hrow0 _ e).1; simp only at this; omega)
                          go_wp2_with fail
                          exact Post.isv (Ext.refl _) rfl rfl rfl
                        -- 16: Op.build 28 #[(0, const (5:i64)), (4, t108)]
                        apply Stage2.step (Is _) true [false, false, false, false, false, false, false, false, false, false, false, false, false, false, false, true] false false (Is.keeps _) (fun _ => Is.keeps _) (by kernel_rfl)
                        · intro w1 h1
                          have h1 : (Bet (fun k => rowOf Ao co = some k)) _ w1 := h1
                          simp only [List.nil_append, List.cons_append, List.map_cons, List.map_nil, Sp.pr, Given]
                          rintro _ rfl
                          go_wp2_with fail
                          exact Post.isv (Ext.refl _) rfl rfl rfl
                        -- 17: Op.buildSlice 23 1 #[(0, t109)]
                        apply Stage2.step (EvLt wr.heap.size 5 xn) true [false, false, false, false, false, false, false, false, false, false, false, false, false, false, false, false, true] false false (EvLt.keeps _ _ _) (fun _ => EvLt.keeps2 _ _ (fun g hg => (hrow0 g hg).2)) (by kernel_rfl)
                        · intro w1 h1
                          have h1 : (Bet (fun k => rowOf Ao co = some k)) _ w1 := h1
                          simp only [List.nil_append, List.cons_append, List.map_cons, List.map_nil, Sp.pr, Given]
                          rintro _ rfl
                          have hs1 := (h1 0).size
                          go_wp2_with fail
                          exact ⟨rfl, rfl, Ext.alloc _ _, _, rfl, hs1, heap_alloc_new _ _⟩
                        apply Stage2.nil [true, true, true, true, true, true, true, true, false, true, true, true, true, true, true, true, true, true] (by kernel_rfl)
                        intro w1 h1
                        have h1 : (Bet (fun k => rowOf Ao co = some k)) _ w1 := h1
                        simp only [List.nil_append, List.cons_append, List.map_cons, List.map_nil, Sp.pr]
                        refine Fin2.is_ ?_
                        refine Fin2.is_ ?_
                        refine Fin2.is_ ?_
                        refine Fin2.is_ ?_
                        refine Fin2.is_ ?_
                        refine Fin2.is_ ?_
                        refine Fin2.is_ ?_
                        refine Fin2.is_ ?_
                        refine Fin2.dead_ ?_
                        intro dead8
                        refine Fin2.step_ ?_
                        rintro _ ⟨A8, c8, rfl, h8, hr8⟩
                        refine Fin2.is_ ?_
                        refine Fin2.is_ ?_
                        refine Fin2.is_ ?_
                        refine Fin2.is_ ?_
                        refine Fin2.is_ ?_
                        refine Fin2.is_ ?_
                        refine Fin2.is_ ?_
                        refine Fin2.step_ ?_
                        rintro _ ⟨gl, rfl, hgl, hlit⟩
                        refine Fin2.nil_ ?_
                        go_simp
                        have gx8 : Ext wb w1 := hx2.but (h1 wr.heap.size) hx2.size (fun g hg => (hrow0 g hg).1)
                        have hrow8 := h8.row_lt
                        have hs8 := gx8.size
                        go_wp2_with (
                          at_builtin
                          refine wpList_append_lst4 (B := wb.heap.size) (from_rep ev_rep 0) rfl _ _ _ _ rfl TEv i0 _ 64 under_evs hi0 hy0 hy1 hy2 rfl A8 (mo + n7) c8 (out ++ E) rfl h8 _ 1 [⟨5, 0, 0, [], xn⟩] rfl (lit_feed hlit hs) (mo + n7 + 1) rfl _ rfl (by simp only [maxLen]; omega) (by omega) (by omega) ?_
                          intro A9 c9 w9 ho9 hg9 hr9
                          have gx9 : Ext wb w9 := gx8.but (But.grown (H := wb.heap.size) (S := fun _ => False) (But.refl _ _ _) hg9 (fun g hg => .inr (hrow8 g hg).1)) (Nat.le_refl _) (fun _ h => h.elim)
                          have Z1 := gx9.cell ub1
                          have Z2 := (gW.trans gx9).cell hca1)
                        clear hg9 hr9 h8 gx8 hown hlit
                        go_wp2_with fail
                        go_roundw
                        case rel => exact ⟨p + 1, mo + n7 + 1, A9, c9, _, Aa, na, ca, xd, by omega, rfl, rfl, by go_num, ho9, sa0, hxm, by omega, hRn, gx9⟩
                        case measure => simp [intOf]; omega
                      · obtain ⟨E, hE⟩ : ∃ q, bytesL now t.d = q := ⟨_, rfl⟩
                        have hEl := bytesL_len now t.d
                        have hRx := hRj.out
                        rw [List.drop_of_length_le (by rw [h2s.len]; omega), snapsW, hE] at hRx
                        rw [hE] at hEl
                        have HE := Lib.hid hE
                        replace hRx := Lib.hid hRx
                        have hml := h2d.len
                        clear hE hRj
                        go_wp2_with fail
                        refine (ref_BytesF (hnow.ext g2) (h2d.ext g2) (by omega) (by omega) HE).mono ?_
                        rintro e w4 ⟨A7, n7, c7, rfl, h7, gq4⟩
                        have h7l := h7.len
                        have b7 := h7.lst.n63
                        have hs4 := gq4.size
                        have hs5 := hx2.size
                        have hown4 := hown.ext (from_rep ev_rep 0) gq4
                        have hxb4 := hx2.trans gq4
                        have hfd := Feed.from (P := Try.prog) (tx := 23) (B0 := 0) ev_rep hown4 (fun g hg => (hrow0 g hg).2) (Nat.zero_le _) (h7.lst.weak fun x cs h => h) under_evs
                        clear hown
                        go_wp2_with (
                          at_builtin
                          refine wpList_append_lst4 (B := wb.heap.size) (from_rep ev_rep 0) rfl _ _ _ _ rfl TEv i0 _ 64 under_evs hi0 hy0 hy1 hy2 rfl Ao mo co out rfl hown4 _ n7 E rfl hfd (mo + n7) rfl _ rfl (by simp only [maxLen]; omega) (by omega) (by omega) ?_
                          intro A8 c8 w8 ho8 hg8 hr8)
                        have gx8 : Ext wb w8 := hxb4.but (But.grown (H := wb.heap.size) (S := fun _ => False) (But.refl _ _ _) hg8 (fun g hg => .inr (hrow0 g hg).1)) (Nat.le_refl _) (fun _ h => h.elim)
                        rw [hRx.out] at ho8
                        go_wp2_with fail
                        go_ret
                        exact ⟨A8, mo + n7, c8, rfl, ho8.lst.weak fun x cs h => h.1, gW.trans gx8⟩
            · have k3 := bs_ne hn
              rw [if_neg (by intro e; injection e with e1 e2; exact hn e1)] at hro
              obtain rfl : k = k0 := by omega
              clear hro hn hrk
              go_wp2_with fail
              refine wp_region_typed Ext.steady rfl 124 rfl (by kernel_rfl) ?_
              -- 0: Op.move t6
              apply Stage.step (Is _) [] (Is.keeps _) (by kernel_rfl)
              · intro w1 h1
                simp only [Given]
                go_wp2_with fail
                exact Post.isv (Ext.refl _) rfl rfl rfl
              -- 1: Op.fieldAddr 35 t2 1
              apply Stage.step (Is _) [] (Is.keeps _) (by kernel_rfl)
              · intro w1 h1
                simp only [Given]
                go_wp2_with fail
                exact Post.isv (Ext.refl _) rfl rfl rfl
              -- 2: Op.load 33 t19
              apply Stage.step (Is _) [false, true] (Is.keeps _) (by kernel_rfl)
              · intro w1 h1
                simp only [List.nil_append, List.cons_append, Given]
                rintro _ rfl
                have hq := h1.cell s1
                go_wp2_with fail
                exact Post.isv (Ext.refl _) rfl rfl rfl
              -- 3: Op.call { builtin len, args := #[t20], argTypes := #[33] }
              apply Stage.step (Is _) [false, false, true] (Is.keeps _) (by kernel_rfl)
              · intro w1 h1
                simp only [List.nil_append, List.cons_append, Given]
                rintro _ rfl
                go_wp2_with fail
                exact Post.isv (Ext.refl _) rfl rfl rfl
              -- 4: Op.binOp BinOp.lss 3 t18 t21 3
              apply Stage.step (Is _) [true, false, false, true] (Is.keeps _) (by kernel_rfl)
              · intro w1 h1
                simp only [List.nil_append, List.cons_append, Given]
                rintro _ rfl
                rintro _ rfl
                go_wp2_with fail
                exact Post.isv (Ext.refl _) rfl rfl rfl
              -- 5: Op.move t22
              apply Stage.step (Is _) [false, false, false, false, true] (Is.keeps _) (by kernel_rfl)
              · intro w1 h1
                simp only [List.nil_append, List.cons_append, Given]
                rintro _ rfl
                go_wp2_with fail
                exact Post.isv (Ext.refl _) rfl rfl rfl
              -- 6: Op.move t6   [guarded: some (5, true)]
              apply Stage.step (Is _) [false, false, false, false, false, true] (Is.keeps _) (by kernel_rfl)
              · intro w1 h1
                simp only [List.nil_append, List.cons_append, Given]
                rintro _ rfl
                go_wp2_with fail
                exact Post.isv (Ext.refl _) rfl rfl rfl
              -- 7: Op.fieldAddr 35 t3 1   [guarded: some (5, true)]
              apply Stage.step (Is _) [false, false, false, false, false, true] (Is.keeps _) (by kernel_rfl)
              · intro w1 h1
                simp only [List.nil_append, List.cons_append, Given]
                rintro _ rfl
                go_wp2_with fail
                exact Post.isv (Ext.refl _) rfl rfl rfl
              -- 8: Op.load 33 t25   [guarded: some (5, true)]
              apply Stage.step (Is _) [false, false, false, false, false, true, false, true] (Is.keeps _) (by kernel_rfl)
              · intro w1 h1
                simp only [List.nil_append, List.cons_append, Given]
                rintro _ rfl
                rintro _ rfl
                have hq := h1.cell u1
                go_wp2_with fail
                exact Post.isv (Ext.refl _) rfl rfl rfl
              -- 9: Op.call { builtin len, args := #[t26], argTypes := #[33] }   [guarded: some (5, true)]
              apply Stage.step (Is _) [false, false, false, false, false, true, false, false, true] (Is.keeps _) (by kernel_rfl)
              · intro w1 h1
                simp only [List.nil_append, List.cons_append, Given]
                rintro _ rfl
                rintro _ rfl
                go_wp2_with fail
                exact Post.isv (Ext.refl _) rfl rfl rfl
              -- 10: Op.binOp BinOp.lss 3 t24 t27 3   [guarded: some (5, true)]
              apply Stage.step (Is _) [false, false, false, false, false, true, true, false, false, true] (Is.keeps _) (by kernel_rfl)
              · intro w1 h1
                simp only [List.nil_append, List.cons_append, Given]
                rintro _ rfl
                rintro _ rfl
                rintro _ rfl
                go_wp2_with fail
                exact Post.isv (Ext.refl _) rfl rfl rfl
              -- 11: Op.pick t23 t28 (const (Value.bool false))
              apply Stage.step (Is _) [false, false, false, false, false, true, false, false, false, false, true] (Is.keeps _) (by kernel_rfl)
              · intro w1 h1
                simp only [List.nil_append, List.cons_append, Given]
                rintro _ rfl
                rintro _ rfl
                go_wp2_with fail
                exact Post.isv (Ext.refl _) rfl rfl rfl
              -- 12: Op.move t29
              apply Stage.step (Is _) [false, false, false, false, false, false, false, false, false, false, false, true] (Is.keeps _) (by kernel_rfl)
              · intro w1 h1
                simp only [List.nil_append, List.cons_append, Given]
                rintro _ rfl
                go_wp2_with fail
                exact Post.isv (Ext.refl _) rfl rfl rfl
              -- 13: Op.fieldAddr 35 t2 1   [guarded: some (12, true)]
              apply Stage.step (Is _) [false, false, false, false, false, false, false, false, false, false, false, false, true] (Is.keeps _) (by kernel_rfl)
              · intro w1 h1
                simp only [List.nil_append, List.cons_append, Given]
                rintro _ rfl
                go_wp2_with fail
                exact Post.isv (Ext.refl _) rfl rfl rfl
              -- 14: Op.load 33 t31   [guarded: some (12, true)]
              apply Stage.step (Is _) [false, false, false, false, false, false, false, false, false, false, false, false, true, true] (Is.keeps _) (by kernel_rfl)
              · intro w1 h1
                simp only [List.nil_append, List.cons_append, Given]
                rintro _ rfl
                rintro _ rfl
                have hq := h1.cell s1
                go_wp2_with fail
                exact Post.isv (Ext.refl _) rfl rfl rfl
              -- 15: Op.move t6   [guarded: some (12, true)]
              apply Stage.step (Is _) [false, false, false, false, false, false, false, false, false, false, false, false, true] (Is.keeps _) (by kernel_rfl)
              · intro w1 h1
                simp only [List.nil_append, List.cons_append, Given]
                rintro _ rfl
                go_wp2_with fail
                exact Post.isv (Ext.refl _) rfl rfl rfl
              -- 16: Op.indexAddr 33 t32 t33   [guarded: some (12, true)]
              apply Stage.step (Is _) [false, false, false, false, false, false, false, false, false, false, false, false, true, false, true, true] (Is.keeps _) (by kernel_rfl)
              · intro w1 h1
                simp only [List.nil_append, List.cons_append, Given]
                rintro _ rfl
                rintro _ rfl
                rintro _ rfl
                go_wp2_with fail
                exact Post.isv (Ext.refl _) rfl rfl rfl
              -- 17: Op.fieldAddr 42 t34 0   [guarded: some (12, true)]
              apply Stage.step (Is _) [false, false, false, false, false, false, false, false, false, false, false, false, true, false, false, false, true] (Is.keeps _) (by kernel_rfl)
              · intro w1 h1
                simp only [List.nil_append, List.cons_append, Given]
                rintro _ rfl
                rintro _ rfl
                go_wp2_with fail
                exact Post.isv (Ext.refl _) rfl rfl rfl
              -- 18: Op.load 9 t35   [guarded: some (12, true)]
              apply Stage.step (Is _) [false, false, false, false, false, false, false, false, false, false, false, false, true, false, false, false, false, true] (Is.keeps _) (by kernel_rfl)
              · intro w1 h1
                simp only [List.nil_append, List.cons_append, Given]
                rintro _ rfl
                rintro _ rfl
                have hq := h1.cell a0
                go_wp2_with fail
                exact Post.isv (Ext.refl _) rfl rfl rfl
              -- 19: Op.fieldAddr 35 t3 1   [guarded: some (12, true)]
              apply Stage.step (Is _) [false, false, false, false, false, false, false, false, false, false, false, false, true] (Is.keeps _) (by kernel_rfl)
              · intro w1 h1
                simp only [List.nil_append, List.cons_append, Given]
                rintro _ rfl
                go_wp2_with fail
                exact Post.isv (Ext.refl _) rfl rfl rfl
              -- 20: Op.load 33 t37   [guarded: some (12, true)]
              apply Stage.step (Is _) [false, false, false, false, false, false, false, false, false, false, false, false, true, false, false, false, false, false, false, true] (Is.keeps _) (by kernel_rfl)
              · intro w1 h1
                simp only [List.nil_append, List.cons_append, Given]
                rintro _ rfl
                rintro _ rfl
                have hq := h1.cell u1
                go_wp2_with fail
                exact Post.isv (Ext.refl _) rfl rfl rfl
              -- 21: Op.move t6   [guarded: some (12, true)]
              apply Stage.step (Is _) [false, false, false, false, false, false, false, false, false, false, false, false, true] (Is.keeps _) (by kernel_rfl)
              · intro w1 h1
                simp only [List.nil_append, List.cons_append, Given]
                rintro _ rfl
                go_wp2_with fail
                exact Post.isv (Ext.refl _) rfl rfl rfl
              -- 22: Op.indexAddr 33 t38 t39   [guarded: some (12, true)]
              apply Stage.step (Is _) [false, false, false, false, false, false, false, false, false, false, false, false, true, false, false, false, false, false, false, false, true, true] (Is.keeps _) (by kernel_rfl)
              · intro w1 h1
                simp only [List.nil_append, List.cons_append, Given]
                rintro _ rfl
                rintro _ rfl
                rintro _ rfl
                go_wp2_with fail
                exact Post.isv (Ext.refl _) rfl rfl rfl
              -- 23: Op.fieldAddr 42 t40 0   [guarded: some (12, true)]
              apply Stage.step (Is _) [false, false, false, false, false, false, false, false, false, false, false, false, true, false, false, false, false, false, false, false, false, false, true] (Is.keeps _) (by kernel_rfl)
              · intro w1 h1
                simp only [List.nil_append, List.cons_append, Given]
                rintro _ rfl
                rintro _ rfl
                go_wp2_with fail
                exact Post.isv (Ext.refl _) rfl rfl rfl
              -- 24: Op.load 9 t41   [guarded: some (12, true)]
              apply Stage.step (Is _) [false, false, false, false, false, false, false, false, false, false, false, false, true, false, false, false, false, false, false, false, false, false, false, true] (Is.keeps _) (by kernel_rfl)
              · intro w1 h1
                simp only [List.nil_append, List.cons_append, Given]
                rintro _ rfl
                rintro _ rfl
                have hq := h1.cell b0
                go_wp2_with fail
                exact Post.isv (Ext.refl _) rfl rfl rfl
              -- 25: Op.binOp BinOp.eql 9 t36 t42 9   [guarded: some (12, true)]
              apply Stage.step (Is _) [false, false, false, false, false, false, false, false, false, false, false, false, true, false, false, false, false, false, true, false, false, false, false, false, true] (Is.keeps _) (by kernel_rfl)
              · intro w1 h1
                simp only [List.nil_append, List.cons_append, Given]
                rintro _ rfl
                rintro _ rfl
                rintro _ rfl
                go_wp2_with fail
                exact Post.isv (Ext.refl _) rfl rfl rfl
              -- 26: Op.pick t30 t43 (const (Value.bool false))
              apply Stage.step (Is _) [false, false, false, false, false, false, false, false, false, false, false, false, true, false, false, false, false, false, false, false, false, false, false, false, false, true] (Is.keeps _) (by kernel_rfl)
              · intro w1 h1
                simp only [List.nil_append, List.cons_append, Given]
                rintro _ rfl
                rintro _ rfl
                go_wp2_with fail
                exact Post.isv (Ext.refl _) rfl rfl rfl
              -- 27: Op.move t44
              apply Stage.step (Is _) [false, false, false, false, false, false, false, false, false, false, false, false, false, false, false, false, false, false, false, false, false, false, false, false, false, false, true] (Is.keeps _) (by kernel_rfl)
              · intro w1 h1
                simp only [List.nil_append, List.cons_append, Given]
                rintro _ rfl
                go_wp2_with fail
                exact Post.isv (Ext.refl _) rfl rfl rfl
              -- 28: Op.fieldAddr 35 t2 1   [guarded: some (27, true)]
              apply Stage.step (Is _) [false, false, false, false, false, false, false, false, false, false, false, false, false, false, false, false, false, false, false, false, false, false, false, false, false, false, false, true] (Is.keeps _) (by kernel_rfl)
              · intro w1 h1
                simp only [List.nil_append, List.cons_append, Given]
                rintro _ rfl
                go_wp2_with fail
                exact Post.isv (Ext.refl _) rfl rfl rfl
              -- 29: Op.load 33 t46   [guarded: some (27, true)]
              apply Stage.step (Is _) [false, false, false, false, false, false, false, false, false, false, false, false, false, false, false, false, false, false, false, false, false, false, false, false, false, false, false, true, true] (Is.keeps _) (by kernel_rfl)
              · intro w1 h1
                simp only [List.nil_append, List.cons_append, Given]
                rintro _ rfl
                rintro _ rfl
                have hq := h1.cell s1
                go_wp2_with fail
                exact Post.isv (Ext.refl _) rfl rfl rfl
              -- 30: Op.move t6   [guarded: some (27, true)]
              apply Stage.step (Is _) [false, false, false, false, false, false, false, false, false, false, false, false, false, false, false, false, false, false, false, false, false, false, false, false, false, false, false, true] (Is.keeps _) (by kernel_rfl)
              · intro w1 h1
                simp only [List.nil_append, List.cons_append, Given]
                rintro _ rfl
                go_wp2_with fail
                exact Post.isv (Ext.refl _) rfl rfl rfl
              -- 31: Op.indexAddr 33 t47 t48   [guarded: some (27, true)]
              apply Stage.step (Is _) [false, false, false, false, false, false, false, false, false, false, false, false, false, false, false, false, false, false, false, false, false, false, false, false, false, false, false, true, false, true, true] (Is.keeps _) (by kernel_rfl)
              · intro w1 h1
                simp only [List.nil_append, List.cons_append, Given]
                rintro _ rfl
                rintro _ rfl
                rintro _ rfl
                go_wp2_with fail
                exact Post.isv (Ext.refl _) rfl rfl rfl
              -- 32: Op.fieldAddr 42 t49 1   [guarded: some (27, true)]
              apply Stage.step (Is _) [false, false, false, false, false, false, false, false, false, false, false, false, false, false, false, false, false, false, false, false, false, false, false, false, false, false, false, true, false, false, false, true] (Is.keeps _) (by kernel_rfl)
              · intro w1 h1
                simp only [List.nil_append, List.cons_append, Given]
                rintro _ rfl
                rintro _ rfl
                go_wp2_with fail
                exact Post.isv (Ext.refl _) rfl rfl rfl
              -- 33: Op.load 22 t50   [guarded: some (27, true)]
              apply Stage.step (Is _) [false, false, false, false, false, false, false, false, false, false, false, false, false, false, false, false, false, false, false, false, false, false, false, false, false, false, false, true, false, false, false, false, true] (Is.keeps _) (by kernel_rfl)
              · intro w1 h1
                simp only [List.nil_append, List.cons_append, Given]
                rintro _ rfl
                rintro _ rfl
                have hq := h1.cell a1
                go_wp2_with fail
                exact Post.isv (Ext.refl _) rfl rfl rfl
              -- 34: Op.convert 22 9 t51   [guarded: some (27, true)]
              apply Stage.step (Is _) [false, false, false, false, false, false, false, false, false, false, false, false, false, false, false, false, false, false, false, false, false, false, false, false, false, false, false, true, false, false, false, false, false, true] (Is.keeps _) (by kernel_rfl)
              · intro w1 h1
                simp only [List.nil_append, List.cons_append, Given]
                rintro _ rfl
                rintro _ rfl
                have ht := run_text_u8 (sa.ext h1)
                go_wp2_with fail
                exact Post.isv (Ext.refl _) rfl rfl rfl
              -- 35: Op.fieldAddr 35 t3 1   [guarded: some (27, true)]
              apply Stage.step (Is _) [false, false, false, false, false, false, false, false, false, false, false, false, false, false, false, false, false, false, false, false, false, false, false, false, false, false, false, true] (Is.keeps _) (by kernel_rfl)
              · intro w1 h1
                simp only [List.nil_append, List.cons_append, Given]
                rintro _ rfl
                go_wp2_with fail
                exact Post.isv (Ext.refl _) rfl rfl rfl
              -- 36: Op.load 33 t53   [guarded: some (27, true)]
              apply Stage.step (Is _) [false, false, false, false, false, false, false, false, false, false, false, false, false, false, false, false, false, false, false, false, false, false, false, false, false, false, false, true, false, false, false, false, false, false, false, true] (Is.keeps _) (by kernel_rfl)
              · intro w1 h1
                simp only [List.nil_append, List.cons_append, Given]
                rintro _ rfl
                rintro _ rfl
                have hq := h1.cell u1
                go_wp2_with fail
                exact Post.isv (Ext.refl _) rfl rfl rfl
              -- 37: Op.move t6   [guarded: some (27, true)]
              apply Stage.step (Is _) [false, false, false, false, false, false, false, false, false, false, false, false, false, false, false, false, false, false, false, false, false, false, false, false, false, false, false, true] (Is.keeps _) (by kernel_rfl)
              · intro w1 h1
                simp only [List.nil_append, List.cons_append, Given]
                rintro _ rfl
                go_wp2_with fail
                exact Post.isv (Ext.refl _) rfl rfl rfl
              -- 38: Op.indexAddr 33 t54 t55   [guarded: some (27, true)]
              apply Stage.step (Is _) [false, false, false, false, false, false, false, false, false, false, false, false, false, false, false, false, false, false, false, false, false, false, false, false, false, false, false, true, false, false, false, false, false, false, false, false, true, true] (Is.keeps _) (by kernel_rfl)
              · intro w1 h1
                simp only [List.nil_append, List.cons_append, Given]
                rintro _ rfl
                rintro _ rfl
                rintro _ rfl
                go_wp2_with fail
                exact Post.isv (Ext.refl _) rfl rfl rfl
              -- 39: Op.fieldAddr 42 t56 1   [guarded: some (27, true)]
              apply Stage.step (Is _) [false, false, false, false, false, false, false, false, false, false, false, false, false, false, false, false, false, false, false, false, false, false, false, false, false, false, false, true, false, false, false, false, false, false, false, false, false, false, true] (Is.keeps _) (by kernel_rfl)
              · intro w1 h1
                simp only [List.nil_append, List.cons_append, Given]
                rintro _ rfl
                rintro _ rfl
                go_wp2_with fail
                exact Post.isv (Ext.refl _) rfl rfl rfl
              -- 40: Op.load 22 t57   [guarded: some (27, true)]
              apply Stage.step (Is _) [false, false, false, false, false, false, false, false, false, false, false, false, false, false, false, false, false, false, false, false, false, false, false, false, false, false, false, true, false, false, false, false, false, false, false, false, false, false, false, true] (Is.keeps _) (by kernel_rfl)
              · intro w1 h1
                simp only [List.nil_append, List.cons_append, Given]
                rintro _ rfl
                rintro _ rfl
                have hq := h1.cell b1c
                go_wp2_with fail
                exact Post.isv (Ext.refl _) rfl rfl rfl
              -- 41: Op.convert 22 9 t58   [guarded: some (27, true)]
              apply Stage.step (Is _) [false, false, false, false, false, false, false, false, false, false, false, false, false, false, false, false, false, false, false, false, false, false, false, false, false, false, false, true, false, false, false, false, false, false, false, false, false, false, false, false, true] (Is.keeps _) (by kernel_rfl)
              · intro w1 h1
                simp only [List.nil_append, List.cons_append, Given]
                rintro _ rfl
                rintro _ rfl
                have ht := run_text_u8 (sb.ext h1)
                go_wp2_with fail
                exact Post.isv (Ext.refl _) rfl rfl rfl
              -- 42: Op.binOp BinOp.eql 9 t52 t59 9   [guarded: some (27, true)]
              apply Stage.step (Is _) [false, false, false, false, false, false, false, false, false, false, false, false, false, false, false, false, false, false, false, false, false, false, false, false, false, false, false, true, false, false, false, false, false, false, true, false, false, false, false, false, false, true] (Is.keeps _) (by kernel_rfl)
              · intro w1 h1
                simp only [List.nil_append, List.cons_append, Given]
                rintro _ rfl
                rintro _ rfl
                rintro _ rfl
                go_wp2_with fail
                exact Post.isv (Ext.refl _) rfl rfl rfl
              -- 43: Op.pick t45 t60 (const (Value.bool false))
              apply Stage.step (Is _) [false, false, false, false, false, false, false, false, false, false, false, false, false, false, false, false, false, false, false, false, false, false, false, false, false, false, false, true, false, false, false, false, false, false, false, false, false, false, false, false, false, false, true] (Is.keeps _) (by kernel_rfl)
              · intro w1 h1
                simp only [List.nil_append, List.cons_append, Given]
                rintro _ rfl
                rintro _ rfl
                go_wp2_with fail
                exact Post.isv (Ext.refl _) rfl rfl rfl
              apply Stage.nil
              intro w1 h1
              simp only [List.nil_append, List.cons_append]
              refine Fin.is_ ?_
              refine Fin.is_ ?_
              refine Fin.is_ ?_
              refine Fin.is_ ?_
              refine Fin.is_ ?_
              refine Fin.is_ ?_
              refine Fin.is_ ?_
              refine Fin.is_ ?_
              refine Fin.is_ ?_
              refine Fin.is_ ?_
              refine Fin.is_ ?_
              refine Fin.is_ ?_
              refine Fin.is_ ?_
              refine Fin.is_ ?_
              refine Fin.is_ ?_
              refine Fin.is_ ?_
              refine Fin.is_ ?_
              refine Fin.is_ ?_
              refine Fin.is_ ?_
              refine Fin.is_ ?_
              refine Fin.is_ ?_
              refine Fin.is_ ?_
              refine Fin.is_ ?_
              refine Fin.is_ ?_
              refine Fin.is_ ?_
              refine Fin.is_ ?_
              refine Fin.is_ ?_
              refine Fin.is_ ?_
              refine Fin.is_ ?_
              refine Fin.is_ ?_
              refine Fin.is_ ?_
              refine Fin.is_ ?_
              refine Fin.is_ ?_
              refine Fin.is_ ?_
              refine Fin.is_ ?_
              refine Fin.is_ ?_
              refine Fin.is_ ?_
              refine Fin.is_ ?_
              refine Fin.is_ ?_
              refine Fin.is_ ?_
              refine Fin.is_ ?_
              refine Fin.is_ ?_
              refine Fin.is_ ?_
              refine Fin.is_ ?_
              refine Fin.nil_ ?_
              go_simp
              obtain ⟨k0, rfl⟩ : ∃ q, q = k := ⟨_, rfl⟩
              clear a0 a1 b0 b1c sa sb k1 k2 k3 hk hlt hlt2
              obtain ⟨wb, rfl⟩ : ∃ q, q = w1 := ⟨_, rfl⟩
              have gW := gz.trans h1
              have sb0 := h1.cell s0
              have sb1 := h1.cell s1
              have ub0 := h1.cell u0
              have ub1 := h1.cell u1
              clear s0 s1 u0 u1 h1 gz hxz
              go_wp2_with fail
              go_loopw [5, 7] (fun v i wr => ∃ (p mo : Nat) (Ao : Option Addr) (co : Nat), k0 ≤ p ∧ p ≤ n2 ∧ v = .slice Ao mo co ∧ i = .int .i64 ((p : Int) - 1) ∧ OwnL TEv 5 (fromR evR 0) wr wb.heap.size Ao mo co ((s.sn.drop p).reverse.map unE) ∧ Ext wb wr) (fun _ i _ => (intOf i + 1).toNat)
              case atStart => exact ⟨n2, 0, none, 0, by omega, by omega, rfl, rfl, by rw [List.drop_of_length_le (by rw [h1s.len]; exact Nat.le_refl _)]; exact OwnL.nil _ _ _ _, Ext.refl _⟩
              case round =>
                obtain ⟨p, mo, Ao, co, hkp, hpn, rfl, rfl, hown, hxr⟩ := hrel
                have s0 := hxr.cell sb0
                have s1 := hxr.cell sb1
                have gx := gW.trans hxr
                have hmo := hown.len
                simp only [List.length_map, List.length_reverse, List.length_drop, h1s.len] at hmo
                by_cases hlt : k0 < p
                · obtain ⟨q, rfl⟩ : ∃ q, p = q + 1 := ⟨p - 1, by omega⟩
                  obtain ⟨ga, oa, x, cs, he, hx, ⟨Aa, na, ca, rfl, sa0, hs⟩, ha⟩ := h1s.at2 ol_rep (i := q) (by omega) (by omega)
                  cases he
                  have x0 := gx.cell (ha 0 _ rfl)
                  rw [Nat.add_zero] at x0
                  have e1 : ((q + 1 : Nat) : Int) - 1 = (q : Int) := by omega
                  rw [e1]
                  have hl1 : (s.sn.drop (q + 1)).reverse.map unE ++ [unE x] = (s.sn.drop q).reverse.map unE := by
                    rw [drop_stepO hx, List.reverse_cons, List.map_append]
                    rfl
                  obtain ⟨xn, xd⟩ := x
                  simp only at x0 hs
                  replace hl1 := Lib.hid hl1
                  have k1 : decide ((q : Int) ≥ (k0 : Int)) = true := by simp; omega
                  have k2 : decide ((k0 : Int) ≤ (q : Int)) = true := by simp; omega
                  clear ha hx sa0 e1
                  go_wp2_with (
                    at_builtin
                    refine wpList_append_lst4 (B := wb.heap.size) (from_rep ev_rep 0) rfl _ _ _ _ rfl TEv i0 _ 64 under_evs hi0 hy0 hy1 hy2 rfl Ao mo co _ rfl (hown.ext (from_rep ev_rep 0) (Ext.alloc _ _)) _ 1 [⟨6, 0, 0, [], xn⟩] rfl (under_evl hs) (mo + 1) rfl _ hl1.out (by simp only [maxLen]; omega) (by omega) (by have := hxr.size; simp; omega) ?_
                    intro A9 c9 w9 ho9 hg9 hr9)
                  have hrow := hown.row_lt
                  have gx9 : Ext wb w9 := (hxr.trans (Ext.alloc _ _)).but (But.grown (H := wb.heap.size) (S := fun _ => False) (But.refl _ _ _) hg9 (fun g hg => .inr (hrow g hg).1)) (Nat.le_refl _) (fun _ h => h.elim)
                  go_wp2_with fail
                  go_roundw
                  case rel => exact ⟨q, mo + 1, A9, c9, by omega, by omega, rfl, rfl, ho9, gx9⟩
                  case measure => first | (simp [intOf]; done) | (simp [intOf]; omega)
                · obtain rfl : k0 = p := by omega
                  have k1 : decide ((k0 : Int) - 1 ≥ (k0 : Int)) = false := by simp; omega
                  have k2 : decide ((k0 : Int) ≤ (k0 : Int) - 1) = false := by simp; omega
                  go_wp2_with fail
                  obtain ⟨wl, rfl⟩ : ∃ q, q = wr := ⟨_, rfl⟩
                  have hR0 : Hid ((s.sn.drop k0).reverse.map unE ++ snapsW s.d (t.sn.drop k0) t.d = R) := hR
                  go_loopw [5, 8, 9] (fun v nw i wr => ∃ (p mo : Nat) (Ao : Option Addr) (co : Nat) (out : List Ev) (An : Option Addr) (nn cn : Nat) (now : List UInt8), p ≤ m2 ∧ v = .slice Ao mo co ∧ nw = .slice An nn cn ∧ i = .int .i64 p ∧ OwnL TEv 5 (fromR evR 0) wr wb.heap.size Ao mo co out ∧ Sl w An nn cn now ∧ now.length ≤ 512 ∧ mo ≤ 8 + 600 * p ∧ Hid (out ++ snapsW now (t.sn.drop p) t.d = R) ∧ Ext wb wr) (fun _ _ i _ => m2 - (intOf i).toNat)
                  case atStart => exact ⟨k0, mo, Ao, co, _, A, n, c, s.d, by omega, rfl, rfl, rfl, hown, h1d, a3, by omega, hR0, hxr⟩
                  case round =>
                    obtain ⟨p, mo, Ao, co, out, An, nn, cn, now, hj, rfl, rfl, rfl, hown, hnow, hn512, hmo8, hRj, hx2⟩ := hrel
                    clear hR0 hR
                    have u0 := hx2.cell ub0
                    have u1 := hx2.cell ub1
                    have g2 := gW.trans hx2
                    have hmo := hown.len
                    have bn := hnow.n63
                    have hnl := hnow.len
                    have hrow0 := hown.row_lt
                    by_cases hlt : p < m2
                    · obtain ⟨ga, oa, x, cs, he, hx, ⟨Aa, na, ca, rfl, sa0, hs⟩, ha⟩ := h2s.at2 ol_rep (i := p) (by omega) hlt
                      cases he
                      have a0 := g2.cell (ha 0 _ rfl)
                      rw [Nat.add_zero] at a0
                      have a1 := g2.cell (ha 1 _ rfl)
                      have hga := World.block_lt_of_cell? _ _ (ha 0 _ rfl)
                      have hca1 := ha 1 _ rfl
                      have hxm := (b1 x (List.mem_of_getElem? hx)).2
                      have hRx := hRj.out
                      rw [drop_stepO hx, snapsW] at hRx
                      obtain ⟨xn, xd⟩ := x
                      simp only at a0 a1 hs sa0 hRx hxm hga hca1
                      have ba := sa0.n63
                      have hal := sa0.len
                      obtain ⟨E, hE⟩ : ∃ q, bytesL now xd = q := ⟨_, rfl⟩
                      have hEl := bytesL_len now xd
                      rw [hE] at hRx hEl
                      have HE := Lib.hid hE
                      obtain ⟨n7, hn7⟩ : ∃ q, E.length = q := ⟨_, rfl⟩
                      rw [hn7] at hEl
                      have hRn : Hid ((out ++ E) ++ [⟨5, 0, 0, [], xn⟩] ++ snapsW xd (t.sn.drop (p + 1)) t.d = R) := Lib.hid (by rw [← hRx]; simp)
                      have hwz := gW.size
                      have hw1z : w.heap.size + 1 < wb.heap.size := World.block_lt_of_cell? _ _ ub1
                      have hxs := hx2.size
                      have HN7 := Lib.hid hn7
                      clear ha hx hRx hE hRj hn7
                      go_wp2_with fail
                      refine wp_region_typed4' (R := Bet (fun k => rowOf Ao co = some k)) 18 Ext.steady (Bet.steady _) (fun _ _ => Bet.of_ext) rfl 124 rfl [0, 0, 0, 4, 0, 28, 60, 124, 254, 511, 0, 1024, 0, 7168, 15360, 31744, 64512, 130048, 262143, 524287] 512 (by kernel_rfl) ?_
                      simp only [List.take_succ_cons, List.take_zero, List.drop_succ_cons, List.drop_zero]
                      -- 0: Op.move t5
                      apply Stage2.step (Is _) true [] true false (Is.keeps _) (fun _ => Is.keeps _) (by kernel_rfl)
                      · intro w1 h1
                        have h1 : Ext _ w1 := h1
                        simp only [List.nil_append, List.cons_append, List.map_cons, List.map_nil, Given]
                        go_wp2_with fail
                        exact Post.isv (Ext.refl _) rfl rfl rfl
                      -- 1: Op.move t8
                      apply Stage2.step (Is _) true [] true false (Is.keeps _) (fun _ => Is.keeps _) (by kernel_rfl)
                      · intro w1 h1
                        have h1 : Ext _ w1 := h1
                        simp only [List.nil_append, List.cons_append, List.map_cons, List.map_nil, Given]
                        go_wp2_with fail
                        exact Post.isv (Ext.refl _) rfl rfl rfl
                      -- 2: Op.fieldAddr 35 t3 1
                      apply Stage2.step (Is _) true [] true false (Is.keeps _) (fun _ => Is.keeps _) (by kernel_rfl)
                      · intro w1 h1
                        have h1 : Ext _ w1 := h1
                        simp only [List.nil_append, List.cons_append, List.map_cons, List.map_nil, Given]
                        go_wp2_with fail
                        exact Post.isv (Ext.refl _) rfl rfl rfl
                      -- 3: Op.load 33 t95
                      apply Stage2.step (Is _) true [false, false, true] true false (Is.keeps _) (fun _ => Is.keeps _) (by kernel_rfl)
                      · intro w1 h1
                        have h1 : Ext _ w1 := h1
                        simp only [List.nil_append, List.cons_append, List.map_cons, List.map_nil, Sp.pr, Given]
                        rintro _ rfl
                        have hq := h1.cell u1
                        go_wp2_with fail
                        exact Post.isv (Ext.refl _) rfl rfl rfl
                      -- 4: Op.move t9
                      apply Stage2.step (Is _) true [] true false (Is.keeps _) (fun _ => Is.keeps _) (by kernel_rfl)
                      · intro w1 h1
                        have h1 : Ext _ w1 := h1
                        simp only [List.nil_append, List.cons_append, List.map_cons, List.map_nil, Given]
                        go_wp2_with fail
                        exact Post.isv (Ext.refl _) rfl rfl rfl
                      -- 5: Op.indexAddr 33 t96 t97
                      apply Stage2.step (Is _) true [false, false, false, true, true] true false (Is.keeps _) (fun _ => Is.keeps _) (by kernel_rfl)
                      · intro w1 h1
                        have h1 : Ext _ w1 := h1
                        simp only [List.nil_append, List.cons_append, List.map_cons, List.map_nil, Sp.pr, Given]
                        rintro _ rfl
                        rintro _ rfl
                        go_wp2_with fail
                        exact Post.isv (Ext.refl _) rfl rfl rfl
                      -- 6: Op.fieldAddr 42 t98 1
                      apply Stage2.step (Is _) true [false, false, false, false, false, true] true false (Is.keeps _) (fun _ => Is.keeps _) (by kernel_rfl)
                      · intro w1 h1
                        have h1 : Ext _ w1 := h1
                        simp only [List.nil_append, List.cons_append, List.map_cons, List.map_nil, Sp.pr, Given]
                        rintro _ rfl
                        go_wp2_with fail
                        exact Post.isv (Ext.refl _) rfl rfl rfl
                      -- 7: Op.load 22 t99
                      apply Stage2.step (Is _) true [false, false, false, false, false, false, true] true false (Is.keeps _) (fun _ => Is.keeps _) (by kernel_rfl)
                      · intro w1 h1
                        have h1 : Ext _ w1 := h1
                        simp only [List.nil_append, List.cons_append, List.map_cons, List.map_nil, Sp.pr, Given]
                        rintro _ rfl
                        have hq := h1.cell a1
                        go_wp2_with fail
                        exact Post.isv (Ext.refl _) rfl rfl rfl
                      -- 8: Op.call { value (Operand.func 30), args := #[t94, t100], argTypes := #[22, 22] }
                      apply Stage2.step (EvFr wr.heap.size n7 E) false [false, true, false, false, false, false, false, true] true false (EvFr.keeps _ _ _) (no_keeps) (by kernel_rfl)
                      · intro w1 h1
                        have h1 : Ext _ w1 := h1
                        simp only [List.nil_append, List.cons_append, List.map_cons, List.map_nil, Sp.pr, Given]
                        rintro _ rfl
                        rintro _ rfl
                        go_wp2_with fail
                        refine (ref_BytesF (hnow.ext (g2.trans h1)) (sa0.ext (g2.trans h1)) (by omega) (by omega) HE).mono ?_
                        rintro e w4 ⟨A7, n8, c7, rfl, h7, gq4⟩
                        have h7l := h7.len
                        rw [HN7.out] at h7l
                        subst h7l
                        go_wp2_with fail
                        exact ⟨rfl, rfl, gq4, _, _, rfl, h7.lst.weak fun x cs h => ⟨h.1, fun k hk => Nat.le_trans h1.size (h.2 k hk)⟩⟩
                      -- 9: Op.call { builtin append, args := #[t93, t101], argTypes := #[23, 23] }
                      apply Stage2.step (EvOw wb.heap.size wr.heap.size (mo + n7) (rowOf Ao co) (out ++ E)) false [true, false, false, false, false, false, false, false, true] true true (EvOw.keeps _ _ _ _ _) (no_keeps) (by kernel_rfl)
                      · intro w1 h1
                        have h1 : Ext _ w1 := h1
                        simp only [List.nil_append, List.cons_append, List.map_cons, List.map_nil, Sp.pr, Given]
                        rintro _ rfl
                        rintro _ ⟨A7, c7, rfl, h7⟩
                        have hown4 := hown.ext (from_rep ev_rep 0) h1
                        have hfd := Feed.from (P := Try.prog) (tx := 23) (B0 := 0) ev_rep hown4 (fun g hg => (hrow0 g hg).2) (Nat.zero_le _) h7 under_evs
                        have hs1 := h1.size
                        have b7 := h7.n63
                        go_wp2_with (
                          at_builtin
                          refine wpList_append_lst4 (B := wb.heap.size) (from_rep ev_rep 0) rfl _ _ _ _ rfl TEv i0 _ 64 under_evs hi0 hy0 hy1 hy2 rfl Ao mo co out rfl hown4 _ n7 E rfl hfd (mo + n7) rfl _ rfl (by simp only [maxLen]; omega) (by omega) (by omega) ?_
                          intro A8 c8 w8 ho8 hg8 hr8)
                        exact ⟨rfl, rfl, Bet.grown hg8 (fun k hk => hk), _, _, rfl, ho8, fun g hg => by
                          rcases hr8 with h | h
                          · exact .inl (by rw [← h]; exact hg)
                          · rw [h] at hg; injection hg with hg; exact .inr (by omega)⟩
                      -- 10: Op.fieldAddr 35 t3 1
                      apply Stage2.step (Is _) true [] false false (Is.keeps _) (fun _ => Is.keeps _) (by kernel_rfl)
                      · intro w1 h1
                        have h1 : (Bet (fun k => rowOf Ao co = some k)) _ w1 := h1
                        simp only [List.nil_append, List.cons_append, List.map_cons, List.map_nil, Given]
                        go_wp2_with fail
                        exact Post.isv (Ext.refl _) rfl rfl rfl
                      -- 11: Op.load 33 t103
                      apply Stage2.step (Is _) true [false, false, false, false, false, false, false, false, false, false, true] false false (Is.keeps _) (fun _ => Is.keeps _) (by kernel_rfl)
                      · intro w1 h1
                        have h1 : (Bet (fun k => rowOf Ao co = some k)) _ w1 := h1
                        simp only [List.nil_append, List.cons_append, List.map_cons, List.map_nil, Sp.pr, Given]
                        rintro _ rfl
                        have hq := h1.cell u1 (fun e => by have := (hrow0 _ e).1; simp only at this; omega)
                        go_wp2_with fail
                        exact Post.isv (Ext.refl _) rfl rfl rfl
                      -- 12: Op.move t9
                      apply Stage2.step (Is _) true [] false false (Is.keeps _) (fun _ => Is.keeps _) (by kernel_rfl)
                      · intro w1 h1
                        have h1 : (Bet (fun k => rowOf Ao co = some k)) _ w1 := h1
                        simp only [List.nil_append, List.cons_append, List.map_cons, List.map_nil, Given]
                        go_wp2_with fail
                        exact Post.isv (Ext.refl _) rfl rfl rfl
                      -- 13: Op.indexAddr 33 t104 t105
                      apply Stage2.step (Is _) true [false, false, false, false, false, false, false, false, false, false, false, true, true] false false (Is.keeps _) (fun _ => Is.keeps _) (by kernel_rfl)
                      · intro w1 h1
                        have h1 : (Bet (fun k => rowOf Ao co = some k)) _ w1 := h1
                        simp only [List.nil_append, List.cons_append, List.map_cons, List.map_nil, Sp.pr, Given]
                        rintro _ rfl
                        rintro _ rfl
                        go_wp2_with fail
                        exact Post.isv (Ext.refl _) rfl rfl rfl
                      -- 14: Op.fieldAddr 42 t106 0
                      apply Stage2.step (Is _) true [false, false, false, false, false, false, false, false, false, false, false, false, false, true] false false (Is.keeps _) (fun _ => Is.keeps _) (by kernel_rfl)
                      · intro w1 h1
                        have h1 : (Bet (fun k => rowOf Ao co = some k)) _ w1 := h1
                        simp only [List.nil_append, List.cons_append, List.map_cons, List.map_nil, Sp.pr, Given]
                        rintro _ rfl
                        go_wp2_with fail
                        exact Post.isv (Ext.refl _) rfl rfl rfl
                      -- 15: Op.load 9 t107
                      apply Stage2.step (Is _) true [false, false, false, false, false, false, false, false, false, false, false, false, false, false, true] false false (Is.keeps _) (fun _ => Is.keeps _) (by kernel_rfl)
                      · intro w1 h1
                        have h1 : (Bet (fun k => rowOf Ao co = some k)) _ w1 := h1
                        simp only [List.nil_append, List.cons_append, List.map_cons, List.map_nil, Sp.pr, Given]
                        rintro _ rfl
                        have hq := h1.cell a0 (fun e => by have := (hrow0 _ e).1; simp only at this; omega)
                        go_wp2_with fail
                        exact Post.isv (Ext.refl _) rfl rfl rfl
                      -- 16: Op.build 28 #[(0, const (5:i64)), (4, t108)]
                      apply Stage2.step (Is _) true [false, false, false, false, false, false, false, false, false, false, false, false, false, false, false, true] false false (Is.keeps _) (fun _ => Is.keeps _) (by kernel_rfl)
                      · intro w1 h1
                        have h1 : (Bet (fun k => rowOf Ao co = some k)) _ w1 := h1
                        simp only [List.nil_append, List.cons_append, List.map_cons, List.map_nil, Sp.pr, Given]
                        rintro _ rfl
                        go_wp2_with fail
                        exact Post.isv (Ext.refl _) rfl rfl rfl
                      -- 17: Op.buildSlice 23 1 #[(0, t109)]
                      apply Stage2.step (EvLt wr.heap.size 5 xn) true [false, false, false, false, false, false, false, false, false, false, false, false, false, false, false, false, true] false false (EvLt.keeps _ _ _) (fun _ => EvLt.keeps2 _ _ (fun g hg => (hrow0 g hg).2)) (by kernel_rfl)
                      · intro w1 h1
                        have h1 : (Bet (fun k => rowOf Ao co = some k)) _ w1 := h1
                        simp only [List.nil_append, List.cons_append, List.map_cons, List.map_nil, Sp.pr, Given]
                        rintro _ rfl
                        have hs1 := (h1 0).size
                        go_wp2_with fail
                        exact ⟨rfl, rfl, Ext.alloc _ _, _, rfl, hs1, heap_alloc_new _ _⟩
                      apply Stage2.nil [true, true, true, true, true, true, true, true, false, true, true, true, true, true, true, true, true, true] (by kernel_rfl)
                      intro w1 h1
                      have h1 : (Bet (fun k => rowOf Ao co = some k)) _ w1 := h1
                      simp only [List.nil_append, List.cons_append, List.map_cons, List.map_nil, Sp.pr]
                      refine Fin2.is_ ?_
                      refine Fin2.is_ ?_
                      refine Fin2.is_ ?_
                      refine Fin2.is_ ?_
                      refine Fin2.is_ ?_
                      refine Fin2.is_ ?_
                      refine Fin2.is_ ?_
                      refine Fin2.is_ ?_
                      refine Fin2.dead_ ?_
                      intro dead8
                      refine Fin2.step_ ?_
                      rintro _ ⟨A8, c8, rfl, h8, hr8⟩
                      refine Fin2.is_ ?_
                      refine Fin2.is_ ?_
                      refine Fin2.is_ ?_
                      refine Fin2.is_ ?_
                      refine Fin2.is_ ?_
                      refine Fin2.is_ ?_
                      refine Fin2.is_ ?_
                      refine Fin2.step_ ?_
                      rintro _ ⟨gl, rfl, hgl, hlit⟩
                      refine Fin2.nil_ ?_
                      go_simp
                      have gx8 : Ext wb w1 := hx2.but (h1 wr.heap.size) hx2.size (fun g hg => (hrow0 g hg).1)
                      have hrow8 := h8.row_lt
                      have hs8 := gx8.size
                      go_wp2_with (
                        at_builtin
                        refine wpList_append_lst4 (B := wb.heap.size) (from_rep ev_rep 0) rfl _ _ _ _ rfl TEv i0 _ 64 under_evs hi0 hy0 hy1 hy2 rfl A8 (mo + n7) c8 (out ++ E) rfl h8 _ 1 [⟨5, 0, 0, [], xn⟩] rfl (lit_feed hlit hs) (mo + n7 + 1) rfl _ rfl (by simp only [maxLen]; omega) (by omega) (by omega) ?_
                        intro A9 c9 w9 ho9 hg9 hr9
                        have gx9 : Ext wb w9 := gx8.but (But.grown (H := wb.heap.size) (S := fun _ => False) (But.refl _ _ _) hg9 (fun g hg => .inr (hrow8 g hg).1)) (Nat.le_refl _) (fun _ h => h.elim)
                        have Z1 := gx9.cell ub1
                        have Z2 := (gW.trans gx9).cell hca1)
                      clear hg9 hr9 h8 gx8 hown hlit
                      go_wp2_with fail
                      go_roundw
                      case rel => exact ⟨p + 1, mo + n7 + 1, A9, c9, _, Aa, na, ca, xd, by omega, rfl, rfl, by go_num, ho9, sa0, hxm, by omega, hRn, gx9⟩
                      case measure => simp [intOf]; omega
                    · obtain ⟨E, hE⟩ : ∃ q, bytesL now t.d = q := ⟨_, rfl⟩
                      have hEl := bytesL_len now t.d
                      have hRx := hRj.out
                      rw [List.drop_of_length_le (by rw [h2s.len]; omega), snapsW, hE] at hRx
                      rw [hE] at hEl
                      have HE := Lib.hid hE
                      replace hRx := Lib.hid hRx
                      have hml := h2d.len
                      clear hE hRj
                      go_wp2_with fail
                      refine (ref_BytesF (hnow.ext g2) (h2d.ext g2) (by omega) (by omega) HE).mono ?_
                      rintro e w4 ⟨A7, n7, c7, rfl, h7, gq4⟩
                      have h7l := h7.len
                      have b7 := h7.lst.n63
                      have hs4 := gq4.size
                      have hs5 := hx2.size
                      have hown4 := hown.ext (from_rep ev_rep 0) gq4
                      have hxb4 := hx2.trans gq4
                      have hfd := Feed.from (P := Try.prog) (tx := 23) (B0 := 0) ev_rep hown4 (fun g hg => (hrow0 g hg).2) (Nat.zero_le _) (h7.lst.weak fun x cs h => h) under_evs
                      clear hown
                      go_wp2_with (
                        at_builtin
                        refine wpList_append_lst4 (B := wb.heap.size) (from_rep ev_rep 0) rfl _ _ _ _ rfl TEv i0 _ 64 under_evs hi0 hy0 hy1 hy2 rfl Ao mo co out rfl hown4 _ n7 E rfl hfd (mo + n7) rfl _ rfl (by simp only [maxLen]; omega) (by omega) (by omega) ?_
                        intro A8 c8 w8 ho8 hg8 hr8)
                      have gx8 : Ext wb w8 := hxb4.but (But.grown (H := wb.heap.size) (S := fun _ => False) (But.refl _ _ _) hg8 (fun g hg => .inr (hrow0 g hg).1)) (Nat.le_refl _) (fun _ h => h.elim)
                      rw [hRx.out] at ho8
                      go_wp2_with fail
                      go_ret
                      exact ⟨A8, mo + n7, c8, rfl, ho8.lst.weak fun x cs h => h.1, gW.trans gx8⟩
          · have k2 : decide ((k : Int) < (m2 : Int)) = false := by simp; omega
            obtain rfl : k = k0 := by
              rw [← hrk.out, List.drop_of_length_le (l := t.sn) (by rw [h2s.len]; omega)]
              cases s.sn.drop k <;> simp [alikeL]
            clear hrk
            go_wp2_with fail
            refine wp_region_typed Ext.steady rfl 124 rfl (by kernel_rfl) ?_
            -- 0: Op.move t6
            apply Stage.step (Is _) [] (Is.keeps _) (by kernel_rfl)
            · intro w1 h1
              simp only [Given]
              go_wp2_with fail
              exact Post.isv (Ext.refl _) rfl rfl rfl
            -- 1: Op.fieldAddr 35 t2 1
            apply Stage.step (Is _) [] (Is.keeps _) (by kernel_rfl)
            · intro w1 h1
              simp only [Given]
              go_wp2_with fail
              exact Post.isv (Ext.refl _) rfl rfl rfl
            -- 2: Op.load 33 t19
            apply Stage.step (Is _) [false, true] (Is.keeps _) (by kernel_rfl)
            · intro w1 h1
              simp only [List.nil_append, List.cons_append, Given]
              rintro _ rfl
              have hq := h1.cell s1
              go_wp2_with fail
              exact Post.isv (Ext.refl _) rfl rfl rfl
            -- 3: Op.call { builtin len, args := #[t20], argTypes := #[33] }
            apply Stage.step (Is _) [false, false, true] (Is.keeps _) (by kernel_rfl)
            · intro w1 h1
              simp only [List.nil_append, List.cons_append, Given]
              rintro _ rfl
              go_wp2_with fail
              exact Post.isv (Ext.refl _) rfl rfl rfl
            -- 4: Op.binOp BinOp.lss 3 t18 t21 3
            apply Stage.step (Is _) [true, false, false, true] (Is.keeps _) (by kernel_rfl)
            · intro w1 h1
              simp only [List.nil_append, List.cons_append, Given]
              rintro _ rfl
              rintro _ rfl
              go_wp2_with fail
              exact Post.isv (Ext.refl _) rfl rfl rfl
            -- 5: Op.move t22
            apply Stage.step (Is _) [false, false, false, false, true] (Is.keeps _) (by kernel_rfl)
            · intro w1 h1
              simp only [List.nil_append, List.cons_append, Given]
              rintro _ rfl
              go_wp2_with fail
              exact Post.isv (Ext.refl _) rfl rfl rfl
            -- 6: Op.move t6   [guarded: some (5, true)]
            apply Stage.step (Is _) [false, false, false, false, false, true] (Is.keeps _) (by kernel_rfl)
            · intro w1 h1
              simp only [List.nil_append, List.cons_append, Given]
              rintro _ rfl
              go_wp2_with fail
              exact Post.isv (Ext.refl _) rfl rfl rfl
            -- 7: Op.fieldAddr 35 t3 1   [guarded: some (5, true)]
            apply Stage.step (Is _) [false, false, false, false, false, true] (Is.keeps _) (by kernel_rfl)
            · intro w1 h1
              simp only [List.nil_append, List.cons_append, Given]
              rintro _ rfl
              go_wp2_with fail
              exact Post.isv (Ext.refl _) rfl rfl rfl
            -- 8: Op.load 33 t25   [guarded: some (5, true)]
            apply Stage.step (Is _) [false, false, false, false, false, true, false, true] (Is.keeps _) (by kernel_rfl)
            · intro w1 h1
              simp only [List.nil_append, List.cons_append, Given]
              rintro _ rfl
              rintro _ rfl
              have hq := h1.cell u1
              go_wp2_with fail
              exact Post.isv (Ext.refl _) rfl rfl rfl
            -- 9: Op.call { builtin len, args := #[t26], argTypes := #[33] }   [guarded: some (5, true)]
            apply Stage.step (Is _) [false, false, false, false, false, true, false, false, true] (Is.keeps _) (by kernel_rfl)
            · intro w1 h1
              simp only [List.nil_append, List.cons_append, Given]
              rintro _ rfl
              rintro _ rfl
              go_wp2_with fail
              exact Post.isv (Ext.refl _) rfl rfl rfl
            -- 10: Op.binOp BinOp.lss 3 t24 t27 3   [guarded: some (5, true)]
            apply Stage.step (Is _) [false, false, false, false, false, true, true, false, false, true] (Is.keeps _) (by kernel_rfl)
            · intro w1 h1
              simp only [List.nil_append, List.cons_append, Given]
              rintro _ rfl
              rintro _ rfl
              rintro _ rfl
              go_wp2_with fail
              exact Post.isv (Ext.refl _) rfl rfl rfl
            -- 11: Op.pick t23 t28 (const (Value.bool false))
            apply Stage.step (Is _) [false, false, false, false, false, true, false, false, false, false, true] (Is.keeps _) (by kernel_rfl)
            · intro w1 h1
              simp only [List.nil_append, List.cons_append, Given]
              rintro _ rfl
              rintro _ rfl
              go_wp2_with fail
              exact Post.isv (Ext.refl _) rfl rfl rfl
            -- 12: Op.move t29
            apply Stage.step (Is _) [false, false, false, false, false, false, false, false, false, false, false, true] (Is.keeps _) (by kernel_rfl)
            · intro w1 h1
              simp only [List.nil_append, List.cons_append, Given]
              rintro _ rfl
              go_wp2_with fail
              exact Post.isv (Ext.refl _) rfl rfl rfl
            -- 13: Op.fieldAddr 35 t2 1   [guarded: some (12, true)]
            apply Stage.step (Is _) [false, false, false, false, false, false, false, false, false, false, false, false, true] (Is.keeps _) (by kernel_rfl)
            · intro w1 h1
              simp only [List.nil_append, List.cons_append, Given]
              rintro _ rfl
              go_wp2_with fail
              exact Post.isv (Ext.refl _) rfl rfl rfl
            -- 14: Op.load 33 t31   [guarded: some (12, true)]
            apply Stage.step (Is _) [false, false, false, false, false, false, false, false, false, false, false, false, true, true] (Is.keeps _) (by kernel_rfl)
            · intro w1 h1
              simp only [List.nil_append, List.cons_append, Given]
              rintro _ rfl
              rintro _ rfl
              go_wp2_with fail
              exact Post.isv (Ext.refl _) rfl rfl rfl
            -- 15: Op.move t6   [guarded: some (12, true)]
            apply Stage.step (Is _) [false, false, false, false, false, false, false, false, false, false, false, false, true] (Is.keeps _) (by kernel_rfl)
            · intro w1 h1
              simp only [List.nil_append, List.cons_append, Given]
              rintro _ rfl
              go_wp2_with fail
              exact Post.isv (Ext.refl _) rfl rfl rfl
            -- 16: Op.indexAddr 33 t32 t33   [guarded: some (12, true)]
            apply Stage.step (Is _) [false, false, false, false, false, false, false, false, false, false, false, false, true, false, true, true] (Is.keeps _) (by kernel_rfl)
            · intro w1 h1
              simp only [List.nil_append, List.cons_append, Given]
              rintro _ rfl
              rintro _ rfl
              rintro _ rfl
              go_wp2_with fail
              exact Post.isv (Ext.refl _) rfl rfl rfl
            -- 17: Op.fieldAddr 42 t34 0   [guarded: some (12, true)]
            apply Stage.step (Is _) [false, false, false, false, false, false, false, false, false, false, false, false, true, false, false, false, true] (Is.keeps _) (by kernel_rfl)
            · intro w1 h1
              simp only [List.nil_append, List.cons_append, Given]
              rintro _ rfl
              rintro _ rfl
              go_wp2_with fail
              exact Post.isv (Ext.refl _) rfl rfl rfl
            -- 18: Op.load 9 t35   [guarded: some (12, true)]
            apply Stage.step (Is _) [false, false, false, false, false, false, false, false, false, false, false, false, true, false, false, false, false, true] (Is.keeps _) (by kernel_rfl)
            · intro w1 h1
              simp only [List.nil_append, List.cons_append, Given]
              rintro _ rfl
              rintro _ rfl
              go_wp2_with fail
              exact Post.isv (Ext.refl _) rfl rfl rfl
            -- 19: Op.fieldAddr 35 t3 1   [guarded: some (12, true)]
            apply Stage.step (Is _) [false, false, false, false, false, false, false, false, false, false, false, false, true] (Is.keeps _) (by kernel_rfl)
            · intro w1 h1
              simp only [List.nil_append, List.cons_append, Given]
              rintro _ rfl
              go_wp2_with fail
              exact Post.isv (Ext.refl _) rfl rfl rfl
            -- 20: Op.load 33 t37   [guarded: some (12, true)]
            apply Stage.step (Is _) [false, false, false, false, false, false, false, false, false, false, false, false, true, false, false, false, false, false, false, true] (Is.keeps _) (by kernel_rfl)
            · intro w1 h1
              simp only [List.nil_append, List.cons_append, Given]
              rintro _ rfl
              rintro _ rfl
              go_wp2_with fail
              exact Post.isv (Ext.refl _) rfl rfl rfl
            -- 21: Op.move t6   [guarded: some (12, true)]
            apply Stage.step (Is _) [false, false, false, false, false, false, false, false, false, false, false, false, true] (Is.keeps _) (by kernel_rfl)
            · intro w1 h1
              simp only [List.nil_append, List.cons_append, Given]
              rintro _ rfl
              go_wp2_with fail
              exact Post.isv (Ext.refl _) rfl rfl rfl
            -- 22: Op.indexAddr 33 t38 t39   [guarded: some (12, true)]
            apply Stage.step (Is _) [false, false, false, false, false, false, false, false, false, false, false, false, true, false, false, false, false, false, false, false, true, true] (Is.keeps _) (by kernel_rfl)
            · intro w1 h1
              simp only [List.nil_append, List.cons_append, Given]
              rintro _ rfl
              rintro _ rfl
              rintro _ rfl
              go_wp2_with fail
              exact Post.isv (Ext.refl _) rfl rfl rfl
            -- 23: Op.fieldAddr 42 t40 0   [guarded: some (12, true)]
            apply Stage.step (Is _) [false, false, false, false, false, false, false, false, false, false, false, false, true, false, false, false, false, false, false, false, false, false, true] (Is.keeps _) (by kernel_rfl)
            · intro w1 h1
              simp only [List.nil_append, List.cons_append, Given]
              rintro _ rfl
              rintro _ rfl
              go_wp2_with fail
              exact Post.isv (Ext.refl _) rfl rfl rfl
            -- 24: Op.load 9 t41   [guarded: some (12, true)]
            apply Stage.step (Is _) [false, false, false, false, false, false, false, false, false, false, false, false, true, false, false, false, false, false, false, false, false, false, false, true] (Is.keeps _) (by kernel_rfl)
            · intro w1 h1
              simp only [List.nil_append, List.cons_append, Given]
              rintro _ rfl
              rintro _ rfl
              go_wp2_with fail
              exact Post.isv (Ext.refl _) rfl rfl rfl
            -- 25: Op.binOp BinOp.eql 9 t36 t42 9   [guarded: some (12, true)]
            apply Stage.step (Is _) [false, false, false, false, false, false, false, false, false, false, false, false, true, false, false, false, false, false, true, false, false, false, false, false, true] (Is.keeps _) (by kernel_rfl)
            · intro w1 h1
              simp only [List.nil_append, List.cons_append, Given]
              rintro _ rfl
              rintro _ rfl
              rintro _ rfl
              go_wp2_with fail
              exact Post.isv (Ext.refl _) rfl rfl rfl
            -- 26: Op.pick t30 t43 (const (Value.bool false))
            apply Stage.step (Is _) [false, false, false, false, false, false, false, false, false, false, false, false, true, false, false, false, false, false, false, false, false, false, false, false, false, true] (Is.keeps _) (by kernel_rfl)
            · intro w1 h1
              simp only [List.nil_append, List.cons_append, Given]
              rintro _ rfl
              rintro _ rfl
              go_wp2_with fail
              exact Post.isv (Ext.refl _) rfl rfl rfl
            -- 27: Op.move t44
            apply Stage.step (Is _) [false, false, false, false, false, false, false, false, false, false, false, false, false, false, false, false, false, false, false, false, false, false, false, false, false, false, true] (Is.keeps _) (by kernel_rfl)
            · intro w1 h1
              simp only [List.nil_append, List.cons_append, Given]
              rintro _ rfl
              go_wp2_with fail
              exact Post.isv (Ext.refl _) rfl rfl rfl
            -- 28: Op.fieldAddr 35 t2 1   [guarded: some (27, true)]
            apply Stage.step (Is _) [false, false, false, false, false, false, false, false, false, false, false, false, false, false, false, false, false, false, false, false, false, false, false, false, false, false, false, true] (Is.keeps _) (by kernel_rfl)
            · intro w1 h1
              simp only [List.nil_append, List.cons_append, Given]
              rintro _ rfl
              go_wp2_with fail
              exact Post.isv (Ext.refl _) rfl rfl rfl
            -- 29: Op.load 33 t46   [guarded: some (27, true)]
            apply Stage.step (Is _) [false, false, false, false, false, false, false, false, false, false, false, false, false, false, false, false, false, false, false, false, false, false, false, false, false, false, false, true, true] (Is.keeps _) (by kernel_rfl)
            · intro w1 h1
              simp only [List.nil_append, List.cons_append, Given]
              rintro _ rfl
              rintro _ rfl
              go_wp2_with fail
              exact Post.isv (Ext.refl _) rfl rfl rfl
            -- 30: Op.move t6   [guarded: some (27, true)]
            apply Stage.step (Is _) [false, false, false, false, false, false, false, false, false, false, false, false, false, false, false, false, false, false, false, false, false, false, false, false, false, false, false, true] (Is.keeps _) (by kernel_rfl)
            · intro w1 h1
              simp only [List.nil_append, List.cons_append, Given]
              rintro _ rfl
              go_wp2_with fail
              exact Post.isv (Ext.refl _) rfl rfl rfl
            -- 31: Op.indexAddr 33 t47 t48   [guarded: some (27, true)]
            apply Stage.step (Is _) [false, false, false, false, false, false, false, false, false, false, false, false, false, false, false, false, false, false, false, false, false, false, false, false, false, false, false, true, false, true, true] (Is.keeps _) (by kernel_rfl)
            · intro w1 h1
              simp only [List.nil_append, List.cons_append, Given]
              rintro _ rfl
              rintro _ rfl
              rintro _ rfl
              go_wp2_with fail
              exact Post.isv (Ext.refl _) rfl rfl rfl
            -- 32: Op.fieldAddr 42 t49 1   [guarded: some (27, true)]
            apply Stage.step (Is _) [false, false, false, false, false, false, false, false, false, false, false, false, false, false, false, false, false, false, false, false, false, false, false, false, false, false, false, true, false, false, false, true] (Is.keeps _) (by kernel_rfl)
            · intro w1 h1
              simp only [List.nil_append, List.cons_append, Given]
              rintro _ rfl
              rintro _ rfl
              go_wp2_with fail
              exact Post.isv (Ext.refl _) rfl rfl rfl
            -- 33: Op.load 22 t50   [guarded: some (27, true)]
            apply Stage.step (Is _) [false, false, false, false, false, false, false, false, false, false, false, false, false, false, false, false, false, false, false, false, false, false, false, false, false, false, false, true, false, false, false, false, true] (Is.keeps _) (by kernel_rfl)
            · intro w1 h1
              simp only [List.nil_append, List.cons_append, Given]
              rintro _ rfl
              rintro _ rfl
              go_wp2_with fail
              exact Post.isv (Ext.refl _) rfl rfl rfl
            -- 34: Op.convert 22 9 t51   [guarded: some (27, true)]
            apply Stage.step (Is _) [false, false, false, false, false, false, false, false, false, false, false, false, false, false, false, false, false, false, false, false, false, false, false, false, false, false, false, true, false, false, false, false, false, true] (Is.keeps _) (by kernel_rfl)
            · intro w1 h1
              simp only [List.nil_append, List.cons_append, Given]
              rintro _ rfl
              rintro _ rfl
              go_wp2_with fail
              exact Post.isv (Ext.refl _) rfl rfl rfl
            -- 35: Op.fieldAddr 35 t3 1   [guarded: some (27, true)]
            apply Stage.step (Is _) [false, false, false, false, false, false, false, false, false, false, false, false, false, false, false, false, false, false, false, false, false, false, false, false, false, false, false, true] (Is.keeps _) (by kernel_rfl)
            · intro w1 h1
              simp only [List.nil_append, List.cons_append, Given]
              rintro _ rfl
              go_wp2_with fail
              exact Post.isv (Ext.refl _) rfl rfl rfl
            -- 36: Op.load 33 t53   [guarded: some (27, true)]
            apply Stage.step (Is _) [false, false, false, false, false, false, false, false, false, false, false, false, false, false, false, false, false, false, false, false, false, false, false, false, false, false, false, true, false, false, false, false, false, false, false, true] (Is.keeps _) (by kernel_rfl)
            · intro w1 h1
              simp only [List.nil_append, List.cons_append, Given]
              rintro _ rfl
              rintro _ rfl
              go_wp2_with fail
              exact Post.isv (Ext.refl _) rfl rfl rfl
            -- 37: Op.move t6   [guarded: some (27, true)]
            apply Stage.step (Is _) [false, false, false, false, false, false, false, false, false, false, false, false, false, false, false, false, false, false, false, false, false, false, false, false, false, false, false, true] (Is.keeps _) (by kernel_rfl)
            · intro w1 h1
              simp only [List.nil_append, List.cons_append, Given]
              rintro _ rfl
              go_wp2_with fail
              exact Post.isv (Ext.refl _) rfl rfl rfl
            -- 38: Op.indexAddr 33 t54 t55   [guarded: some (27, true)]
            apply Stage.step (Is _) [false, false, false, false, false, false, false, false, false, false, false, false, false, false, false, false, false, false, false, false, false, false, false, false, false, false, false, true, false, false, false, false, false, false, false, false, true, true] (Is.keeps _) (by kernel_rfl)
            · intro w1 h1
              simp only [List.nil_append, List.cons_append, Given]
              rintro _ rfl
              rintro _ rfl
              rintro _ rfl
              go_wp2_with fail
              exact Post.isv (Ext.refl _) rfl rfl rfl
            -- 39: Op.fieldAddr 42 t56 1   [guarded: some (27, true)]
            apply Stage.step (Is _) [false, false, false, false, false, false, false, false, false, false, false, false, false, false, false, false, false, false, false, false, false, false, false, false, false, false, false, true, false, false, false, false, false, false, false, false, false, false, true] (Is.keeps _) (by kernel_rfl)
            · intro w1 h1
              simp only [List.nil_append, List.cons_append, Given]
              rintro _ rfl
              rintro _ rfl
              go_wp2_with fail
              exact Post.isv (Ext.refl _) rfl rfl rfl
            -- 40: Op.load 22 t57   [guarded: some (27, true)]
            apply Stage.step (Is _) [false, false, false, false, false, false, false, false, false, false, false, false, false, false, false, false, false, false, false, false, false, false, false, false, false, false, false, true, false, false, false, false, false, false, false, false, false, false, false, true] (Is.keeps _) (by kernel_rfl)
            · intro w1 h1
              simp only [List.nil_append, List.cons_append, Given]
              rintro _ rfl
              rintro _ rfl
              go_wp2_with fail
              exact Post.isv (Ext.refl _) rfl rfl rfl
            -- 41: Op.convert 22 9 t58   [guarded: some (27, true)]
            apply Stage.step (Is _) [false, false, false, false, false, false, false, false, false, false, false, false, false, false, false, false, false, false, false, false, false, false, false, false, false, false, false, true, false, false, false, false, false, false, false, false, false, false, false, false, true] (Is.keeps _) (by kernel_rfl)
            · intro w1 h1
              simp only [List.nil_append, List.cons_append, Given]
              rintro _ rfl
              rintro _ rfl
              go_wp2_with fail
              exact Post.isv (Ext.refl _) rfl rfl rfl
            -- 42: Op.binOp BinOp.eql 9 t52 t59 9   [guarded: some (27, true)]
            apply Stage.step (Is _) [false, false, false, false, false, false, false, false, false, false, false, false, false, false, false, false, false, false, false, false, false, false, false, false, false, false, false, true, false, false, false, false, false, false, true, false, false, false, false, false, false, true] (Is.keeps _) (by kernel_rfl)
            · intro w1 h1
              simp only [List.nil_append, List.cons_append, Given]
              rintro _ rfl
              rintro _ rfl
              rintro _ rfl
              go_wp2_with fail
              exact Post.isv (Ext.refl _) rfl rfl rfl
            -- 43: Op.pick t45 t60 (const (Value.bool false))
            apply Stage.step (Is _) [false, false, false, false, false, false, false, false, false, false, false, false, false, false, false, false, false, false, false, false, false, false, false, false, false, false, false, true, false, false, false, false, false, false, false, false, false, false, false, false, false, false, true] (Is.keeps _) (by kernel_rfl)
            · intro w1 h1
              simp only [List.nil_append, List.cons_append, Given]
              rintro _ rfl
              rintro _ rfl
              go_wp2_with fail
              exact Post.isv (Ext.refl _) rfl rfl rfl
            apply Stage.nil
            intro w1 h1
            simp only [List.nil_append, List.cons_append]
            refine Fin.is_ ?_
            refine Fin.is_ ?_
            refine Fin.is_ ?_
            refine Fin.is_ ?_
            refine Fin.is_ ?_
            refine Fin.is_ ?_
            refine Fin.is_ ?_
            refine Fin.is_ ?_
            refine Fin.is_ ?_
            refine Fin.is_ ?_
            refine Fin.is_ ?_
            refine Fin.is_ ?_
            refine Fin.is_ ?_
            refine Fin.is_ ?_
            refine Fin.is_ ?_
            refine Fin.is_ ?_
            refine Fin.is_ ?_
            refine Fin.is_ ?_
            refine Fin.is_ ?_
            refine Fin.is_ ?_
            refine Fin.is_ ?_
            refine Fin.is_ ?_
            refine Fin.is_ ?_
            refine Fin.is_ ?_
            refine Fin.is_ ?_
            refine Fin.is_ ?_
            refine Fin.is_ ?_
            refine Fin.is_ ?_
            refine Fin.is_ ?_
            refine Fin.is_ ?_
            refine Fin.is_ ?_
            refine Fin.is_ ?_
            refine Fin.is_ ?_
            refine Fin.is_ ?_
            refine Fin.is_ ?_
            refine Fin.is_ ?_
            refine Fin.is_ ?_
            refine Fin.is_ ?_
            refine Fin.is_ ?_
            refine Fin.is_ ?_
            refine Fin.is_ ?_
            refine Fin.is_ ?_
            refine Fin.is_ ?_
            refine Fin.is_ ?_
            refine Fin.nil_ ?_
            go_simp
            obtain ⟨k0, rfl⟩ : ∃ q, q = k := ⟨_, rfl⟩
            clear k1 k2 hk hlt hlt2
            obtain ⟨wb, rfl⟩ : ∃ q, q = w1 := ⟨_, rfl⟩
            have gW := gz.trans h1
            have sb0 := h1.cell s0
            have sb1 := h1.cell s1
            have ub0 := h1.cell u0
            have ub1 := h1.cell u1
            clear s0 s1 u0 u1 h1 gz hxz
            go_wp2_with fail
            go_loopw [5, 7] (fun v i wr => ∃ (p mo : Nat) (Ao : Option Addr) (co : Nat), k0 ≤ p ∧ p ≤ n2 ∧ v = .slice Ao mo co ∧ i = .int .i64 ((p : Int) - 1) ∧ OwnL TEv 5 (fromR evR 0) wr wb.heap.size Ao mo co ((s.sn.drop p).reverse.map unE) ∧ Ext wb wr) (fun _ i _ => (intOf i + 1).toNat)
            case atStart => exact ⟨n2, 0, none, 0, by omega, by omega, rfl, rfl, by rw [List.drop_of_length_le (by rw [h1s.len]; exact Nat.le_refl _)]; exact OwnL.nil _ _ _ _, Ext.refl _⟩
            case round =>
              obtain ⟨p, mo, Ao, co, hkp, hpn, rfl, rfl, hown, hxr⟩ := hrel
              have s0 := hxr.cell sb0
              have s1 := hxr.cell sb1
              have gx := gW.trans hxr
              have hmo := hown.len
              simp only [List.length_map, List.length_reverse, List.length_drop, h1s.len] at hmo
              by_cases hlt : k0 < p
              · obtain ⟨q, rfl⟩ : ∃ q, p = q + 1 := ⟨p - 1, by omega⟩
                obtain ⟨ga, oa, x, cs, he, hx, ⟨Aa, na, ca, rfl, sa0, hs⟩, ha⟩ := h1s.at2 ol_rep (i := q) (by omega) (by omega)
                cases he
                have x0 := gx.cell (ha 0 _ rfl)
                rw [Nat.add_zero] at x0
                have e1 : ((q + 1 : Nat) : Int) - 1 = (q : Int) := by omega
                rw [e1]
                have hl1 : (s.sn.drop (q + 1)).reverse.map unE ++ [unE x] = (s.sn.drop q).reverse.map unE := by
                  rw [drop_stepO hx, List.reverse_cons, List.map_append]
                  rfl
                obtain ⟨xn, xd⟩ := x
                simp only at x0 hs
                replace hl1 := Lib.hid hl1
                have k1 : decide ((q : Int) ≥ (k0 : Int)) = true := by simp; omega
                have k2 : decide ((k0 : Int) ≤ (q : Int)) = true := by simp; omega
                clear ha hx sa0 e1
                go_wp2_with (
                  at_builtin
                  refine wpList_append_lst4 (B := wb.heap.size) (from_rep ev_rep 0) rfl _ _ _ _ rfl TEv i0 _ 64 under_evs hi0 hy0 hy1 hy2 rfl Ao mo co _ rfl (hown.ext (from_rep ev_rep 0) (Ext.alloc _ _)) _ 1 [⟨6, 0, 0, [], xn⟩] rfl (under_evl hs) (mo + 1) rfl _ hl1.out (by simp only [maxLen]; omega) (by omega) (by have := hxr.size; simp; omega) ?_
                  intro A9 c9 w9 ho9 hg9 hr9)
                have hrow := hown.row_lt
                have gx9 : Ext wb w9 := (hxr.trans (Ext.alloc _ _)).but (But.grown (H := wb.heap.size) (S := fun _ => False) (But.refl _ _ _) hg9 (fun g hg => .inr (hrow g hg).1)) (Nat.le_refl _) (fun _ h => h.elim)
                go_wp2_with fail
                go_roundw
                case rel => exact ⟨q, mo + 1, A9, c9, by omega, by omega, rfl, rfl, ho9, gx9⟩
                case measure => first | (simp [intOf]; done) | (simp [intOf]; omega)
              · obtain rfl : k0 = p := by omega
                have k1 : decide ((k0 : Int) - 1 ≥ (k0 : Int)) = false := by simp; omega
                have k2 : decide ((k0 : Int) ≤ (k0 : Int) - 1) = false := by simp; omega
                go_wp2_with fail
                obtain ⟨wl, rfl⟩ : ∃ q, q = wr := ⟨_, rfl⟩
                have hR0 : Hid ((s.sn.drop k0).reverse.map unE ++ snapsW s.d (t.sn.drop k0) t.d = R) := hR
                go_loopw [5, 8, 9] (fun v nw i wr => ∃ (p mo : Nat) (Ao : Option Addr) (co : Nat) (out : List Ev) (An : Option Addr) (nn cn : Nat) (now : List UInt8), p ≤ m2 ∧ v = .slice Ao mo co ∧ nw = .slice An nn cn ∧ i = .int .i64 p ∧ OwnL TEv 5 (fromR evR 0) wr wb.heap.size Ao mo co out ∧ Sl w An nn cn now ∧ now.length ≤ 512 ∧ mo ≤ 8 + 600 * p ∧ Hid (out ++ snapsW now (t.sn.drop p) t.d = R) ∧ Ext wb wr) (fun _ _ i _ => m2 - (intOf i).toNat)
                case atStart => exact ⟨k0, mo, Ao, co, _, A, n, c, s.d, by omega, rfl, rfl, rfl, hown, h1d, a3, by omega, hR0, hxr⟩
                case round =>
                  obtain ⟨p, mo, Ao, co, out, An, nn, cn, now, hj, rfl, rfl, rfl, hown, hnow, hn512, hmo8, hRj, hx2⟩ := hrel
                  clear hR0 hR
                  have u0 := hx2.cell ub0
                  have u1 := hx2.cell ub1
                  have g2 := gW.trans hx2
                  have hmo := hown.len
                  have bn := hnow.n63
                  have hnl := hnow.len
                  have hrow0 := hown.row_lt
                  by_cases hlt : p < m2
                  · obtain ⟨ga, oa, x, cs, he, hx, ⟨Aa, na, ca, rfl, sa0, hs⟩, ha⟩ := h2s.at2 ol_rep (i := p) (by omega) hlt
                    cases he
                    have a0 := g2.cell (ha 0 _ rfl)
                    rw [Nat.add_zero] at a0
                    have a1 := g2.cell (ha 1 _ rfl)
                    have hga := World.block_lt_of_cell? _ _ (ha 0 _ rfl)
                    have hca1 := ha 1 _ rfl
                    have hxm := (b1 x (List.mem_of_getElem? hx)).2
                    have hRx := hRj.out
                    rw [drop_stepO hx, snapsW] at hRx
                    obtain ⟨xn, xd⟩ := x
                    simp only at a0 a1 hs sa0 hRx hxm hga hca1
                    have ba := sa0.n63
                    have hal := sa0.len
                    obtain ⟨E, hE⟩ : ∃ q, bytesL now xd = q := ⟨_, rfl⟩
                    have hEl := bytesL_len now xd
                    rw [hE] at hRx hEl
                    have HE := Lib.hid hE
                    obtain ⟨n7, hn7⟩ : ∃ q, E.length = q := ⟨_, rfl⟩
                    rw [hn7] at hEl
                    have hRn : Hid ((out ++ E) ++ [⟨5, 0, 0, [], xn⟩] ++ snapsW xd (t.sn.drop (p + 1)) t.d = R) := Lib.hid (by rw [← hRx]; simp)
                    have hwz := gW.size
                    have hw1z : w.heap.size + 1 < wb.heap.size := World.block_lt_of_cell? _ _ ub1
                    have hxs := hx2.size
                    have HN7 := Lib.hid hn7
                    clear ha hx hRx hE hRj hn7
                    go_wp2_with fail
                    refine wp_region_typed4' (R := Bet (fun k => rowOf Ao co = some k)) 18 Ext.steady (Bet.steady _) (fun _ _ => Bet.of_ext) rfl 124 rfl [0, 0, 0, 4, 0, 28, 60, 124, 254, 511, 0, 1024, 0, 7168, 15360, 31744, 64512, 130048, 262143, 524287] 512 (by kernel_rfl) ?_
                    simp only [List.take_succ_cons, List.take_zero, List.drop_succ_cons, List.drop_zero]
                    -- 0: Op.move t5
                    apply Stage2.step (Is _) true [] true false (Is.keeps _) (fun _ => Is.keeps _) (by kernel_rfl)
                    · intro w1 h1
                      have h1 : Ext _ w1 := h1
                      simp only [List.nil_append, List.cons_append, List.map_cons, List.map_nil, Given]
                      go_wp2_with fail
                      exact Post.isv (Ext.refl _) rfl rfl rfl
                    -- 1: Op.move t8
                    apply Stage2.step (Is _) true [] true false (Is.keeps _) (fun _ => Is.keeps _) (by kernel_rfl)
                    · intro w1 h1
                      have h1 : Ext _ w1 := h1
                      simp only [List.nil_append, List.cons_append, List.map_cons, List.map_nil, Given]
                      go_wp2_with fail
                      exact Post.isv (Ext.refl _) rfl rfl rfl
                    -- 2: Op.fieldAddr 35 t3 1
                    apply Stage2.step (Is _) true [] true false (Is.keeps _) (fun _ => Is.keeps _) (by kernel_rfl)
                    · intro w1 h1
                      have h1 : Ext _ w1 := h1
                      simp only [List.nil_append, List.cons_append, List.map_cons, List.map_nil, Given]
                      go_wp2_with fail
                      exact Post.isv (Ext.refl _) rfl rfl rfl
                    -- 3: Op.load 33 t95
                    apply Stage2.step (Is _) true [false, false, true] true false (Is.keeps _) (fun _ => Is.keeps _) (by kernel_rfl)
                    · intro w1 h1
                      have h1 : Ext _ w1 := h1
                      simp only [List.nil_append, List.cons_append, List.map_cons, List.map_nil, Sp.pr, Given]
                      rintro _ rfl
                      have hq := h1.cell u1
                      go_wp2_with fail
                      exact Post.isv (Ext.refl _) rfl rfl rfl
                    -- 4: Op.move t9
                    apply Stage2.step (Is _) true [] true false (Is.keeps _) (fun _ => Is.keeps _) (by kernel_rfl)
                    · intro w1 h1
                      have h1 : Ext _ w1 := h1
                      simp only [List.nil_append, List.cons_append, List.map_cons, List.map_nil, Given]
                      go_wp2_with fail
                      exact Post.isv (Ext.refl _) rfl rfl rfl
                    -- 5: Op.indexAddr 33 t96 t97
                    apply Stage2.step (Is _) true [false, false, false, true, true] true false (Is.keeps _) (fun _ => Is.keeps _) (by kernel_rfl)
                    · intro w1 h1
                      have h1 : Ext _ w1 := h1
                      simp only [List.nil_append, List.cons_append, List.map_cons, List.map_nil, Sp.pr, Given]
                      rintro _ rfl
                      rintro _ rfl
                      go_wp2_with fail
                      exact Post.isv (Ext.refl _) rfl rfl rfl
                    -- 6: Op.fieldAddr 42 t98 1
                    apply Stage2.step (Is _) true [false, false, false, false, false, true] true false (Is.keeps _) (fun _ => Is.keeps _) (by kernel_rfl)
                    · intro w1 h1
                      have h1 : Ext _ w1 := h1
                      simp only [List.nil_append, List.cons_append, List.map_cons, List.map_nil, Sp.pr, Given]
                      rintro _ rfl
                      go_wp2_with fail
                      exact Post.isv (Ext.refl _) rfl rfl rfl
                    -- 7: Op.load 22 t99
                    apply Stage2.step (Is _) true [false, false, false, false, false, false, true] true false (Is.keeps _) (fun _ => Is.keeps _) (by kernel_rfl)
                    · intro w1 h1
                      have h1 : Ext _ w1 := h1
                      simp only [List.nil_append, List.cons_append, List.map_cons, List.map_nil, Sp.pr, Given]
                      rintro _ rfl
                      have hq := h1.cell a1
                      go_wp2_with fail
                      exact Post.isv (Ext.refl _) rfl rfl rfl
                    -- 8: Op.call { value (Operand.func 30), args := #[t94, t100], argTypes := #[22, 22] }
                    apply Stage2.step (EvFr wr.heap.size n7 E) false [false, true, false, false, false, false, false, true] true false (EvFr.keeps _ _ _) (no_keeps) (by kernel_rfl)
                    · intro w1 h1
                      have h1 : Ext _ w1 := h1
                      simp only [List.nil_append, List.cons_append, List.map_cons, List.map_nil, Sp.pr, Given]
                      rintro _ rfl
                      rintro _ rfl
                      go_wp2_with fail
                      refine (ref_BytesF (hnow.ext (g2.trans h1)) (sa0.ext (g2.trans h1)) (by omega) (by omega) HE).mono ?_
                      rintro e w4 ⟨A7, n8, c7, rfl, h7, gq4⟩
                      have h7l := h7.len
                      rw [HN7.out] at h7l
                      subst h7l
                      go_wp2_with fail
                      exact ⟨rfl, rfl, gq4, _, _, rfl, h7.lst.weak fun x cs h => ⟨h.1, fun k hk => Nat.le_trans h1.size (h.2 k hk)⟩⟩
                    -- 9: Op.call { builtin append, args := #[t93, t101], argTypes := #[23, 23] }
                    apply Stage2.step (EvOw wb.heap.size wr.heap.size (mo + n7) (rowOf Ao co) (out ++ E)) false [true, false, false, false, false, false, false, false, true] true true (EvOw.keeps _ _ _ _ _) (no_keeps) (by kernel_rfl)
                    · intro w1 h1
                      have h1 : Ext _ w1 := h1
                      simp only [List.nil_append, List.cons_append, List.map_cons, List.map_nil, Sp.pr, Given]
                      rintro _ rfl
                      rintro _ ⟨A7, c7, rfl, h7⟩
                      have hown4 := hown.ext (from_rep ev_rep 0) h1
                      have hfd := Feed.from (P := Try.prog) (tx := 23) (B0 := 0) ev_rep hown4 (fun g hg => (hrow0 g hg).2) (Nat.zero_le _) h7 under_evs
                      have hs1 := h1.size
                      have b7 := h7.n63
                      go_wp2_with (
                        at_builtin
                        refine wpList_append_lst4 (B := wb.heap.size) (from_rep ev_rep 0) rfl _ _ _ _ rfl TEv i0 _ 64 under_evs hi0 hy0 hy1 hy2 rfl Ao mo co out rfl hown4 _ n7 E rfl hfd (mo + n7) rfl _ rfl (by simp only [maxLen]; omega) (by omega) (by omega) ?_
                        intro A8 c8 w8 ho8 hg8 hr8)
                      exact ⟨rfl, rfl, Bet.grown hg8 (fun k hk => hk), _, _, rfl, ho8, fun g hg => by
                        rcases hr8 with h | h
                        · exact .inl (by rw [← h]; exact hg)
                        · rw [h] at hg; injection hg with hg; exact .inr (by omega)⟩
                    -- 10: Op.fieldAddr 35 t3 1
                    apply Stage2.step (Is _) true [] false false (Is.keeps _) (fun _ => Is.keeps _) (by kernel_rfl)
                    · intro w1 h1
                      have h1 : (Bet (fun k => rowOf Ao co = some k)) _ w1 := h1
                      simp only [List.nil_append, List.cons_append, List.map_cons, List.map_nil, Given]
                      go_wp2_with fail
                      exact Post.isv (Ext.refl _) rfl rfl rfl
                    -- 11: Op.load 33 t103
                    apply Stage2.step (Is _) true [false, false, false, false, false, false, false, false, false, false, true] false false (Is.keeps _) (fun _ => Is.keeps _) (by kernel_rfl)
                    · intro w1 h1
                      have h1 : (Bet (fun k => rowOf Ao co = some k)) _ w1 := h1
                      simp only [List.nil_append, List.cons_append, List.map_cons, List.map_nil, Sp.pr, Given]
                      rintro _ rfl
                      have hq := h1.cell u1 (fun e => by have := (hrow0 _ e).1; simp only at this; omega)
                      go_wp2_with fail
                      exact Post.isv (Ext.refl _) rfl rfl rfl
                    -- 12: Op.move t9
                    apply Stage2.step (Is _) true [] false false (Is.keeps _) (fun _ => Is.keeps _) (by kernel_rfl)
                    · intro w1 h1
                      have h1 : (Bet (fun k => rowOf Ao co = some k)) _ w1 := h1
                      simp only [List.nil_append, List.cons_append, List.map_cons, List.map_nil, Given]
                      go_wp2_with fail
                      exact Post.isv (Ext.refl _) rfl rfl rfl
                    -- 13: Op.indexAddr 33 t104 t105
                    apply Stage2.step (Is _) true [false, false, false, false, false, false, false, false, false, false, false, true, true] false false (Is.keeps _) (fun _ => Is.keeps _) (by kernel_rfl)
                    · intro w1 h1
                      have h1 : (Bet (fun k => rowOf Ao co = some k)) _ w1 := h1
                      simp only [List.nil_append, List.cons_append, List.map_cons, List.map_nil, Sp.pr, Given]
                      rintro _ rfl
                      rintro _ rfl
                      go_wp2_with fail
                      exact Post.isv (Ext.refl _) rfl rfl rfl
                    -- 14: Op.fieldAddr 42 t106 0
                    apply Stage2.step (Is _) true [false, false, false, false, false, false, false, false, false, false, false, false, false, true] false false (Is.keeps _) (fun _ => Is.keeps _) (by kernel_rfl)
                    · intro w1 h1
                      have h1 : (Bet (fun k => rowOf Ao co = some k)) _ w1 := h1
                      simp only [List.nil_append, List.cons_append, List.map_cons, List.map_nil, Sp.pr, Given]
                      rintro _ rfl
                      go_wp2_with fail
                      exact Post.isv (Ext.refl _) rfl rfl rfl
                    -- 15: Op.load 9 t107
                    apply Stage2.step (Is _) true [false, false, false, false, false, false, false, false, false, false, false, false, false, false, true] false false (Is.keeps _) (fun _ => Is.keeps _) (by kernel_rfl)
                    · intro w1 h1
                      have h1 : (Bet (fun k => rowOf Ao co = some k)) _ w1 := h1
                      simp only [List.nil_append, List.cons_append, List.map_cons, List.map_nil, Sp.pr, Given]
                      rintro _ rfl
                      have hq := h1.cell a0 (fun e => by have := (hrow0 _ e).1; simp only at this; omega)
                      go_wp2_with fail
                      exact Post.isv (Ext.refl _) rfl rfl rfl
                    -- 16: Op.build 28 #[(0, const (5:i64)), (4, t108)]
                    apply Stage2.step (Is _) true [false, false, false, false, false, false, false, false, false, false, false, false, false, false, false, true] false false (Is.keeps _) (fun _ => Is.keeps _) (by kernel_rfl)
                    · intro w1 h1
                      have h1 : (Bet (fun k => rowOf Ao co = some k)) _ w1 := h1
                      simp only [List.nil_append, List.cons_append, List.map_cons, List.map_nil, Sp.pr, Given]
                      rintro _ rfl
                      go_wp2_with fail
                      exact Post.isv (Ext.refl _) rfl rfl rfl
                    -- 17: Op.buildSlice 23 1 #[(0, t109)]
                    apply Stage2.step (EvLt wr.heap.size 5 xn) true [false, false, false, false, false, false, false, false, false, false, false, false, false, false, false, false, true] false false (EvLt.keeps _ _ _) (fun _ => EvLt.keeps2 _ _ (fun g hg => (hrow0 g hg).2)) (by kernel_rfl)
                    · intro w1 h1
                      have h1 : (Bet (fun k => rowOf Ao co = some k)) _ w1 := h1
                      simp only [List.nil_append, List.cons_append, List.map_cons, List.map_nil, Sp.pr, Given]
                      rintro _ rfl
                      have hs1 := (h1 0).size
                      go_wp2_with fail
                      exact ⟨rfl, rfl, Ext.alloc _ _, _, rfl, hs1, heap_alloc_new _ _⟩
                    apply Stage2.nil [true, true, true, true, true, true, true, true, false, true, true, true, true, true, true, true, true, true] (by kernel_rfl)
                    intro w1 h1
                    have h1 : (Bet (fun k => rowOf Ao co = some k)) _ w1 := h1
                    simp only [List.nil_append, List.cons_append, List.map_cons, List.map_nil, Sp.pr]
                    refine Fin2.is_ ?_
                    refine Fin2.is_ ?_
                    refine Fin2.is_ ?_
                    refine Fin2.is_ ?_
                    refine Fin2.is_ ?_
                    refine Fin2.is_ ?_
                    refine Fin2.is_ ?_
                    refine Fin2.is_ ?_
                    refine Fin2.dead_ ?_
                    intro dead8
                    refine Fin2.step_ ?_
                    rintro _ ⟨A8, c8, rfl, h8, hr8⟩
                    refine Fin2.is_ ?_
                    refine Fin2.is_ ?_
                    refine Fin2.is_ ?_
                    refine Fin2.is_ ?_
                    refine Fin2.is_ ?_
                    refine Fin2.is_ ?_
                    refine Fin2.is_ ?_
                    refine Fin2.step_ ?_
                    rintro _ ⟨gl, rfl, hgl, hlit⟩
                    refine Fin2.nil_ ?_
                    go_simp
                    have gx8 : Ext wb w1 := hx2.but (h1 wr.heap.size) hx2.size (fun g hg => (hrow0 g hg).1)
                    have hrow8 := h8.row_lt
                    have hs8 := gx8.size
                    go_wp2_with (
                      at_builtin
                      refine wpList_append_lst4 (B := wb.heap.size) (from_rep ev_rep 0) rfl _ _ _ _ rfl TEv i0 _ 64 under_evs hi0 hy0 hy1 hy2 rfl A8 (mo + n7) c8 (out ++ E) rfl h8 _ 1 [⟨5, 0, 0, [], xn⟩] rfl (lit_feed hlit hs) (mo + n7 + 1) rfl _ rfl (by simp only [maxLen]; omega) (by omega) (by omega) ?_
                      intro A9 c9 w9 ho9 hg9 hr9
                      have gx9 : Ext wb w9 := gx8.but (But.grown (H := wb.heap.size) (S := fun _ => False) (But.refl _ _ _) hg9 (fun g hg => .inr (hrow8 g hg).1)) (Nat.le_refl _) (fun _ h => h.elim)
                      have Z1 := gx9.cell ub1
                      have Z2 := (gW.trans gx9).cell hca1)
                    clear hg9 hr9 h8 gx8 hown hlit
                    go_wp2_with fail
                    go_roundw
                    case rel => exact ⟨p + 1, mo + n7 + 1, A9, c9, _, Aa, na, ca, xd, by omega, rfl, rfl, by go_num, ho9, sa0, hxm, by omega, hRn, gx9⟩
                    case measure => simp [intOf]; omega
                  · obtain ⟨E, hE⟩ : ∃ q, bytesL now t.d = q := ⟨_, rfl⟩
                    have hEl := bytesL_len now t.d
                    have hRx := hRj.out
                    rw [List.drop_of_length_le (by rw [h2s.len]; omega), snapsW, hE] at hRx
                    rw [hE] at hEl
                    have HE := Lib.hid hE
                    replace hRx := Lib.hid hRx
                    have hml := h2d.len
                    clear hE hRj
                    go_wp2_with fail
                    refine (ref_BytesF (hnow.ext g2) (h2d.ext g2) (by omega) (by omega) HE).mono ?_
                    rintro e w4 ⟨A7, n7, c7, rfl, h7, gq4⟩
                    have h7l := h7.len
                    have b7 := h7.lst.n63
                    have hs4 := gq4.size
                    have hs5 := hx2.size
                    have hown4 := hown.ext (from_rep ev_rep 0) gq4
                    have hxb4 := hx2.trans gq4
                    have hfd := Feed.from (P := Try.prog) (tx := 23) (B0 := 0) ev_rep hown4 (fun g hg => (hrow0 g hg).2) (Nat.zero_le _) (h7.lst.weak fun x cs h => h) under_evs
                    clear hown
                    go_wp2_with (
                      at_builtin
                      refine wpList_append_lst4 (B := wb.heap.size) (from_rep ev_rep 0) rfl _ _ _ _ rfl TEv i0 _ 64 under_evs hi0 hy0 hy1 hy2 rfl Ao mo co out rfl hown4 _ n7 E rfl hfd (mo + n7) rfl _ rfl (by simp only [maxLen]; omega) (by omega) (by omega) ?_
                      intro A8 c8 w8 ho8 hg8 hr8)
                    have gx8 : Ext wb w8 := hxb4.but (But.grown (H := wb.heap.size) (S := fun _ => False) (But.refl _ _ _) hg8 (fun g hg => .inr (hrow0 g hg).1)) (Nat.le_refl _) (fun _ h => h.elim)
                    rw [hRx.out] at ho8
                    go_wp2_with fail
                    go_ret
                    exact ⟨A8, mo + n7, c8, rfl, ho8.lst.weak fun x cs h => h.1, gW.trans gx8⟩
        · have k1 : decide ((k : Int) < (n2 : Int)) = false := by simp; omega
          obtain rfl : k = k0 := by
            rw [← hrk.out, List.drop_of_length_le (l := s.sn) (by rw [h1s.len]; omega)]
            simp [alikeL]
          clear hrk
          go_wp2_with fail
          refine wp_region_typed Ext.steady rfl 124 rfl (by kernel_rfl) ?_
          -- 0: Op.move t6
          apply Stage.step (Is _) [] (Is.keeps _) (by kernel_rfl)
          · intro w1 h1
            simp only [Given]
            go_wp2_with fail
            exact Post.isv (Ext.refl _) rfl rfl rfl
          -- 1: Op.fieldAddr 35 t2 1
          apply Stage.step (Is _) [] (Is.keeps _) (by kernel_rfl)
          · intro w1 h1
            simp only [Given]
            go_wp2_with fail
            exact Post.isv (Ext.refl _) rfl rfl rfl
          -- 2: Op.load 33 t19
          apply Stage.step (Is _) [false, true] (Is.keeps _) (by kernel_rfl)
          · intro w1 h1
            simp only [List.nil_append, List.cons_append, Given]
            rintro _ rfl
            have hq := h1.cell s1
            go_wp2_with fail
            exact Post.isv (Ext.refl _) rfl rfl rfl
          -- 3: Op.call { builtin len, args := #[t20], argTypes := #[33] }
          apply Stage.step (Is _) [false, false, true] (Is.keeps _) (by kernel_rfl)
          · intro w1 h1
            simp only [List.nil_append, List.cons_append, Given]
            rintro _ rfl
            go_wp2_with fail
            exact Post.isv (Ext.refl _) rfl rfl rfl
          -- 4: Op.binOp BinOp.lss 3 t18 t21 3
          apply Stage.step (Is _) [true, false, false, true] (Is.keeps _) (by kernel_rfl)
          · intro w1 h1
            simp only [List.nil_append, List.cons_append, Given]
            rintro _ rfl
            rintro _ rfl
            go_wp2_with fail
            exact Post.isv (Ext.refl _) rfl rfl rfl
          -- 5: Op.move t22
          apply Stage.step (Is _) [false, false, false, false, true] (Is.keeps _) (by kernel_rfl)
          · intro w1 h1
            simp only [List.nil_append, List.cons_append, Given]
            rintro _ rfl
            go_wp2_with fail
            exact Post.isv (Ext.refl _) rfl rfl rfl
          -- 6: Op.move t6   [guarded: some (5, true)]
          apply Stage.step (Is _) [false, false, false, false, false, true] (Is.keeps _) (by kernel_rfl)
          · intro w1 h1
            simp only [List.nil_append, List.cons_append, Given]
            rintro _ rfl
            go_wp2_with fail
            exact Post.isv (Ext.refl _) rfl rfl rfl
          -- 7: Op.fieldAddr 35 t3 1   [guarded: some (5, true)]
          apply Stage.step (Is _) [false, false, false, false, false, true] (Is.keeps _) (by kernel_rfl)
          · intro w1 h1
            simp only [List.nil_append, List.cons_append, Given]
            rintro _ rfl
            go_wp2_with fail
            exact Post.isv (Ext.refl _) rfl rfl rfl
          -- 8: Op.load 33 t25   [guarded: some (5, true)]
          apply Stage.step (Is _) [false, false, false, false, false, true, false, true] (Is.keeps _) (by kernel_rfl)
          · intro w1 h1
            simp only [List.nil_append, List.cons_append, Given]
            rintro _ rfl
            rintro _ rfl
            have hq := h1.cell u1
            go_wp2_with fail
            exact Post.isv (Ext.refl _) rfl rfl rfl
          -- 9: Op.call { builtin len, args := #[t26], argTypes := #[33] }   [guarded: some (5, true)]
          apply Stage.step (Is _) [false, false, false, false, false, true, false, false, true] (Is.keeps _) (by kernel_rfl)
          · intro w1 h1
            simp only [List.nil_append, List.cons_append, Given]
            rintro _ rfl
            rintro _ rfl
            go_wp2_with fail
            exact Post.isv (Ext.refl _) rfl rfl rfl
          -- 10: Op.binOp BinOp.lss 3 t24 t27 3   [guarded: some (5, true)]
          apply Stage.step (Is _) [false, false, false, false, false, true, true, false, false, true] (Is.keeps _) (by kernel_rfl)
          · intro w1 h1
            simp only [List.nil_append, List.cons_append, Given]
            rintro _ rfl
            rintro _ rfl
            rintro _ rfl
            go_wp2_with fail
            exact Post.isv (Ext.refl _) rfl rfl rfl
          -- 11: Op.pick t23 t28 (const (Value.bool false))
          apply Stage.step (Is _) [false, false, false, false, false, true, false, false, false, false, true] (Is.keeps _) (by kernel_rfl)
          · intro w1 h1
            simp only [List.nil_append, List.cons_append, Given]
            rintro _ rfl
            rintro _ rfl
            go_wp2_with fail
            exact Post.isv (Ext.refl _) rfl rfl rfl
          -- 12: Op.move t29
          apply Stage.step (Is _) [false, false, false, false, false, false, false, false, false, false, false, true] (Is.keeps _) (by kernel_rfl)
          · intro w1 h1
            simp only [List.nil_append, List.cons_append, Given]
            rintro _ rfl
            go_wp2_with fail
            exact Post.isv (Ext.refl _) rfl rfl rfl
          -- 13: Op.fieldAddr 35 t2 1   [guarded: some (12, true)]
          apply Stage.step (Is _) [false, false, false, false, false, false, false, false, false, false, false, false, true] (Is.keeps _) (by kernel_rfl)
          · intro w1 h1
            simp only [List.nil_append, List.cons_append, Given]
            rintro _ rfl
            go_wp2_with fail
            exact Post.isv (Ext.refl _) rfl rfl rfl
          -- 14: Op.load 33 t31   [guarded: some (12, true)]
          apply Stage.step (Is _) [false, false, false, false, false, false, false, false, false, false, false, false, true, true] (Is.keeps _) (by kernel_rfl)
          · intro w1 h1
            simp only [List.nil_append, List.cons_append, Given]
            rintro _ rfl
            rintro _ rfl
            go_wp2_with fail
            exact Post.isv (Ext.refl _) rfl rfl rfl
          -- 15: Op.move t6   [guarded: some (12, true)]
          apply Stage.step (Is _) [false, false, false, false, false, false, false, false, false, false, false, false, true] (Is.keeps _) (by kernel_rfl)
          · intro w1 h1
            simp only [List.nil_append, List.cons_append, Given]
            rintro _ rfl
            go_wp2_with fail
            exact Post.isv (Ext.refl _) rfl rfl rfl
          -- 16: Op.indexAddr 33 t32 t33   [guarded: some (12, true)]
          apply Stage.step (Is _) [false, false, false, false, false, false, false, false, false, false, false, false, true, false, true, true] (Is.keeps _) (by kernel_rfl)
          · intro w1 h1
            simp only [List.nil_append, List.cons_append, Given]
            rintro _ rfl
            rintro _ rfl
            rintro _ rfl
            go_wp2_with fail
            exact Post.isv (Ext.refl _) rfl rfl rfl
          -- 17: Op.fieldAddr 42 t34 0   [guarded: some (12, true)]
          apply Stage.step (Is _) [false, false, false, false, false, false, false, false, false, false, false, false, true, false, false, false, true] (Is.keeps _) (by kernel_rfl)
          · intro w1 h1
            simp only [List.nil_append, List.cons_append, Given]
            rintro _ rfl
            rintro _ rfl
            go_wp2_with fail
            exact Post.isv (Ext.refl _) rfl rfl rfl
          -- 18: Op.load 9 t35   [guarded: some (12, true)]
          apply Stage.step (Is _) [false, false, false, false, false, false, false, false, false, false, false, false, true, false, false, false, false, true] (Is.keeps _) (by kernel_rfl)
          · intro w1 h1
            simp only [List.nil_append, List.cons_append, Given]
            rintro _ rfl
            rintro _ rfl
            go_wp2_with fail
            exact Post.isv (Ext.refl _) rfl rfl rfl
          -- 19: Op.fieldAddr 35 t3 1   [guarded: some (12, true)]
          apply Stage.step (Is _) [false, false, false, false, false, false, false, false, false, false, false, false, true] (Is.keeps _) (by kernel_rfl)
          · intro w1 h1
            simp only [List.nil_append, List.cons_append, Given]
            rintro _ rfl
            go_wp2_with fail
            exact Post.isv (Ext.refl _) rfl rfl rfl
          -- 20: Op.load 33 t37   [guarded: some (12, true)]
          apply Stage.step (Is _) [false, false, false, false, false, false, false, false, false, false, false, false, true, false, false, false, false, false, false, true] (Is.keeps _) (by kernel_rfl)
          · intro w1 h1
            simp only [List.nil_append, List.cons_append, Given]
            rintro _ rfl
            rintro _ rfl
            go_wp2_with fail
            exact Post.isv (Ext.refl _) rfl rfl rfl
          -- 21: Op.move t6   [guarded: some (12, true)]
          apply Stage.step (Is _) [false, false, false, false, false, false, false, false, false, false, false, false, true] (Is.keeps _) (by kernel_rfl)
          · intro w1 h1
            simp only [List.nil_append, List.cons_append, Given]
            rintro _ rfl
            go_wp2_with fail
            exact Post.isv (Ext.refl _) rfl rfl rfl
          -- 22: Op.indexAddr 33 t38 t39   [guarded: some (12, true)]
          apply Stage.step (Is _) [false, false, false, false, false, false, false, false, false, false, false, false, true, false, false, false, false, false, false, false, true, true] (Is.keeps _) (by kernel_rfl)
          · intro w1 h1
            simp only [List.nil_append, List.cons_append, Given]
            rintro _ rfl
            rintro _ rfl
            rintro _ rfl
            go_wp2_with fail
            exact Post.isv (Ext.refl _) rfl rfl rfl
          -- 23: Op.fieldAddr 42 t40 0   [guarded: some (12, true)]
          apply Stage.step (Is _) [false, false, false, false, false, false, false, false, false, false, false, false, true, false, false, false, false, false, false, false, false, false, true] (Is.keeps _) (by kernel_rfl)
          · intro w1 h1
            simp only [List.nil_append, List.cons_append, Given]
            rintro _ rfl
            rintro _ rfl
            go_wp2_with fail
            exact Post.isv (Ext.refl _) rfl rfl rfl
          -- 24: Op.load 9 t41   [guarded: some (12, true)]
          apply Stage.step (Is _) [false, false, false, false, false, false, false, false, false, false, false, false, true, false, false, false, false, false, false, false, false, false, false, true] (Is.keeps _) (by kernel_rfl)
          · intro w1 h1
            simp only [List.nil_append, List.cons_append, Given]
            rintro _ rfl
            rintro _ rfl
            go_wp2_with fail
            exact Post.isv (Ext.refl _) rfl rfl rfl
          -- 25: Op.binOp BinOp.eql 9 t36 t42 9   [guarded: some (12, true)]
          apply Stage.step (Is _) [false, false, false, false, false, false, false, false, false, false, false, false, true, false, false, false, false, false, true, false, false, false, false, false, true] (Is.keeps _) (by kernel_rfl)
          · intro w1 h1
            simp only [List.nil_append, List.cons_append, Given]
            rintro _ rfl
            rintro _ rfl
            rintro _ rfl
            go_wp2_with fail
            exact Post.isv (Ext.refl _) rfl rfl rfl
          -- 26: Op.pick t30 t43 (const (Value.bool false))
          apply Stage.step (Is _) [false, false, false, false, false, false, false, false, false, false, false, false, true, false, false, false, false, false, false, false, false, false, false, false, false, true] (Is.keeps _) (by kernel_rfl)
          · intro w1 h1
            simp only [List.nil_append, List.cons_append, Given]
            rintro _ rfl
            rintro _ rfl
            go_wp2_with fail
            exact Post.isv (Ext.refl _) rfl rfl rfl
          -- 27: Op.move t44
          apply Stage.step (Is _) [false, false, false, false, false, false, false, false, false, false, false, false, false, false, false, false, false, false, false, false, false, false, false, false, false, false, true] (Is.keeps _) (by kernel_rfl)
          · intro w1 h1
            simp only [List.nil_append, List.cons_append, Given]
            rintro _ rfl
            go_wp2_with fail
            exact Post.isv (Ext.refl _) rfl rfl rfl
          -- 28: Op.fieldAddr 35 t2 1   [guarded: some (27, true)]
          apply Stage.step (Is _) [false, false, false, false, false, false, false, false, false, false, false, false, false, false, false, false, false, false, false, false, false, false, false, false, false, false, false, true] (Is.keeps _) (by kernel_rfl)
          · intro w1 h1
            simp only [List.nil_append, List.cons_append, Given]
            rintro _ rfl
            go_wp2_with fail
            exact Post.isv (Ext.refl _) rfl rfl rfl
          -- 29: Op.load 33 t46   [guarded: some (27, true)]
          apply Stage.step (Is _) [false, false, false, false, false, false, false, false, false, false, false, false, false, false, false, false, false, false, false, false, false, false, false, false, false, false, false, true, true] (Is.keeps _) (by kernel_rfl)
          · intro w1 h1
            simp only [List.nil_append, List.cons_append, Given]
            rintro _ rfl
            rintro _ rfl
            go_wp2_with fail
            exact Post.isv (Ext.refl _) rfl rfl rfl
          -- 30: Op.move t6   [guarded: some (27, true)]
          apply Stage.step (Is _) [false, false, false, false, false, false, false, false, false, false, false, false, false, false, false, false, false, false, false, false, false, false, false, false, false, false, false, true] (Is.keeps _) (by kernel_rfl)
          · intro w1 h1
            simp only [List.nil_append, List.cons_append, Given]
            rintro _ rfl
            go_wp2_with fail
            exact Post.isv (Ext.refl _) rfl rfl rfl
          -- 31: Op.indexAddr 33 t47 t48   [guarded: some (27, true)]
          apply Stage.step (Is _) [false, false, false, false, false, false, false, false, false, false, false, false, false, false, false, false, false, false, false, false, false, false, false, false, false, false, false, true, false, true, true] (Is.keeps _) (by kernel_rfl)
          · intro w1 h1
            simp only [List.nil_append, List.cons_append, Given]
            rintro _ rfl
            rintro _ rfl
            rintro _ rfl
            go_wp2_with fail
            exact Post.isv (Ext.refl _) rfl rfl rfl
          -- 32: Op.fieldAddr 42 t49 1   [guarded: some (27, true)]
          apply Stage.step (Is _) [false, false, false, false, false, false, false, false, false, false, false, false, false, false, false, false, false, false, false, false, false, false, false, false, false, false, false, true, false, false, false, true] (Is.keeps _) (by kernel_rfl)
          · intro w1 h1
            simp only [List.nil_append, List.cons_append, Given]
            rintro _ rfl
            rintro _ rfl
            go_wp2_with fail
            exact Post.isv (Ext.refl _) rfl rfl rfl
          -- 33: Op.load 22 t50   [guarded: some (27, true)]
          apply Stage.step (Is _) [false, false, false, false, false, false, false, false, false, false, false, false, false, false, false, false, false, false, false, false, false, false, false, false, false, false, false, true, false, false, false, false, true] (Is.keeps _) (by kernel_rfl)
          · intro w1 h1
            simp only [List.nil_append, List.cons_append, Given]
            rintro _ rfl
            rintro _ rfl
            go_wp2_with fail
            exact Post.isv (Ext.refl _) rfl rfl rfl
          -- 34: Op.convert 22 9 t51   [guarded: some (27, true)]
          apply Stage.step (Is _) [false, false, false, false, false, false, false, false, false, false, false, false, false, false, false, false, false, false, false, false, false, false, false, false, false, false, false, true, false, false, false, false, false, true] (Is.keeps _) (by kernel_rfl)
          · intro w1 h1
            simp only [List.nil_append, List.cons_append, Given]
            rintro _ rfl
            rintro _ rfl
            go_wp2_with fail
            exact Post.isv (Ext.refl _) rfl rfl rfl
          -- 35: Op.fieldAddr 35 t3 1   [guarded: some (27, true)]
          apply Stage.step (Is _) [false, false, false, false, false, false, false, false, false, false, false, false, false, false, false, false, false, false, false, false, false, false, false, false, false, false, false, true] (Is.keeps _) (by kernel_rfl)
          · intro w1 h1
            simp only [List.nil_append, List.cons_append, Given]
            rintro _ rfl
            go_wp2_with fail
            exact Post.isv (Ext.refl _) rfl rfl rfl
          -- 36: Op.load 33 t53   [guarded: some (27, true)]
          apply Stage.step (Is _) [false, false, false, false, false, false, false, false, false, false, false, false, false, false, false, false, false, false, false, false, false, false, false, false, false, false, false, true, false, false, false, false, false, false, false, true] (Is.keeps _) (by kernel_rfl)
          · intro w1 h1
            simp only [List.nil_append, List.cons_append, Given]
            rintro _ rfl
            rintro _ rfl
            go_wp2_with fail
            exact Post.isv (Ext.refl _) rfl rfl rfl
          -- 37: Op.move t6   [guarded: some (27, true)]
          apply Stage.step (Is _) [false, false, false, false, false, false, false, false, false, false, false, false, false, false, false, false, false, false, false, false, false, false, false, false, false, false, false, true] (Is.keeps _) (by kernel_rfl)
          · intro w1 h1
            simp only [List.nil_append, List.cons_append, Given]
            rintro _ rfl
            go_wp2_with fail
            exact Post.isv (Ext.refl _) rfl rfl rfl
          -- 38: Op.indexAddr 33 t54 t55   [guarded: some (27, true)]
          apply Stage.step (Is _) [false, false, false, false, false, false, false, false, false, false, false, false, false, false, false, false, false, false, false, false, false, false, false, false, false, false, false, true, false, false, false, false, false, false, false, false, true, true] (Is.keeps _) (by kernel_rfl)
          · intro w1 h1
            simp only [List.nil_append, List.cons_append, Given]
            rintro _ rfl
            rintro _ rfl
            rintro _ rfl
            go_wp2_with fail
            exact Post.isv (Ext.refl _) rfl rfl rfl
          -- 39: Op.fieldAddr 42 t56 1   [guarded: some (27, true)]
          apply Stage.step (Is _) [false, false, false, false, false, false, false, false, false, false, false, false, false, false, false, false, false, false, false, false, false, false, false, false, false, false, false, true, false, false, false, false, false, false, false, false, false, false, true] (Is.keeps _) (by kernel_rfl)
          · intro w1 h1
            simp only [List.nil_append, List.cons_append, Given]
            rintro _ rfl
            rintro _ rfl
            go_wp2_with fail
            exact Post.isv (Ext.refl _) rfl rfl rfl
          -- 40: Op.load 22 t57   [guarded: some (27, true)]
          apply Stage.step (Is _) [false, false, false, false, false, false, false, false, false, false, false, false, false, false, false, false, false, false, false, false, false, false, false, false, false, false, false, true, false, false, false, false, false, false, false, false, false, false, false, true] (Is.keeps _) (by kernel_rfl)
          · intro w1 h1
            simp only [List.nil_append, List.cons_append, Given]
            rintro _ rfl
            rintro _ rfl
            go_wp2_with fail
            exact Post.isv (Ext.refl _) rfl rfl rfl
          -- 41: Op.convert 22 9 t58   [guarded: some (27, true)]
          apply Stage.step (Is _) [false, false, false, false, false, false, false, false, false, false, false, false, false, false, false, false, false, false, false, false, false, false, false, false, false, false, false, true, false, false, false, false, false, false, false, false, false, false, false, false, true] (Is.keeps _) (by kernel_rfl)
          · intro w1 h1
            simp only [List.nil_append, List.cons_append, Given]
            rintro _ rfl
            rintro _ rfl
            go_wp2_with fail
            exact Post.isv (Ext.refl _) rfl rfl rfl
          -- 42: Op.binOp BinOp.eql 9 t52 t59 9   [guarded: some (27, true)]
          apply Stage.step (Is _) [false, false, false, false, false, false, false, false, false, false, false, false, false, false, false, false, false, false, false, false, false, false, false, false, false, false, false, true, false, false, false, false, false, false, true, false, false, false, false, false, false, true] (Is.keeps _) (by kernel_rfl)
          · intro w1 h1
            simp only [List.nil_append, List.cons_append, Given]
            rintro _ rfl
            rintro _ rfl
            rintro _ rfl
            go_wp2_with fail
            exact Post.isv (Ext.refl _) rfl rfl rfl
          -- 43: Op.pick t45 t60 (const (Value.bool false))
          apply Stage.step (Is _) [false, false, false, false, false, false, false, false, false, false, false, false, false, false, false, false, false, false, false, false, false, false, false, false, false, false, false, true, false, false, false, false, false, false, false, false, false, false, false, false, false, false, true] (Is.keeps _) (by kernel_rfl)
          · intro w1 h1
            simp only [List.nil_append, List.cons_append, Given]
            rintro _ rfl
            rintro _ rfl
            go_wp2_with fail
            exact Post.isv (Ext.refl _) rfl rfl rfl
          apply Stage.nil
          intro w1 h1
          simp only [List.nil_append, List.cons_append]
          refine Fin.is_ ?_
          refine Fin.is_ ?_
          refine Fin.is_ ?_
          refine Fin.is_ ?_
          refine Fin.is_ ?_
          refine Fin.is_ ?_
          refine Fin.is_ ?_
          refine Fin.is_ ?_
          refine Fin.is_ ?_
          refine Fin.is_ ?_
          refine Fin.is_ ?_
          refine Fin.is_ ?_
          refine Fin.is_ ?_
          refine Fin.is_ ?_
          refine Fin.is_ ?_
          refine Fin.is_ ?_
          refine Fin.is_ ?_
          refine Fin.is_ ?_
          refine Fin.is_ ?_
          refine Fin.is_ ?_
          refine Fin.is_ ?_
          refine Fin.is_ ?_
          refine Fin.is_ ?_
          refine Fin.is_ ?_
          refine Fin.is_ ?_
          refine Fin.is_ ?_
          refine Fin.is_ ?_
          refine Fin.is_ ?_
          refine Fin.is_ ?_
          refine Fin.is_ ?_
          refine Fin.is_ ?_
          refine Fin.is_ ?_
          refine Fin.is_ ?_
          refine Fin.is_ ?_
          refine Fin.is_ ?_
          refine Fin.is_ ?_
          refine Fin.is_ ?_
          refine Fin.is_ ?_
          refine Fin.is_ ?_
          refine Fin.is_ ?_
          refine Fin.is_ ?_
          refine Fin.is_ ?_
          refine Fin.is_ ?_
          refine Fin.is_ ?_
          refine Fin.nil_ ?_
          go_simp
          obtain ⟨k0, rfl⟩ : ∃ q, q = k := ⟨_, rfl⟩
          clear k1 hk hlt
          obtain ⟨wb, rfl⟩ : ∃ q, q = w1 := ⟨_, rfl⟩
          have gW := gz.trans h1
          have sb0 := h1.cell s0
          have sb1 := h1.cell s1
          have ub0 := h1.cell u0
          have ub1 := h1.cell u1
          clear s0 s1 u0 u1 h1 gz hxz
          go_wp2_with fail
          go_loopw [5, 7] (fun v i wr => ∃ (p mo : Nat) (Ao : Option Addr) (co : Nat), k0 ≤ p ∧ p ≤ n2 ∧ v = .slice Ao mo co ∧ i = .int .i64 ((p : Int) - 1) ∧ OwnL TEv 5 (fromR evR 0) wr wb.heap.size Ao mo co ((s.sn.drop p).reverse.map unE) ∧ Ext wb wr) (fun _ i _ => (intOf i + 1).toNat)
          case atStart => exact ⟨n2, 0, none, 0, by omega, by omega, rfl, rfl, by rw [List.drop_of_length_le (by rw [h1s.len]; exact Nat.le_refl _)]; exact OwnL.nil _ _ _ _, Ext.refl _⟩
          case round =>
            obtain ⟨p, mo, Ao, co, hkp, hpn, rfl, rfl, hown, hxr⟩ := hrel
            have s0 := hxr.cell sb0
            have s1 := hxr.cell sb1
            have gx := gW.trans hxr
            have hmo := hown.len
            simp only [List.length_map, List.length_reverse, List.length_drop, h1s.len] at hmo
            by_cases hlt : k0 < p
            · obtain ⟨q, rfl⟩ : ∃ q, p = q + 1 := ⟨p - 1, by omega⟩
              obtain ⟨ga, oa, x, cs, he, hx, ⟨Aa, na, ca, rfl, sa0, hs⟩, ha⟩ := h1s.at2 ol_rep (i := q) (by omega) (by omega)
              cases he
              have x0 := gx.cell (ha 0 _ rfl)
              rw [Nat.add_zero] at x0
              have e1 : ((q + 1 : Nat) : Int) - 1 = (q : Int) := by omega
              rw [e1]
              have hl1 : (s.sn.drop (q + 1)).reverse.map unE ++ [unE x] = (s.sn.drop q).reverse.map unE := by
                rw [drop_stepO hx, List.reverse_cons, List.map_append]
                rfl
              obtain ⟨xn, xd⟩ := x
              simp only at x0 hs
              replace hl1 := Lib.hid hl1
              have k1 : decide ((q : Int) ≥ (k0 : Int)) = true := by simp; omega
              have k2 : decide ((k0 : Int) ≤ (q : Int)) = true := by simp; omega
              clear ha hx sa0 e1
              go_wp2_with (
                at_builtin
                refine wpList_append_lst4 (B := wb.heap.size) (from_rep ev_rep 0) rfl _ _ _ _ rfl TEv i0 _ 64 under_evs hi0 hy0 hy1 hy2 rfl Ao mo co _ rfl (hown.ext (from_rep ev_rep 0) (Ext.alloc _ _)) _ 1 [⟨6, 0, 0, [], xn⟩] rfl (under_evl hs) (mo + 1) rfl _ hl1.out (by simp only [maxLen]; omega) (by omega) (by have := hxr.size; simp; omega) ?_
                intro A9 c9 w9 ho9 hg9 hr9)
              have hrow := hown.row_lt
              have gx9 : Ext wb w9 := (hxr.trans (Ext.alloc _ _)).but (But.grown (H := wb.heap.size) (S := fun _ => False) (But.refl _ _ _) hg9 (fun g hg => .inr (hrow g hg).1)) (Nat.le_refl _) (fun _ h => h.elim)
              go_wp2_with fail
              go_roundw
              case rel => exact ⟨q, mo + 1, A9, c9, by omega, by omega, rfl, rfl, ho9, gx9⟩
              case measure => first | (simp [intOf]; done) | (simp [intOf]; omega)
            · obtain rfl : k0 = p := by omega
              have k1 : decide ((k0 : Int) - 1 ≥ (k0 : Int)) = false := by simp; omega
              have k2 : decide ((k0 : Int) ≤ (k0 : Int) - 1) = false := by simp; omega
              go_wp2_with fail
              obtain ⟨wl, rfl⟩ : ∃ q, q = wr := ⟨_, rfl⟩
              have hR0 : Hid ((s.sn.drop k0).reverse.map unE ++ snapsW s.d (t.sn.drop k0) t.d = R) := hR
              go_loopw [5, 8, 9] (fun v nw i wr => ∃ (p mo : Nat) (Ao : Option Addr) (co : Nat) (out : List Ev) (An : Option Addr) (nn cn : Nat) (now : List UInt8), p ≤ m2 ∧ v = .slice Ao mo co ∧ nw = .slice An nn cn ∧ i = .int .i64 p ∧ OwnL TEv 5 (fromR evR 0) wr wb.heap.size Ao mo co out ∧ Sl w An nn cn now ∧ now.length ≤ 512 ∧ mo ≤ 8 + 600 * p ∧ Hid (out ++ snapsW now (t.sn.drop p) t.d = R) ∧ Ext wb wr) (fun _ _ i _ => m2 - (intOf i).toNat)
              case atStart => exact ⟨k0, mo, Ao, co, _, A, n, c, s.d, by omega, rfl, rfl, rfl, hown, h1d, a3, by omega, hR0, hxr⟩
              case round =>
                obtain ⟨p, mo, Ao, co, out, An, nn, cn, now, hj, rfl, rfl, rfl, hown, hnow, hn512, hmo8, hRj, hx2⟩ := hrel
                clear hR0 hR
                have u0 := hx2.cell ub0
                have u1 := hx2.cell ub1
                have g2 := gW.trans hx2
                have hmo := hown.len
                have bn := hnow.n63
                have hnl := hnow.len
                have hrow0 := hown.row_lt
                by_cases hlt : p < m2
                · obtain ⟨ga, oa, x, cs, he, hx, ⟨Aa, na, ca, rfl, sa0, hs⟩, ha⟩ := h2s.at2 ol_rep (i := p) (by omega) hlt
                  cases he
                  have a0 := g2.cell (ha 0 _ rfl)
                  rw [Nat.add_zero] at a0
                  have a1 := g2.cell (ha 1 _ rfl)
                  have hga := World.block_lt_of_cell? _ _ (ha 0 _ rfl)
                  have hca1 := ha 1 _ rfl
                  have hxm := (b1 x (List.mem_of_getElem? hx)).2
                  have hRx := hRj.out
                  rw [drop_stepO hx, snapsW] at hRx
                  obtain ⟨xn, xd⟩ := x
                  simp only at a0 a1 hs sa0 hRx hxm hga hca1
                  have ba := sa0.n63
                  have hal := sa0.len
                  obtain ⟨E, hE⟩ : ∃ q, bytesL now xd = q := ⟨_, rfl⟩
                  have hEl := bytesL_len now xd
                  rw [hE] at hRx hEl
                  have HE := Lib.hid hE
                  obtain ⟨n7, hn7⟩ : ∃ q, E.length = q := ⟨_, rfl⟩
                  rw [hn7] at hEl
                  have hRn : Hid ((out ++ E) ++ [⟨5, 0, 0, [], xn⟩] ++ snapsW xd (t.sn.drop (p + 1)) t.d = R) := Lib.hid (by rw [← hRx]; simp)
                  have hwz := gW.size
                  have hw1z : w.heap.size + 1 < wb.heap.size := World.block_lt_of_cell? _ _ ub1
                  have hxs := hx2.size
                  have HN7 := Lib.hid hn7
                  clear ha hx hRx hE hRj hn7
                  go_wp2_with fail
                  refine wp_region_typed4' (R := Bet (fun k => rowOf Ao co = some k)) 18 Ext.steady (Bet.steady _) (fun _ _ => Bet.of_ext) rfl 124 rfl [0, 0, 0, 4, 0, 28, 60, 124, 254, 511, 0, 1024, 0, 7168, 15360, 31744, 64512, 130048, 262143, 524287] 512 (by kernel_rfl) ?_
                  simp only [List.take_succ_cons, List.take_zero, List.drop_succ_cons, List.drop_zero]
                  -- 0: Op.move t5
                  apply Stage2.step (Is _) true [] true false (Is.keeps _) (fun _ => Is.keeps _) (by kernel_rfl)
                  · intro w1 h1
                    have h1 : Ext _ w1 := h1
                    simp only [List.nil_append, List.cons_append, List.map_cons, List.map_nil, Given]
                    go_wp2_with fail
                    exact Post.isv (Ext.refl _) rfl rfl rfl
                  -- 1: Op.move t8
                  apply Stage2.step (Is _) true [] true false (Is.keeps _) (fun _ => Is.keeps _) (by kernel_rfl)
                  · intro w1 h1
                    have h1 : Ext _ w1 := h1
                    simp only [List.nil_append, List.cons_append, List.map_cons, List.map_nil, Given]
                    go_wp2_with fail
                    exact Post.isv (Ext.refl _) rfl rfl rfl
                  -- 2: Op.fieldAddr 35 t3 1
                  apply Stage2.step (Is _) true [] true false (Is.keeps _) (fun _ => Is.keeps _) (by kernel_rfl)
                  · intro w1 h1
                    have h1 : Ext _ w1 := h1
                    simp only [List.nil_append, List.cons_append, List.map_cons, List.map_nil, Given]
                    go_wp2_with fail
                    exact Post.isv (Ext.refl _) rfl rfl rfl
                  -- 3: Op.load 33 t95
                  apply Stage2.step (Is _) true [false, false, true] true false (Is.keeps _) (fun _ => Is.keeps _) (by kernel_rfl)
                  · intro w1 h1
                    have h1 : Ext _ w1 := h1
                    simp only [List.nil_append, List.cons_append, List.map_cons, List.map_nil, Sp.pr, Given]
                    rintro _ rfl
                    have hq := h1.cell u1
                    go_wp2_with fail
                    exact Post.isv (Ext.refl _) rfl rfl rfl
                  -- 4: Op.move t9
                  apply Stage2.step (Is _) true [] true false (Is.keeps _) (fun _ => Is.keeps _) (by kernel_rfl)
                  · intro w1 h1
                    have h1 : Ext _ w1 := h1
                    simp only [List.nil_append, List.cons_append, List.map_cons, List.map_nil, Given]
                    go_wp2_with fail
                    exact Post.isv (Ext.refl _) rfl rfl rfl
                  -- 5: Op.indexAddr 33 t96 t97
                  apply Stage2.step (Is _) true [false, false, false, true, true] true false (Is.keeps _) (fun _ => Is.keeps _) (by kernel_rfl)
                  · intro w1 h1
                    have h1 : Ext _ w1 := h1
                    simp only [List.nil_append, List.cons_append, List.map_cons, List.map_nil, Sp.pr, Given]
                    rintro _ rfl
                    rintro _ rfl
                    go_wp2_with fail
                    exact Post.isv (Ext.refl _) rfl rfl rfl
                  -- 6: Op.fieldAddr 42 t98 1
                  apply Stage2.step (Is _) true [false, false, false, false, false, true] true false (Is.keeps _) (fun _ => Is.keeps _) (by kernel_rfl)
                  · intro w1 h1
                    have h1 : Ext _ w1 := h1
                    simp only [List.nil_append, List.cons_append, List.map_cons, List.map_nil, Sp.pr, Given]
                    rintro _ rfl
                    go_wp2_with fail
                    exact Post.isv (Ext.refl _) rfl rfl rfl
                  -- 7: Op.load 22 t99
                  apply Stage2.step (Is _) true [false, false, false, false, false, false, true] true false (Is.keeps _) (fun _ => Is.keeps _) (by kernel_rfl)
                  · intro w1 h1
                    have h1 : Ext _ w1 := h1
                    simp only [List.nil_append, List.cons_append, List.map_cons, List.map_nil, Sp.pr, Given]
                    rintro _ rfl
                    have hq := h1.cell a1
                    go_wp2_with fail
                    exact Post.isv (Ext.refl _) rfl rfl rfl
                  -- 8: Op.call { value (Operand.func 30), args := #[t94, t100], argTypes := #[22, 22] }
                  apply Stage2.step (EvFr wr.heap.size n7 E) false [false, true, false, false, false, false, false, true] true false (EvFr.keeps _ _ _) (no_keeps) (by kernel_rfl)
                  · intro w1 h1
                    have h1 : Ext _ w1 := h1
                    simp only [List.nil_append, List.cons_append, List.map_cons, List.map_nil, Sp.pr, Given]
                    rintro _ rfl
                    rintro _ rfl
                    go_wp2_with fail
                    refine (ref_BytesF (hnow.ext (g2.trans h1)) (sa0.ext (g2.trans h1)) (by omega) (by omega) HE).mono ?_
                    rintro e w4 ⟨A7, n8, c7, rfl, h7, gq4⟩
                    have h7l := h7.len
                    rw [HN7.out] at h7l
                    subst h7l
                    go_wp2_with fail
                    exact ⟨rfl, rfl, gq4, _, _, rfl, h7.lst.weak fun x cs h => ⟨h.1, fun k hk => Nat.le_trans h1.size (h.2 k hk)⟩⟩
                  -- 9: Op.call { builtin append, args := #[t93, t101], argTypes := #[23, 23] }
                  apply Stage2.step (EvOw wb.heap.size wr.heap.size (mo + n7) (rowOf Ao co) (out ++ E)) false [true, false, false, false, false, false, false, false, true] true true (EvOw.keeps _ _ _ _ _) (no_keeps) (by kernel_rfl)
                  · intro w1 h1
                    have h1 : Ext _ w1 := h1
                    simp only [List.nil_append, List.cons_append, List.map_cons, List.map_nil, Sp.pr, Given]
                    rintro _ rfl
                    rintro _ ⟨A7, c7, rfl, h7⟩
                    have hown4 := hown.ext (from_rep ev_rep 0) h1
                    have hfd := Feed.from (P := Try.prog) (tx := 23) (B0 := 0) ev_rep hown4 (fun g hg => (hrow0 g hg).2) (Nat.zero_le _) h7 under_evs
                    have hs1 := h1.size
                    have b7 := h7.n63
                    go_wp2_with (
                      at_builtin
                      refine wpList_append_lst4 (B := wb.heap.size) (from_rep ev_rep 0) rfl _ _ _ _ rfl TEv i0 _ 64 under_evs hi0 hy0 hy1 hy2 rfl Ao mo co out rfl hown4 _ n7 E rfl hfd (mo + n7) rfl _ rfl (by simp only [maxLen]; omega) (by omega) (by omega) ?_
                      intro A8 c8 w8 ho8 hg8 hr8)
                    exact ⟨rfl, rfl, Bet.grown hg8 (fun k hk => hk), _, _, rfl, ho8, fun g hg => by
                      rcases hr8 with h | h
                      · exact .inl (by rw [← h]; exact hg)
                      · rw [h] at hg; injection hg with hg; exact .inr (by omega)⟩
                  -- 10: Op.fieldAddr 35 t3 1
                  apply Stage2.step (Is _) true [] false false (Is.keeps _) (fun _ => Is.keeps _) (by kernel_rfl)
                  · intro w1 h1
                    have h1 : (Bet (fun k => rowOf Ao co = some k)) _ w1 := h1
                    simp only [List.nil_append, List.cons_append, List.map_cons, List.map_nil, Given]
                    go_wp2_with fail
                    exact Post.isv (Ext.refl _) rfl rfl rfl
                  -- 11: Op.load 33 t103
                  apply Stage2.step (Is _) true [false, false, false, false, false, false, false, false, false, false, true] false false (Is.keeps _) (fun _ => Is.keeps _) (by kernel_rfl)
                  · intro w1 h1
                    have h1 : (Bet (fun k => rowOf Ao co = some k)) _ w1 := h1
                    simp only [List.nil_append, List.cons_append, List.map_cons, List.map_nil, Sp.pr, Given]
                    rintro _ rfl
                    have hq := h1.cell u1 (fun e => by have := (hrow0 _ e).1; simp only at this; omega)
                    go_wp2_with fail
                    exact Post.isv (Ext.refl _) rfl rfl rfl
                  -- 12: Op.move t9
                  apply Stage2.step (Is _) true [] false false (Is.keeps _) (fun _ => Is.keeps _) (by kernel_rfl)
                  · intro w1 h1
                    have h1 : (Bet (fun k => rowOf Ao co = some k)) _ w1 := h1
                    simp only [List.nil_append, List.cons_append, List.map_cons, List.map_nil, Given]
                    go_wp2_with fail
                    exact Post.isv (Ext.refl _) rfl rfl rfl
                  -- 13: Op.indexAddr 33 t104 t105
                  apply Stage2.step (Is _) true [false, false, false, false, false, false, false, false, false, false, false, true, true] false false (Is.keeps _) (fun _ => Is.keeps _) (by kernel_rfl)
                  · intro w1 h1
                    have h1 : (Bet (fun k => rowOf Ao co = some k)) _ w1 := h1
                    simp only [List.nil_append, List.cons_append, List.map_cons, List.map_nil, Sp.pr, Given]
                    rintro _ rfl
                    rintro _ rfl
                    go_wp2_with fail
                    exact Post.isv (Ext.refl _) rfl rfl rfl
                  -- 14: Op.fieldAddr 42 t106 0
                  apply Stage2.step (Is _) true [false, false, false, false, false, false, false, false, false, false, false, false, false, true] false false (Is.keeps _) (fun _ => Is.keeps _) (by kernel_rfl)
                  · intro w1 h1
                    have h1 : (Bet (fun k => rowOf Ao co = some k)) _ w1 := h1
                    simp only [List.nil_append, List.cons_append, List.map_cons, List.map_nil, Sp.pr, Given]
                    rintro _ rfl
                    go_wp2_with fail
                    exact Post.isv (Ext.refl _) rfl rfl rfl
                  -- 15: Op.load 9 t107
                  apply Stage2.step (Is _) true [false, false, false, false, false, false, false, false, false, false, false, false, false, false, true] false false (Is.keeps _) (fun _ => Is.keeps _) (by kernel_rfl)
                  · intro w1 h1
                    have h1 : (Bet (fun k => rowOf Ao co = some k)) _ w1 := h1
                    simp only [List.nil_append, List.cons_append, List.map_cons, List.map_nil, Sp.pr, Given]
                    rintro _ rfl
                    have hq := h1.cell a0 (fun e => by have := (hrow0 _ e).1; simp only at this; omega)
                    go_wp2_with fail
                    exact Post.isv (Ext.refl _) rfl rfl rfl
                  -- 16: Op.build 28 #[(0, const (5:i64)), (4, t108)]
                  apply Stage2.step (Is _) true [false, false, false, false, false, false, false, false, false, false, false, false, false, false, false, true] false false (Is.keeps _) (fun _ => Is.keeps _) (by kernel_rfl)
                  · intro w1 h1
                    have h1 : (Bet (fun k => rowOf Ao co = some k)) _ w1 := h1
                    simp only [List.nil_append, List.cons_append, List.map_cons, List.map_nil, Sp.pr, Given]
                    rintro _ rfl
                    go_wp2_with fail
                    exact Post.isv (Ext.refl _) rfl rfl rfl
                  -- 17: Op.buildSlice 23 1 #[(0, t109)]
                  apply Stage2.step (EvLt wr.heap.size 5 xn) true [false, false, false, false, false, false, false, false, false, false, false, false, false, false, false, false, true] false false (EvLt.keeps _ _ _) (fun _ => EvLt.keeps2 _ _ (fun g hg => (hrow0 g hg).2)) (by kernel_rfl)
                  · intro w1 h1
                    have h1 : (Bet (fun k => rowOf Ao co = some k)) _ w1 := h1
                    simp only [List.nil_append, List.cons_append, List.map_cons, List.map_nil, Sp.pr, Given]
                    rintro _ rfl
                    have hs1 := (h1 0).size
                    go_wp2_with fail
                    exact ⟨rfl, rfl, Ext.alloc _ _, _, rfl, hs1, heap_alloc_new _ _⟩
                  apply Stage2.nil [true, true, true, true, true, true, true, true, false, true, true, true, true, true, true, true, true, true] (by kernel_rfl)
                  intro w1 h1
                  have h1 : (Bet (fun k => rowOf Ao co = some k)) _ w1 := h1
                  simp only [List.nil_append, List.cons_append, List.map_cons, List.map_nil, Sp.pr]
                  refine Fin2.is_ ?_
                  refine Fin2.is_ ?_
                  refine Fin2.is_ ?_
                  refine Fin2.is_ ?_
                  refine Fin2.is_ ?_
                  refine Fin2.is_ ?_
                  refine Fin2.is_ ?_
                  refine Fin2.is_ ?_
                  refine Fin2.dead_ ?_
                  intro dead8
                  refine Fin2.step_ ?_
                  rintro _ ⟨A8, c8, rfl, h8, hr8⟩
                  refine Fin2.is_ ?_
                  refine Fin2.is_ ?_
                  refine Fin2.is_ ?_
                  refine Fin2.is_ ?_
                  refine Fin2.is_ ?_
                  refine Fin2.is_ ?_
                  refine Fin2.is_ ?_
                  refine Fin2.step_ ?_
                  rintro _ ⟨gl, rfl, hgl, hlit⟩
                  refine Fin2.nil_ ?_
                  go_simp
                  have gx8 : Ext wb w1 := hx2.but (h1 wr.heap.size) hx2.size (fun g hg => (hrow0 g hg).1)
                  have hrow8 := h8.row_lt
                  have hs8 := gx8.size
                  go_wp2_with (
                    at_builtin
                    refine wpList_append_lst4 (B := wb.heap.size) (from_rep ev_rep 0) rfl _ _ _ _ rfl TEv i0 _ 64 under_evs hi0 hy0 hy1 hy2 rfl A8 (mo + n7) c8 (out ++ E) rfl h8 _ 1 [⟨5, 0, 0, [], xn⟩] rfl (lit_feed hlit hs) (mo + n7 + 1) rfl _ rfl (by simp only [maxLen]; omega) (by omega) (by omega) ?_
                    intro A9 c9 w9 ho9 hg9 hr9
                    have gx9 : Ext wb w9 := gx8.but (But.grown (H := wb.heap.size) (S := fun _ => False) (But.refl _ _ _) hg9 (fun g hg => .inr (hrow8 g hg).1)) (Nat.le_refl _) (fun _ h => h.elim)
                    have Z1 := gx9.cell ub1
                    have Z2 := (gW.trans gx9).cell hca1)
                  clear hg9 hr9 h8 gx8 hown hlit
                  go_wp2_with fail
                  go_roundw
                  case rel => exact ⟨p + 1, mo + n7 + 1, A9, c9, _, Aa, na, ca, xd, by omega, rfl, rfl, by go_num, ho9, sa0, hxm, by omega, hRn, gx9⟩
                  case measure => simp [intOf]; omega
                · obtain ⟨E, hE⟩ : ∃ q, bytesL now t.d = q := ⟨_, rfl⟩
                  have hEl := bytesL_len now t.d
                  have hRx := hRj.out
                  rw [List.drop_of_length_le (by rw [h2s.len]; omega), snapsW, hE] at hRx
                  rw [hE] at hEl
                  have HE := Lib.hid hE
                  replace hRx := Lib.hid hRx
                  have hml := h2d.len
                  clear hE hRj
                  go_wp2_with fail
                  refine (ref_BytesF (hnow.ext g2) (h2d.ext g2) (by omega) (by omega) HE).mono ?_
                  rintro e w4 ⟨A7, n7, c7, rfl, h7, gq4⟩
                  have h7l := h7.len
                  have b7 := h7.lst.n63
                  have hs4 := gq4.size
                  have hs5 := hx2.size
                  have hown4 := hown.ext (from_rep ev_rep 0) gq4
                  have hxb4 := hx2.trans gq4
                  have hfd := Feed.from (P := Try.prog) (tx := 23) (B0 := 0) ev_rep hown4 (fun g hg => (hrow0 g hg).2) (Nat.zero_le _) (h7.lst.weak fun x cs h => h) under_evs
                  clear hown
                  go_wp2_with (
                    at_builtin
                    refine wpList_append_lst4 (B := wb.heap.size) (from_rep ev_rep 0) rfl _ _ _ _ rfl TEv i0 _ 64 under_evs hi0 hy0 hy1 hy2 rfl Ao mo co out rfl hown4 _ n7 E rfl hfd (mo + n7) rfl _ rfl (by simp only [maxLen]; omega) (by omega) (by omega) ?_
                    intro A8 c8 w8 ho8 hg8 hr8)
                  have gx8 : Ext wb w8 := hxb4.but (But.grown (H := wb.heap.size) (S := fun _ => False) (But.refl _ _ _) hg8 (fun g hg => .inr (hrow0 g hg).1)) (Nat.le_refl _) (fun _ h => h.elim)
                  rw [hRx.out] at ho8
                  go_wp2_with fail
                  go_ret
                  exact ⟨A8, mo + n7, c8, rfl, ho8.lst.weak fun x cs h => h.1, gW.trans gx8⟩
end Go.Proofs.Ytcklkjklepmabaa
