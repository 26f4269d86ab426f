/-
  Tags: chains as lists; contract of the program's alike.
-/
import Derived.Test.YtkoknleopmlhcaaLst
import Derived.Test.YtkoknleopmlhcaaLib
import Derived.Test.YtkoknleopmlhcaaReg
namespace Go.Proofs.Ytkoknleopmlhcaa
open Go.RowKit
set_option linter.unusedVariables false
set_option linter.unusedSimpArgs false
set_option linter.unnecessarySimpa false
set_option maxRecDepth 100000

structure Tg where
  id : Int
  ow : Int
  he : Int
  pt : Int
  deriving DecidableEq
def tgR (x : Tg) (cs : List Value) (w : World) : Prop := cs = [.int .i64 x.id, .int .i64 x.ow, .int .i64 x.he, .int .i64 x.pt]
theorem tg_rep : Rep 4 tgR where
  len := by rintro x cs w rfl; rfl
  one := by
    rintro x cs w rfl u hu
    simp at hu
    rcases hu with rfl | rfl | rfl | rfl <;> rfl
  keep := by
    rintro x cs w w' rfl hk
    rfl
  lt := by
    rintro x cs w rfl k ⟨ad, m, c', hm, _⟩
    simp at hm
def alikeN : List Tg → List Tg → Nat
  | x :: xs, y :: ys => if x = y then alikeN xs ys + 1 else 0
  | [], _ => 0
  | _ :: _, [] => 0
theorem alike_yes {xs ys : List Tg} {k : Nat} {x : Tg} (hx : xs[k]? = some x) (hy : ys[k]? = some x) : k + alikeN (xs.drop k) (ys.drop k) = (k + 1) + alikeN (xs.drop (k + 1)) (ys.drop (k + 1)) := by
  obtain ⟨h1, e1⟩ := List.getElem?_eq_some_iff.1 hx
  obtain ⟨h2, e2⟩ := List.getElem?_eq_some_iff.1 hy
  rw [List.drop_eq_getElem_cons h1, List.drop_eq_getElem_cons h2, e1, e2, alikeN, if_pos rfl]
  omega
theorem alike_no {xs ys : List Tg} {k : Nat} {x y : Tg} (hx : xs[k]? = some x) (hy : ys[k]? = some y) (hne : x ≠ y) : k + alikeN (xs.drop k) (ys.drop k) = k := by
  obtain ⟨h1, e1⟩ := List.getElem?_eq_some_iff.1 hx
  obtain ⟨h2, e2⟩ := List.getElem?_eq_some_iff.1 hy
  rw [List.drop_eq_getElem_cons h1, List.drop_eq_getElem_cons h2, e1, e2, alikeN, if_neg hne]
  omega
theorem alike_end {xs ys : List Tg} {k : Nat} (h : xs.length ≤ k ∨ ys.length ≤ k) : k + alikeN (xs.drop k) (ys.drop k) = k := by
  rcases h with h | h
  · rw [List.drop_of_length_le h]
    rfl
  · rw [List.drop_of_length_le h]
    cases xs.drop k <;> rfl

set_option maxHeartbeats 1000000 in
theorem chain_alike {A : Option Addr} {n c : Nat} {xs : List Tg} {A' : Option Addr} {n' c' : Nat} {ys : List Tg} {w : World} (l1 : Lst 4 tgR w A n c xs) (l2 : Lst 4 tgR w A' n' c' ys) {r : Nat} (hr : Hid (alikeN xs ys = r)) :
    Calls Try.prog 56 #[.slice A n c, .slice A' n' c'] w fun e w' => e = .returned (.int .i64 r) ∧ Ext w w' := by
  have h63 := l1.n63
  have h63' := l2.n63
  go_enter Try.func56, Try.ntmps56
  go_wp2_with fail
  go_loopw [5] (fun i wr => ∃ k : Nat, k ≤ n ∧ k ≤ n' ∧ i = .int .i64 k ∧ Hid (k + alikeN (xs.drop k) (ys.drop k) = r) ∧ Ext w wr) (fun i _ => n - (intOf i).toNat)
  case atStart => exact ⟨0, by omega, by omega, rfl, by unfold Hid; rw [← hr.out]; simp, Ext.refl _⟩
  case round =>
    obtain ⟨k, hk, hk', rfl, hrk, hxr⟩ := hrel
    by_cases hlt : k < n
    · by_cases hlt' : k < n'
      · obtain ⟨ga, oa, x, cs, rfl, hx, rfl, ha⟩ := l1.at2 tg_rep (by omega) hlt
        obtain ⟨gb, ob, y, ds, rfl, hy, rfl, hb⟩ := l2.at2 tg_rep (by omega) hlt'
        have a0 : wr.cell? ⟨ga, oa + k * 4, none⟩ = _ := hxr.cell (ha 0 _ rfl)
        have a1 := hxr.cell (ha 1 _ rfl)
        have a2 := hxr.cell (ha 2 _ rfl)
        have a3 := hxr.cell (ha 3 _ rfl)
        have b0 : wr.cell? ⟨gb, ob + k * 4, none⟩ = _ := hxr.cell (hb 0 _ rfl)
        have b1 := hxr.cell (hb 1 _ rfl)
        have b2 := hxr.cell (hb 2 _ rfl)
        have b3 := hxr.cell (hb 3 _ rfl)
        clear ha hb
        by_cases e : x = y
        · subst e
          have hn := Lib.hid (alike_yes hx hy)
          rw [hrk.out] at hn
          obtain ⟨x1, x2, x3, x4⟩ := x
          clear hx hy hrk
          go_wp2_with fail
          refine wp_region_typed Ext.steady rfl 30 rfl (by kernel_rfl) ?_
          -- 0: Op.move t5
          apply Stage.step (Is _) [] (Is.keeps _) (by kernel_rfl)
          · intro w1 h1
            simp only [Given]
            go_wp2_with fail
            exact Post.isv (Ext.refl _) rfl rfl rfl
          -- 1: Op.move t0
          apply Stage.step (Is _) [] (Is.keeps _) (by kernel_rfl)
          · intro w1 h1
            simp only [Given]
            go_wp2_with fail
            exact Post.isv (Ext.refl _) rfl rfl rfl
          -- 2: Op.call { builtin len, args := #[t7], argTypes := #[24] }
          apply Stage.step (Is _) [false, true] (Is.keeps _) (by kernel_rfl)
          · intro w1 h1
            simp only [List.nil_append, List.cons_append, Given]
            rintro _ rfl
            go_wp2_with fail
            exact Post.isv (Ext.refl _) rfl rfl rfl
          -- 3: Op.binOp BinOp.lss 3 t6 t8 3
          apply Stage.step (Is _) [true, false, true] (Is.keeps _) (by kernel_rfl)
          · intro w1 h1
            simp only [List.nil_append, List.cons_append, Given]
            rintro _ rfl
            rintro _ rfl
            go_wp2_with fail
            exact Post.isv (Ext.refl _) rfl rfl rfl
          -- 4: Op.move t9
          apply Stage.step (Is _) [false, false, false, true] (Is.keeps _) (by kernel_rfl)
          · intro w1 h1
            simp only [List.nil_append, List.cons_append, Given]
            rintro _ rfl
            go_wp2_with fail
            exact Post.isv (Ext.refl _) rfl rfl rfl
          -- 5: Op.move t5   [guarded: some (4, true)]
          apply Stage.step (Is _) [false, false, false, false, true] (Is.keeps _) (by kernel_rfl)
          · intro w1 h1
            simp only [List.nil_append, List.cons_append, Given]
            rintro _ rfl
            go_wp2_with fail
            exact Post.isv (Ext.refl _) rfl rfl rfl
          -- 6: Op.move t1   [guarded: some (4, true)]
          apply Stage.step (Is _) [false, false, false, false, true] (Is.keeps _) (by kernel_rfl)
          · intro w1 h1
            simp only [List.nil_append, List.cons_append, Given]
            rintro _ rfl
            go_wp2_with fail
            exact Post.isv (Ext.refl _) rfl rfl rfl
          -- 7: Op.call { builtin len, args := #[t12], argTypes := #[24] }   [guarded: some (4, true)]
          apply Stage.step (Is _) [false, false, false, false, true, false, true] (Is.keeps _) (by kernel_rfl)
          · intro w1 h1
            simp only [List.nil_append, List.cons_append, Given]
            rintro _ rfl
            rintro _ rfl
            go_wp2_with fail
            exact Post.isv (Ext.refl _) rfl rfl rfl
          -- 8: Op.binOp BinOp.lss 3 t11 t13 3   [guarded: some (4, true)]
          apply Stage.step (Is _) [false, false, false, false, true, true, false, true] (Is.keeps _) (by kernel_rfl)
          · intro w1 h1
            simp only [List.nil_append, List.cons_append, Given]
            rintro _ rfl
            rintro _ rfl
            rintro _ rfl
            go_wp2_with fail
            exact Post.isv (Ext.refl _) rfl rfl rfl
          -- 9: Op.pick t10 t14 (const (Value.bool false))
          apply Stage.step (Is _) [false, false, false, false, true, false, false, false, true] (Is.keeps _) (by kernel_rfl)
          · intro w1 h1
            simp only [List.nil_append, List.cons_append, Given]
            rintro _ rfl
            rintro _ rfl
            go_wp2_with fail
            exact Post.isv (Ext.refl _) rfl rfl rfl
          -- 10: Op.move t15
          apply Stage.step (Is _) [false, false, false, false, false, false, false, false, false, true] (Is.keeps _) (by kernel_rfl)
          · intro w1 h1
            simp only [List.nil_append, List.cons_append, Given]
            rintro _ rfl
            go_wp2_with fail
            exact Post.isv (Ext.refl _) rfl rfl rfl
          -- 11: Op.move t0   [guarded: some (10, true)]
          apply Stage.step (Is _) [false, false, false, false, false, false, false, false, false, false, true] (Is.keeps _) (by kernel_rfl)
          · intro w1 h1
            simp only [List.nil_append, List.cons_append, Given]
            rintro _ rfl
            go_wp2_with fail
            exact Post.isv (Ext.refl _) rfl rfl rfl
          -- 12: Op.move t5   [guarded: some (10, true)]
          apply Stage.step (Is _) [false, false, false, false, false, false, false, false, false, false, true] (Is.keeps _) (by kernel_rfl)
          · intro w1 h1
            simp only [List.nil_append, List.cons_append, Given]
            rintro _ rfl
            go_wp2_with fail
            exact Post.isv (Ext.refl _) rfl rfl rfl
          -- 13: Op.indexAddr 24 t17 t18   [guarded: some (10, true)]
          apply Stage.step (Is _) [false, false, false, false, false, false, false, false, false, false, true, true, true] (Is.keeps _) (by kernel_rfl)
          · intro w1 h1
            simp only [List.nil_append, List.cons_append, Given]
            rintro _ rfl
            rintro _ rfl
            rintro _ rfl
            go_wp2_with fail
            exact Post.isv (Ext.refl _) rfl rfl rfl
          -- 14: Op.load 35 t19   [guarded: some (10, true)]
          apply Stage.step (Is _) [false, false, false, false, false, false, false, false, false, false, true, false, false, true] (Is.keeps _) (by kernel_rfl)
          · intro w1 h1
            simp only [List.nil_append, List.cons_append, Given]
            rintro _ rfl
            rintro _ rfl
            have q0 := h1.cell a0
            have q1 := h1.cell a1
            have q2 := h1.cell a2
            have q3 := h1.cell a3
            go_wp2_with fail
            exact Post.isv (Ext.refl _) rfl rfl rfl
          -- 15: Op.move t1   [guarded: some (10, true)]
          apply Stage.step (Is _) [false, false, false, false, false, false, false, false, false, false, true] (Is.keeps _) (by kernel_rfl)
          · intro w1 h1
            simp only [List.nil_append, List.cons_append, Given]
            rintro _ rfl
            go_wp2_with fail
            exact Post.isv (Ext.refl _) rfl rfl rfl
          -- 16: Op.move t5   [guarded: some (10, true)]
          apply Stage.step (Is _) [false, false, false, false, false, false, false, false, false, false, true] (Is.keeps _) (by kernel_rfl)
          · intro w1 h1
            simp only [List.nil_append, List.cons_append, Given]
            rintro _ rfl
            go_wp2_with fail
            exact Post.isv (Ext.refl _) rfl rfl rfl
          -- 17: Op.indexAddr 24 t21 t22   [guarded: some (10, true)]
          apply Stage.step (Is _) [false, false, false, false, false, false, false, false, false, false, true, false, false, false, false, true, true] (Is.keeps _) (by kernel_rfl)
          · intro w1 h1
            simp only [List.nil_append, List.cons_append, Given]
            rintro _ rfl
            rintro _ rfl
            rintro _ rfl
            go_wp2_with fail
            exact Post.isv (Ext.refl _) rfl rfl rfl
          -- 18: Op.load 35 t23   [guarded: some (10, true)]
          apply Stage.step (Is _) [false, false, false, false, false, false, false, false, false, false, true, false, false, false, false, false, false, true] (Is.keeps _) (by kernel_rfl)
          · intro w1 h1
            simp only [List.nil_append, List.cons_append, Given]
            rintro _ rfl
            rintro _ rfl
            have q0 := h1.cell b0
            have q1 := h1.cell b1
            have q2 := h1.cell b2
            have q3 := h1.cell b3
            go_wp2_with fail
            exact Post.isv (Ext.refl _) rfl rfl rfl
          -- 19: Op.binOp BinOp.eql 35 t20 t24 35   [guarded: some (10, true)]
          apply Stage.step (Is (.bool true)) [false, false, false, false, false, false, false, false, false, false, true, false, false, false, true, false, false, false, true] (Is.keeps _) (by kernel_rfl)
          · intro w1 h1
            simp only [List.nil_append, List.cons_append, Given]
            rintro _ rfl
            rintro _ rfl
            rintro _ rfl
            go_wp2_with fail
            all_goals first | exact Post.isv (Ext.refl _) rfl rfl rfl | (exfalso; apply e; simp_all)
          -- 20: Op.pick t16 t25 (const (Value.bool false))
          apply Stage.step (Is _) [false, false, false, false, false, false, false, false, false, false, true, false, false, false, false, false, false, false, false, true] (Is.keeps _) (by kernel_rfl)
          · intro w1 h1
            simp only [List.nil_append, List.cons_append, Given]
            rintro _ rfl
            rintro _ rfl
            go_wp2_with fail
            exact Post.isv (Ext.refl _) rfl rfl rfl
          apply Stage.nil
          intro w1 h1
          simp only [List.nil_append, List.cons_append]
          refine Fin.is_ ?_
          refine Fin.is_ ?_
          refine Fin.is_ ?_
          refine Fin.is_ ?_
          refine Fin.is_ ?_
          refine Fin.is_ ?_
          refine Fin.is_ ?_
          refine Fin.is_ ?_
          refine Fin.is_ ?_
          refine Fin.is_ ?_
          refine Fin.is_ ?_
          refine Fin.is_ ?_
          refine Fin.is_ ?_
          refine Fin.is_ ?_
          refine Fin.is_ ?_
          refine Fin.is_ ?_
          refine Fin.is_ ?_
          refine Fin.is_ ?_
          refine Fin.is_ ?_
          refine Fin.is_ ?_
          refine Fin.is_ ?_
          refine Fin.nil_ ?_
          go_simp
          go_wp2_with fail
          go_roundw
          case rel => exact ⟨k + 1, by omega, by omega, by go_num, hn.out.symm, hxr.trans h1⟩
          case measure => simp [intOf]; omega
        · have hn := Lib.hid (alike_no hx hy e)
          rw [hrk.out] at hn
          obtain rfl : r = k := hn.out
          obtain ⟨x1, x2, x3, x4⟩ := x
          obtain ⟨y1, y2, y3, y4⟩ := y
          clear hx hy hrk hn
          go_wp2_with fail
          refine wp_region_typed Ext.steady rfl 30 rfl (by kernel_rfl) ?_
          -- 0: Op.move t5
          apply Stage.step (Is _) [] (Is.keeps _) (by kernel_rfl)
          · intro w1 h1
            simp only [Given]
            go_wp2_with fail
            exact Post.isv (Ext.refl _) rfl rfl rfl
          -- 1: Op.move t0
          apply Stage.step (Is _) [] (Is.keeps _) (by kernel_rfl)
          · intro w1 h1
            simp only [Given]
            go_wp2_with fail
            exact Post.isv (Ext.refl _) rfl rfl rfl
          -- 2: Op.call { builtin len, args := #[t7], argTypes := #[24] }
          apply Stage.step (Is _) [false, true] (Is.keeps _) (by kernel_rfl)
          · intro w1 h1
            simp only [List.nil_append, List.cons_append, Given]
            rintro _ rfl
            go_wp2_with fail
            exact Post.isv (Ext.refl _) rfl rfl rfl
          -- 3: Op.binOp BinOp.lss 3 t6 t8 3
          apply Stage.step (Is _) [true, false, true] (Is.keeps _) (by kernel_rfl)
          · intro w1 h1
            simp only [List.nil_append, List.cons_append, Given]
            rintro _ rfl
            rintro _ rfl
            go_wp2_with fail
            exact Post.isv (Ext.refl _) rfl rfl rfl
          -- 4: Op.move t9
          apply Stage.step (Is _) [false, false, false, true] (Is.keeps _) (by kernel_rfl)
          · intro w1 h1
            simp only [List.nil_append, List.cons_append, Given]
            rintro _ rfl
            go_wp2_with fail
            exact Post.isv (Ext.refl _) rfl rfl rfl
          -- 5: Op.move t5   [guarded: some (4, true)]
          apply Stage.step (Is _) [false, false, false, false, true] (Is.keeps _) (by kernel_rfl)
          · intro w1 h1
            simp only [List.nil_append, List.cons_append, Given]
            rintro _ rfl
            go_wp2_with fail
            exact Post.isv (Ext.refl _) rfl rfl rfl
          -- 6: Op.move t1   [guarded: some (4, true)]
          apply Stage.step (Is _) [false, false, false, false, true] (Is.keeps _) (by kernel_rfl)
          · intro w1 h1
            simp only [List.nil_append, List.cons_append, Given]
            rintro _ rfl
            go_wp2_with fail
            exact Post.isv (Ext.refl _) rfl rfl rfl
          -- 7: Op.call { builtin len, args := #[t12], argTypes := #[24] }   [guarded: some (4, true)]
          apply Stage.step (Is _) [false, false, false, false, true, false, true] (Is.keeps _) (by kernel_rfl)
          · intro w1 h1
            simp only [List.nil_append, List.cons_append, Given]
            rintro _ rfl
            rintro _ rfl
            go_wp2_with fail
            exact Post.isv (Ext.refl _) rfl rfl rfl
          -- 8: Op.binOp BinOp.lss 3 t11 t13 3   [guarded: some (4, true)]
          apply Stage.step (Is _) [false, false, false, false, true, true, false, true] (Is.keeps _) (by kernel_rfl)
          · intro w1 h1
            simp only [List.nil_append, List.cons_append, Given]
            rintro _ rfl
            rintro _ rfl
            rintro _ rfl
            go_wp2_with fail
            exact Post.isv (Ext.refl _) rfl rfl rfl
          -- 9: Op.pick t10 t14 (const (Value.bool false))
          apply Stage.step (Is _) [false, false, false, false, true, false, false, false, true] (Is.keeps _) (by kernel_rfl)
          · intro w1 h1
            simp only [List.nil_append, List.cons_append, Given]
            rintro _ rfl
            rintro _ rfl
            go_wp2_with fail
            exact Post.isv (Ext.refl _) rfl rfl rfl
          -- 10: Op.move t15
          apply Stage.step (Is _) [false, false, false, false, false, false, false, false, false, true] (Is.keeps _) (by kernel_rfl)
          · intro w1 h1
            simp only [List.nil_append, List.cons_append, Given]
            rintro _ rfl
            go_wp2_with fail
            exact Post.isv (Ext.refl _) rfl rfl rfl
          -- 11: Op.move t0   [guarded: some (10, true)]
          apply Stage.step (Is _) [false, false, false, false, false, false, false, false, false, false, true] (Is.keeps _) (by kernel_rfl)
          · intro w1 h1
            simp only [List.nil_append, List.cons_append, Given]
            rintro _ rfl
            go_wp2_with fail
            exact Post.isv (Ext.refl _) rfl rfl rfl
          -- 12: Op.move t5   [guarded: some (10, true)]
          apply Stage.step (Is _) [false, false, false, false, false, false, false, false, false, false, true] (Is.keeps _) (by kernel_rfl)
          · intro w1 h1
            simp only [List.nil_append, List.cons_append, Given]
            rintro _ rfl
            go_wp2_with fail
            exact Post.isv (Ext.refl _) rfl rfl rfl
          -- 13: Op.indexAddr 24 t17 t18   [guarded: some (10, true)]
          apply Stage.step (Is _) [false, false, false, false, false, false, false, false, false, false, true, true, true] (Is.keeps _) (by kernel_rfl)
          · intro w1 h1
            simp only [List.nil_append, List.cons_append, Given]
            rintro _ rfl
            rintro _ rfl
            rintro _ rfl
            go_wp2_with fail
            exact Post.isv (Ext.refl _) rfl rfl rfl
          -- 14: Op.load 35 t19   [guarded: some (10, true)]
          apply Stage.step (Is _) [false, false, false, false, false, false, false, false, false, false, true, false, false, true] (Is.keeps _) (by kernel_rfl)
          · intro w1 h1
            simp only [List.nil_append, List.cons_append, Given]
            rintro _ rfl
            rintro _ rfl
            have q0 := h1.cell a0
            have q1 := h1.cell a1
            have q2 := h1.cell a2
            have q3 := h1.cell a3
            go_wp2_with fail
            exact Post.isv (Ext.refl _) rfl rfl rfl
          -- 15: Op.move t1   [guarded: some (10, true)]
          apply Stage.step (Is _) [false, false, false, false, false, false, false, false, false, false, true] (Is.keeps _) (by kernel_rfl)
          · intro w1 h1
            simp only [List.nil_append, List.cons_append, Given]
            rintro _ rfl
            go_wp2_with fail
            exact Post.isv (Ext.refl _) rfl rfl rfl
          -- 16: Op.move t5   [guarded: some (10, true)]
          apply Stage.step (Is _) [false, false, false, false, false, false, false, false, false, false, true] (Is.keeps _) (by kernel_rfl)
          · intro w1 h1
            simp only [List.nil_append, List.cons_append, Given]
            rintro _ rfl
            go_wp2_with fail
            exact Post.isv (Ext.refl _) rfl rfl rfl
          -- 17: Op.indexAddr 24 t21 t22   [guarded: some (10, true)]
          apply Stage.step (Is _) [false, false, false, false, false, false, false, false, false, false, true, false, false, false, false, true, true] (Is.keeps _) (by kernel_rfl)
          · intro w1 h1
            simp only [List.nil_append, List.cons_append, Given]
            rintro _ rfl
            rintro _ rfl
            rintro _ rfl
            go_wp2_with fail
            exact Post.isv (Ext.refl _) rfl rfl rfl
          -- 18: Op.load 35 t23   [guarded: some (10, true)]
          apply Stage.step (Is _) [false, false, false, false, false, false, false, false, false, false, true, false, false, false, false, false, false, true] (Is.keeps _) (by kernel_rfl)
          · intro w1 h1
            simp only [List.nil_append, List.cons_append, Given]
            rintro _ rfl
            rintro _ rfl
            have q0 := h1.cell b0
            have q1 := h1.cell b1
            have q2 := h1.cell b2
            have q3 := h1.cell b3
            go_wp2_with fail
            exact Post.isv (Ext.refl _) rfl rfl rfl
          -- 19: Op.binOp BinOp.eql 35 t20 t24 35   [guarded: some (10, true)]
          apply Stage.step (Is (.bool false)) [false, false, false, false, false, false, false, false, false, false, true, false, false, false, true, false, false, false, true] (Is.keeps _) (by kernel_rfl)
          · intro w1 h1
            simp only [List.nil_append, List.cons_append, Given]
            rintro _ rfl
            rintro _ rfl
            rintro _ rfl
            go_wp2_with fail
            all_goals first | exact Post.isv (Ext.refl _) rfl rfl rfl | (exfalso; apply e; simp_all)
          -- 20: Op.pick t16 t25 (const (Value.bool false))
          apply Stage.step (Is _) [false, false, false, false, false, false, false, false, false, false, true, false, false, false, false, false, false, false, false, true] (Is.keeps _) (by kernel_rfl)
          · intro w1 h1
            simp only [List.nil_append, List.cons_append, Given]
            rintro _ rfl
            rintro _ rfl
            go_wp2_with fail
            exact Post.isv (Ext.refl _) rfl rfl rfl
          apply Stage.nil
          intro w1 h1
          simp only [List.nil_append, List.cons_append]
          refine Fin.is_ ?_
          refine Fin.is_ ?_
          refine Fin.is_ ?_
          refine Fin.is_ ?_
          refine Fin.is_ ?_
          refine Fin.is_ ?_
          refine Fin.is_ ?_
          refine Fin.is_ ?_
          refine Fin.is_ ?_
          refine Fin.is_ ?_
          refine Fin.is_ ?_
          refine Fin.is_ ?_
          refine Fin.is_ ?_
          refine Fin.is_ ?_
          refine Fin.is_ ?_
          refine Fin.is_ ?_
          refine Fin.is_ ?_
          refine Fin.is_ ?_
          refine Fin.is_ ?_
          refine Fin.is_ ?_
          refine Fin.is_ ?_
          refine Fin.nil_ ?_
          go_simp
          go_wp2_with fail
          go_ret
          exact ⟨rfl, hxr.trans h1⟩
      · have hn := alike_end (xs := xs) (ys := ys) (k := k) (.inr (by rw [l2.len]; omega))
        rw [hrk.out] at hn
        subst hn
        clear hrk
        go_wp2_with fail
        refine wp_region_typed Ext.steady rfl 30 rfl (by kernel_rfl) ?_
        -- 0: Op.move t5
        apply Stage.step (Is _) [] (Is.keeps _) (by kernel_rfl)
        · intro w1 h1
          simp only [Given]
          go_wp2_with fail
          exact Post.isv (Ext.refl _) rfl rfl rfl
        -- 1: Op.move t0
        apply Stage.step (Is _) [] (Is.keeps _) (by kernel_rfl)
        · intro w1 h1
          simp only [Given]
          go_wp2_with fail
          exact Post.isv (Ext.refl _) rfl rfl rfl
        -- 2: Op.call { builtin len, args := #[t7], argTypes := #[24] }
        apply Stage.step (Is _) [false, true] (Is.keeps _) (by kernel_rfl)
        · intro w1 h1
          simp only [List.nil_append, List.cons_append, Given]
          rintro _ rfl
          go_wp2_with fail
          exact Post.isv (Ext.refl _) rfl rfl rfl
        -- 3: Op.binOp BinOp.lss 3 t6 t8 3
        apply Stage.step (Is _) [true, false, true] (Is.keeps _) (by kernel_rfl)
        · intro w1 h1
          simp only [List.nil_append, List.cons_append, Given]
          rintro _ rfl
          rintro _ rfl
          go_wp2_with fail
          exact Post.isv (Ext.refl _) rfl rfl rfl
        -- 4: Op.move t9
        apply Stage.step (Is _) [false, false, false, true] (Is.keeps _) (by kernel_rfl)
        · intro w1 h1
          simp only [List.nil_append, List.cons_append, Given]
          rintro _ rfl
          go_wp2_with fail
          exact Post.isv (Ext.refl _) rfl rfl rfl
        -- 5: Op.move t5   [guarded: some (4, true)]
        apply Stage.step (Is _) [false, false, false, false, true] (Is.keeps _) (by kernel_rfl)
        · intro w1 h1
          simp only [List.nil_append, List.cons_append, Given]
          rintro _ rfl
          go_wp2_with fail
          exact Post.isv (Ext.refl _) rfl rfl rfl
        -- 6: Op.move t1   [guarded: some (4, true)]
        apply Stage.step (Is _) [false, false, false, false, true] (Is.keeps _) (by kernel_rfl)
        · intro w1 h1
          simp only [List.nil_append, List.cons_append, Given]
          rintro _ rfl
          go_wp2_with fail
          exact Post.isv (Ext.refl _) rfl rfl rfl
        -- 7: Op.call { builtin len, args := #[t12], argTypes := #[24] }   [guarded: some (4, true)]
        apply Stage.step (Is _) [false, false, false, false, true, false, true] (Is.keeps _) (by kernel_rfl)
        · intro w1 h1
          simp only [List.nil_append, List.cons_append, Given]
          rintro _ rfl
          rintro _ rfl
          go_wp2_with fail
          exact Post.isv (Ext.refl _) rfl rfl rfl
        -- 8: Op.binOp BinOp.lss 3 t11 t13 3   [guarded: some (4, true)]
        apply Stage.step (Is _) [false, false, false, false, true, true, false, true] (Is.keeps _) (by kernel_rfl)
        · intro w1 h1
          simp only [List.nil_append, List.cons_append, Given]
          rintro _ rfl
          rintro _ rfl
          rintro _ rfl
          go_wp2_with fail
          exact Post.isv (Ext.refl _) rfl rfl rfl
        -- 9: Op.pick t10 t14 (const (Value.bool false))
        apply Stage.step (Is _) [false, false, false, false, true, false, false, false, true] (Is.keeps _) (by kernel_rfl)
        · intro w1 h1
          simp only [List.nil_append, List.cons_append, Given]
          rintro _ rfl
          rintro _ rfl
          go_wp2_with fail
          exact Post.isv (Ext.refl _) rfl rfl rfl
        -- 10: Op.move t15
        apply Stage.step (Is _) [false, false, false, false, false, false, false, false, false, true] (Is.keeps _) (by kernel_rfl)
        · intro w1 h1
          simp only [List.nil_append, List.cons_append, Given]
          rintro _ rfl
          go_wp2_with fail
          exact Post.isv (Ext.refl _) rfl rfl rfl
        -- 11: Op.move t0   [guarded: some (10, true)]
        apply Stage.step (Is _) [false, false, false, false, false, false, false, false, false, false, true] (Is.keeps _) (by kernel_rfl)
        · intro w1 h1
          simp only [List.nil_append, List.cons_append, Given]
          rintro _ rfl
          go_wp2_with fail
          exact Post.isv (Ext.refl _) rfl rfl rfl
        -- 12: Op.move t5   [guarded: some (10, true)]
        apply Stage.step (Is _) [false, false, false, false, false, false, false, false, false, false, true] (Is.keeps _) (by kernel_rfl)
        · intro w1 h1
          simp only [List.nil_append, List.cons_append, Given]
          rintro _ rfl
          go_wp2_with fail
          exact Post.isv (Ext.refl _) rfl rfl rfl
        -- 13: Op.indexAddr 24 t17 t18   [guarded: some (10, true)]
        apply Stage.step (Is _) [false, false, false, false, false, false, false, false, false, false, true, true, true] (Is.keeps _) (by kernel_rfl)
        · intro w1 h1
          simp only [List.nil_append, List.cons_append, Given]
          rintro _ rfl
          rintro _ rfl
          rintro _ rfl
          go_wp2_with fail
          exact Post.isv (Ext.refl _) rfl rfl rfl
        -- 14: Op.load 35 t19   [guarded: some (10, true)]
        apply Stage.step (Is _) [false, false, false, false, false, false, false, false, false, false, true, false, false, true] (Is.keeps _) (by kernel_rfl)
        · intro w1 h1
          simp only [List.nil_append, List.cons_append, Given]
          rintro _ rfl
          rintro _ rfl
          go_wp2_with fail
          exact Post.isv (Ext.refl _) rfl rfl rfl
        -- 15: Op.move t1   [guarded: some (10, true)]
        apply Stage.step (Is _) [false, false, false, false, false, false, false, false, false, false, true] (Is.keeps _) (by kernel_rfl)
        · intro w1 h1
          simp only [List.nil_append, List.cons_append, Given]
          rintro _ rfl
          go_wp2_with fail
          exact Post.isv (Ext.refl _) rfl rfl rfl
        -- 16: Op.move t5   [guarded: some (10, true)]
        apply Stage.step (Is _) [false, false, false, false, false, false, false, false, false, false, true] (Is.keeps _) (by kernel_rfl)
        · intro w1 h1
          simp only [List.nil_append, List.cons_append, Given]
          rintro _ rfl
          go_wp2_with fail
          exact Post.isv (Ext.refl _) rfl rfl rfl
        -- 17: Op.indexAddr 24 t21 t22   [guarded: some (10, true)]
        apply Stage.step (Is _) [false, false, false, false, false, false, false, false, false, false, true, false, false, false, false, true, true] (Is.keeps _) (by kernel_rfl)
        · intro w1 h1
          simp only [List.nil_append, List.cons_append, Given]
          rintro _ rfl
          rintro _ rfl
          rintro _ rfl
          go_wp2_with fail
          exact Post.isv (Ext.refl _) rfl rfl rfl
        -- 18: Op.load 35 t23   [guarded: some (10, true)]
        apply Stage.step (Is _) [false, false, false, false, false, false, false, false, false, false, true, false, false, false, false, false, false, true] (Is.keeps _) (by kernel_rfl)
        · intro w1 h1
          simp only [List.nil_append, List.cons_append, Given]
          rintro _ rfl
          rintro _ rfl
          go_wp2_with fail
          exact Post.isv (Ext.refl _) rfl rfl rfl
        -- 19: Op.binOp BinOp.eql 35 t20 t24 35   [guarded: some (10, true)]
        apply Stage.step (Is _) [false, false, false, false, false, false, false, false, false, false, true, false, false, false, true, false, false, false, true] (Is.keeps _) (by kernel_rfl)
        · intro w1 h1
          simp only [List.nil_append, List.cons_append, Given]
          rintro _ rfl
          rintro _ rfl
          rintro _ rfl
          go_wp2_with fail
          exact Post.isv (Ext.refl _) rfl rfl rfl
        -- 20: Op.pick t16 t25 (const (Value.bool false))
        apply Stage.step (Is _) [false, false, false, false, false, false, false, false, false, false, true, false, false, false, false, false, false, false, false, true] (Is.keeps _) (by kernel_rfl)
        · intro w1 h1
          simp only [List.nil_append, List.cons_append, Given]
          rintro _ rfl
          rintro _ rfl
          go_wp2_with fail
          exact Post.isv (Ext.refl _) rfl rfl rfl
        apply Stage.nil
        intro w1 h1
        simp only [List.nil_append, List.cons_append]
        refine Fin.is_ ?_
        refine Fin.is_ ?_
        refine Fin.is_ ?_
        refine Fin.is_ ?_
        refine Fin.is_ ?_
        refine Fin.is_ ?_
        refine Fin.is_ ?_
        refine Fin.is_ ?_
        refine Fin.is_ ?_
        refine Fin.is_ ?_
        refine Fin.is_ ?_
        refine Fin.is_ ?_
        refine Fin.is_ ?_
        refine Fin.is_ ?_
        refine Fin.is_ ?_
        refine Fin.is_ ?_
        refine Fin.is_ ?_
        refine Fin.is_ ?_
        refine Fin.is_ ?_
        refine Fin.is_ ?_
        refine Fin.is_ ?_
        refine Fin.nil_ ?_
        go_simp
        go_wp2_with fail
        go_ret
        exact ⟨rfl, hxr.trans h1⟩
    · have hn := alike_end (xs := xs) (ys := ys) (k := k) (.inl (by rw [l1.len]; omega))
      rw [hrk.out] at hn
      subst hn
      clear hrk
      go_wp2_with fail
      refine wp_region_typed Ext.steady rfl 30 rfl (by kernel_rfl) ?_
      -- 0: Op.move t5
      apply Stage.step (Is _) [] (Is.keeps _) (by kernel_rfl)
      · intro w1 h1
        simp only [Given]
        go_wp2_with fail
        exact Post.isv (Ext.refl _) rfl rfl rfl
      -- 1: Op.move t0
      apply Stage.step (Is _) [] (Is.keeps _) (by kernel_rfl)
      · intro w1 h1
        simp only [Given]
        go_wp2_with fail
        exact Post.isv (Ext.refl _) rfl rfl rfl
      -- 2: Op.call { builtin len, args := #[t7], argTypes := #[24] }
      apply Stage.step (Is _) [false, true] (Is.keeps _) (by kernel_rfl)
      · intro w1 h1
        simp only [List.nil_append, List.cons_append, Given]
        rintro _ rfl
        go_wp2_with fail
        exact Post.isv (Ext.refl _) rfl rfl rfl
      -- 3: Op.binOp BinOp.lss 3 t6 t8 3
      apply Stage.step (Is _) [true, false, true] (Is.keeps _) (by kernel_rfl)
      · intro w1 h1
        simp only [List.nil_append, List.cons_append, Given]
        rintro _ rfl
        rintro _ rfl
        go_wp2_with fail
        exact Post.isv (Ext.refl _) rfl rfl rfl
      -- 4: Op.move t9
      apply Stage.step (Is _) [false, false, false, true] (Is.keeps _) (by kernel_rfl)
      · intro w1 h1
        simp only [List.nil_append, List.cons_append, Given]
        rintro _ rfl
        go_wp2_with fail
        exact Post.isv (Ext.refl _) rfl rfl rfl
      -- 5: Op.move t5   [guarded: some (4, true)]
      apply Stage.step (Is _) [false, false, false, false, true] (Is.keeps _) (by kernel_rfl)
      · intro w1 h1
        simp only [List.nil_append, List.cons_append, Given]
        rintro _ rfl
        go_wp2_with fail
        exact Post.isv (Ext.refl _) rfl rfl rfl
      -- 6: Op.move t1   [guarded: some (4, true)]
      apply Stage.step (Is _) [false, false, false, false, true] (Is.keeps _) (by kernel_rfl)
      · intro w1 h1
        simp only [List.nil_append, List.cons_append, Given]
        rintro _ rfl
        go_wp2_with fail
        exact Post.isv (Ext.refl _) rfl rfl rfl
      -- 7: Op.call { builtin len, args := #[t12], argTypes := #[24] }   [guarded: some (4, true)]
      apply Stage.step (Is _) [false, false, false, false, true, false, true] (Is.keeps _) (by kernel_rfl)
      · intro w1 h1
        simp only [List.nil_append, List.cons_append, Given]
        rintro _ rfl
        rintro _ rfl
        go_wp2_with fail
        exact Post.isv (Ext.refl _) rfl rfl rfl
      -- 8: Op.binOp BinOp.lss 3 t11 t13 3   [guarded: some (4, true)]
      apply Stage.step (Is _) [false, false, false, false, true, true, false, true] (Is.keeps _) (by kernel_rfl)
      · intro w1 h1
        simp only [List.nil_append, List.cons_append, Given]
        rintro _ rfl
        rintro _ rfl
        rintro _ rfl
        go_wp2_with fail
        exact Post.isv (Ext.refl _) rfl rfl rfl
      -- 9: Op.pick t10 t14 (const (Value.bool false))
      apply Stage.step (Is _) [false, false, false, false, true, false, false, false, true] (Is.keeps _) (by kernel_rfl)
      · intro w1 h1
        simp only [List.nil_append, List.cons_append, Given]
        rintro _ rfl
        rintro _ rfl
        go_wp2_with fail
        exact Post.isv (Ext.refl _) rfl rfl rfl
      -- 10: Op.move t15
      apply Stage.step (Is _) [false, false, false, false, false, false, false, false, false, true] (Is.keeps _) (by kernel_rfl)
      · intro w1 h1
        simp only [List.nil_append, List.cons_append, Given]
        rintro _ rfl
        go_wp2_with fail
        exact Post.isv (Ext.refl _) rfl rfl rfl
      -- 11: Op.move t0   [guarded: some (10, true)]
      apply Stage.step (Is _) [false, false, false, false, false, false, false, false, false, false, true] (Is.keeps _) (by kernel_rfl)
      · intro w1 h1
        simp only [List.nil_append, List.cons_append, Given]
        rintro _ rfl
        go_wp2_with fail
        exact Post.isv (Ext.refl _) rfl rfl rfl
      -- 12: Op.move t5   [guarded: some (10, true)]
      apply Stage.step (Is _) [false, false, false, false, false, false, false, false, false, false, true] (Is.keeps _) (by kernel_rfl)
      · intro w1 h1
        simp only [List.nil_append, List.cons_append, Given]
        rintro _ rfl
        go_wp2_with fail
        exact Post.isv (Ext.refl _) rfl rfl rfl
      -- 13: Op.indexAddr 24 t17 t18   [guarded: some (10, true)]
      apply Stage.step (Is _) [false, false, false, false, false, false, false, false, false, false, true, true, true] (Is.keeps _) (by kernel_rfl)
      · intro w1 h1
        simp only [List.nil_append, List.cons_append, Given]
        rintro _ rfl
        rintro _ rfl
        rintro _ rfl
        go_wp2_with fail
        exact Post.isv (Ext.refl _) rfl rfl rfl
      -- 14: Op.load 35 t19   [guarded: some (10, true)]
      apply Stage.step (Is _) [false, false, false, false, false, false, false, false, false, false, true, false, false, true] (Is.keeps _) (by kernel_rfl)
      · intro w1 h1
        simp only [List.nil_append, List.cons_append, Given]
        rintro _ rfl
        rintro _ rfl
        go_wp2_with fail
        exact Post.isv (Ext.refl _) rfl rfl rfl
      -- 15: Op.move t1   [guarded: some (10, true)]
      apply Stage.step (Is _) [false, false, false, false, false, false, false, false, false, false, true] (Is.keeps _) (by kernel_rfl)
      · intro w1 h1
        simp only [List.nil_append, List.cons_append, Given]
        rintro _ rfl
        go_wp2_with fail
        exact Post.isv (Ext.refl _) rfl rfl rfl
      -- 16: Op.move t5   [guarded: some (10, true)]
      apply Stage.step (Is _) [false, false, false, false, false, false, false, false, false, false, true] (Is.keeps _) (by kernel_rfl)
      · intro w1 h1
        simp only [List.nil_append, List.cons_append, Given]
        rintro _ rfl
        go_wp2_with fail
        exact Post.isv (Ext.refl _) rfl rfl rfl
      -- 17: Op.indexAddr 24 t21 t22   [guarded: some (10, true)]
      apply Stage.step (Is _) [false, false, false, false, false, false, false, false, false, false, true, false, false, false, false, true, true] (Is.keeps _) (by kernel_rfl)
      · intro w1 h1
        simp only [List.nil_append, List.cons_append, Given]
        rintro _ rfl
        rintro _ rfl
        rintro _ rfl
        go_wp2_with fail
        exact Post.isv (Ext.refl _) rfl rfl rfl
      -- 18: Op.load 35 t23   [guarded: some (10, true)]
      apply Stage.step (Is _) [false, false, false, false, false, false, false, false, false, false, true, false, false, false, false, false, false, true] (Is.keeps _) (by kernel_rfl)
      · intro w1 h1
        simp only [List.nil_append, List.cons_append, Given]
        rintro _ rfl
        rintro _ rfl
        go_wp2_with fail
        exact Post.isv (Ext.refl _) rfl rfl rfl
      -- 19: Op.binOp BinOp.eql 35 t20 t24 35   [guarded: some (10, true)]
      apply Stage.step (Is _) [false, false, false, false, false, false, false, false, false, false, true, false, false, false, true, false, false, false, true] (Is.keeps _) (by kernel_rfl)
      · intro w1 h1
        simp only [List.nil_append, List.cons_append, Given]
        rintro _ rfl
        rintro _ rfl
        rintro _ rfl
        go_wp2_with fail
        exact Post.isv (Ext.refl _) rfl rfl rfl
      -- 20: Op.pick t16 t25 (const (Value.bool false))
      apply Stage.step (Is _) [false, false, false, false, false, false, false, false, false, false, true, false, false, false, false, false, false, false, false, true] (Is.keeps _) (by kernel_rfl)
      · intro w1 h1
        simp only [List.nil_append, List.cons_append, Given]
        rintro _ rfl
        rintro _ rfl
        go_wp2_with fail
        exact Post.isv (Ext.refl _) rfl rfl rfl
      apply Stage.nil
      intro w1 h1
      simp only [List.nil_append, List.cons_append]
      refine Fin.is_ ?_
      refine Fin.is_ ?_
      refine Fin.is_ ?_
      refine Fin.is_ ?_
      refine Fin.is_ ?_
      refine Fin.is_ ?_
      refine Fin.is_ ?_
      refine Fin.is_ ?_
      refine Fin.is_ ?_
      refine Fin.is_ ?_
      refine Fin.is_ ?_
      refine Fin.is_ ?_
      refine Fin.is_ ?_
      refine Fin.is_ ?_
      refine Fin.is_ ?_
      refine Fin.is_ ?_
      refine Fin.is_ ?_
      refine Fin.is_ ?_
      refine Fin.is_ ?_
      refine Fin.is_ ?_
      refine Fin.is_ ?_
      refine Fin.nil_ ?_
      go_simp
      go_wp2_with fail
      go_ret
      exact ⟨rfl, hxr.trans h1⟩
end Go.Proofs.Ytkoknleopmlhcaa
