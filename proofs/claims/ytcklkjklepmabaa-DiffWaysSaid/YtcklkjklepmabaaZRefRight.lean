/-
  Images with snapshots: contract of the reference's Right.
-/
import Derived.Test.YtcklkjklepmabaaZOwnSt
import Derived.Test.YtcklkjklepmabaaZEvSame
namespace Go.Proofs.Ytcklkjklepmabaa
open Go.RowKit
set_option linter.unusedVariables false
set_option linter.unusedSimpArgs false
set_option linter.unnecessarySimpa false
set_option maxRecDepth 100000

def okO (st : St) (k : Nat) (x : Ol) : Bool := nameB x.nm && decide (x.d.length ≤ 512) && decide (findI st.sn x.nm = (k : Int))
def rightS (st : St) : Bool := decide (∀ k (h : k < st.sn.length), okO st k st.sn[k] = true) && (decide (st.d.length ≤ 512) && decide (st.sn.length ≤ 8))
theorem rightS_no {st : St} {k : Nat} {x : Ol} (hx : st.sn[k]? = some x) (h : okO st k x = false) : rightS st = false := by
  unfold rightS
  obtain ⟨hk, rfl⟩ := List.getElem?_eq_some_iff.1 hx
  rw [Bool.and_eq_false_iff]
  left
  rw [decide_eq_false_iff_not]
  intro hc
  rw [hc k hk] at h
  cases h
theorem rightS_all {st : St} (h : ∀ k, k < st.sn.length → ∀ x, st.sn[k]? = some x → okO st k x = true) : rightS st = (decide (st.d.length ≤ 512) && decide (st.sn.length ≤ 8)) := by
  unfold rightS
  rw [decide_eq_true (fun k hk => h k hk _ (List.getElem?_eq_getElem hk)), Bool.true_and]
set_option maxHeartbeats 4000000 in
theorem ref_Right14 {A : Option Addr} {n c : Nat} {A2 : Option Addr} {n2 c2 : Nat} {st : St} {w : World} (hst : StR w A n c A2 n2 c2 st) {r : Bool} (hr : Hid (rightS st = r)) :
    Calls Try.prog 62 #[stV A n c A2 n2 c2] w fun e w' => e = .returned (.bool r) ∧ Ext w w' := by
  have h63 := hst.1.n63
  have h632 := hst.2.n63
  have hdl := hst.1.len
  have hsn := hst.2.len
  obtain ⟨W, hW⟩ : ∃ W, w.alloc (.cells #[.slice A n c, .slice A2 n2 c2] TSt) = W := ⟨_, rfl⟩
  have g0 : Ext w W := by rw [← hW]; exact Ext.alloc _ _
  have s0 : W.cell? ⟨w.heap.size, 0, none⟩ = some (.slice A n c) := by rw [← hW]; exact cell_new w _ _ 0
  have s1 : W.cell? ⟨w.heap.size, 1, none⟩ = some (.slice A2 n2 c2) := by rw [← hW]; exact cell_new w _ _ 1
  go_enter Try.func62, Try.ntmps62
  go_wp2_with fail
  clear hW
  go_loopw [3] (fun i wr => ∃ k : Nat, k ≤ n2 ∧ i = .int .i64 k ∧ Hid (∀ j, j < k → ∀ x, st.sn[j]? = some x → okO st j x = true) ∧ Ext W wr) (fun i _ => n2 - (intOf i).toNat)
  case atStart => exact ⟨0, by omega, rfl, (by intro j hj; omega), Ext.refl _⟩
  case round =>
    obtain ⟨k, hk, rfl, hok, hxr⟩ := hrel
    replace s0 := hxr.cell s0
    replace s1 := hxr.cell s1
    have gxr := g0.trans hxr
    by_cases hlt : k < n2
    · obtain ⟨ga, oa, x, cs, rfl, hx, ⟨Aa, nd, ca, rfl, sa0, hs1⟩, ha⟩ := hst.2.at2 ol_rep (by omega) hlt
      have a0 : wr.cell? ⟨ga, oa + k * 2, none⟩ = _ := gxr.cell (ha 0 _ rfl)
      have a1 := gxr.cell (ha 1 _ rfl)
      have hn63 := sa0.n63
      have hdd := sa0.len
      have hgt := hst.ext gxr
      have HX := Lib.hid hx
      obtain ⟨xn, xd⟩ := x
      simp only at a0 a1 hs1 hdd
      obtain ⟨b, hb⟩ : ∃ b, nameB xn = b := ⟨_, rfl⟩
      obtain ⟨f, hf⟩ : ∃ f, findI st.sn xn = f := ⟨_, rfl⟩
      have HB := Lib.hid hb
      have HF := Lib.hid hf
      have hob : okO st k ⟨xn, xd⟩ = (b && decide (nd ≤ 512) && decide (f = (k : Int))) := by unfold okO; simp only; rw [hb, hdd, hf]
      clear ha hx sa0 hb hf hdd
      by_cases q2 : nd ≤ 512
      · by_cases q3 : f = (k : Int)
        · cases b with
          | true =>
            have HO := Lib.hid (show okO st k ⟨xn, xd⟩ = true by rw [hob]; simp [q2, q3])
            have d2 : decide (512 < nd) = false := by simp; omega
            have d2i : decide ((512 : Int) < (nd : Int)) = false := by simp; omega
            subst q3
            clear hob
            go_wp2_with fail
            refine wp_region_typed Ext.steady rfl 51 rfl (by kernel_rfl) ?_
            -- 0: Op.fieldAddr 35 t1 1
            apply Stage.step (Is _) [] (Is.keeps _) (by kernel_rfl)
            · intro w1 h1
              simp only [Given]
              go_wp2_with fail
              exact Post.isv (Ext.refl _) rfl rfl rfl
            -- 1: Op.load 33 t11
            apply Stage.step (Is _) [true] (Is.keeps _) (by kernel_rfl)
            · intro w1 h1
              simp only [List.nil_append, Given]
              rintro _ rfl
              have hq := h1.cell s1
              go_wp2_with fail
              exact Post.isv (Ext.refl _) rfl rfl rfl
            -- 2: Op.move t3
            apply Stage.step (Is _) [] (Is.keeps _) (by kernel_rfl)
            · intro w1 h1
              simp only [Given]
              go_wp2_with fail
              exact Post.isv (Ext.refl _) rfl rfl rfl
            -- 3: Op.indexAddr 33 t12 t13
            apply Stage.step (Is _) [false, true, true] (Is.keeps _) (by kernel_rfl)
            · intro w1 h1
              simp only [List.nil_append, List.cons_append, Given]
              rintro _ rfl
              rintro _ rfl
              go_wp2_with fail
              exact Post.isv (Ext.refl _) rfl rfl rfl
            -- 4: Op.fieldAddr 42 t14 0
            apply Stage.step (Is _) [false, false, false, true] (Is.keeps _) (by kernel_rfl)
            · intro w1 h1
              simp only [List.nil_append, List.cons_append, Given]
              rintro _ rfl
              go_wp2_with fail
              exact Post.isv (Ext.refl _) rfl rfl rfl
            -- 5: Op.load 9 t15
            apply Stage.step (Is _) [false, false, false, false, true] (Is.keeps _) (by kernel_rfl)
            · intro w1 h1
              simp only [List.nil_append, List.cons_append, Given]
              rintro _ rfl
              have hq := h1.cell a0
              go_wp2_with fail
              exact Post.isv (Ext.refl _) rfl rfl rfl
            -- 6: Op.call { value (Operand.func 46), args := #[t16], argTypes := #[9] }
            apply Stage.step (Is _) [false, false, false, false, false, true] (Is.keeps _) (by kernel_rfl)
            · intro w1 h1
              simp only [List.nil_append, List.cons_append, Given]
              rintro _ rfl
              go_wp2_with fail
              refine (ref_Name xn _ hs1).mono ?_
              rintro e w3 ⟨rfl, rfl⟩
              rw [HB.out]
              go_wp2_with fail
              exact Post.isv (Ext.refl _) rfl rfl rfl
            -- 7: Op.unOp UnOp.not 4 t17
            apply Stage.step (Is _) [false, false, false, false, false, false, true] (Is.keeps _) (by kernel_rfl)
            · intro w1 h1
              simp only [List.nil_append, List.cons_append, Given]
              rintro _ rfl
              go_wp2_with fail
              exact Post.isv (Ext.refl _) rfl rfl rfl
            -- 8: Op.move t18
            apply Stage.step (Is _) [false, false, false, false, false, false, false, true] (Is.keeps _) (by kernel_rfl)
            · intro w1 h1
              simp only [List.nil_append, List.cons_append, Given]
              rintro _ rfl
              go_wp2_with fail
              exact Post.isv (Ext.refl _) rfl rfl rfl
            -- 9: Op.fieldAddr 35 t1 1   [guarded: some (8, false)]
            apply Stage.step (Is _) [false, false, false, false, false, false, false, false, true] (Is.keeps _) (by kernel_rfl)
            · intro w1 h1
              simp only [List.nil_append, List.cons_append, Given]
              rintro _ rfl
              go_wp2_with fail
              exact Post.isv (Ext.refl _) rfl rfl rfl
            -- 10: Op.load 33 t20   [guarded: some (8, false)]
            apply Stage.step (Is _) [false, false, false, false, false, false, false, false, true, true] (Is.keeps _) (by kernel_rfl)
            · intro w1 h1
              simp only [List.nil_append, List.cons_append, Given]
              rintro _ rfl
              rintro _ rfl
              have hq := h1.cell s1
              have hq2 := h1.cell s1
              go_wp2_with fail
              exact Post.isv (Ext.refl _) rfl rfl rfl
            -- 11: Op.move t3   [guarded: some (8, false)]
            apply Stage.step (Is _) [false, false, false, false, false, false, false, false, true] (Is.keeps _) (by kernel_rfl)
            · intro w1 h1
              simp only [List.nil_append, List.cons_append, Given]
              rintro _ rfl
              go_wp2_with fail
              exact Post.isv (Ext.refl _) rfl rfl rfl
            -- 12: Op.indexAddr 33 t21 t22   [guarded: some (8, false)]
            apply Stage.step (Is _) [false, false, false, false, false, false, false, false, true, false, true, true] (Is.keeps _) (by kernel_rfl)
            · intro w1 h1
              simp only [List.nil_append, List.cons_append, Given]
              rintro _ rfl
              rintro _ rfl
              rintro _ rfl
              go_wp2_with fail
              exact Post.isv (Ext.refl _) rfl rfl rfl
            -- 13: Op.fieldAddr 42 t23 1   [guarded: some (8, false)]
            apply Stage.step (Is _) [false, false, false, false, false, false, false, false, true, false, false, false, true] (Is.keeps _) (by kernel_rfl)
            · intro w1 h1
              simp only [List.nil_append, List.cons_append, Given]
              rintro _ rfl
              rintro _ rfl
              go_wp2_with fail
              exact Post.isv (Ext.refl _) rfl rfl rfl
            -- 14: Op.load 22 t24   [guarded: some (8, false)]
            apply Stage.step (Is _) [false, false, false, false, false, false, false, false, true, false, false, false, false, true] (Is.keeps _) (by kernel_rfl)
            · intro w1 h1
              simp only [List.nil_append, List.cons_append, Given]
              rintro _ rfl
              rintro _ rfl
              have hq := h1.cell a1
              have hq2 := h1.cell s1
              go_wp2_with fail
              exact Post.isv (Ext.refl _) rfl rfl rfl
            -- 15: Op.call { builtin len, args := #[t25], argTypes := #[22] }   [guarded: some (8, false)]
            apply Stage.step (Is _) [false, false, false, false, false, false, false, false, true, false, false, false, false, false, true] (Is.keeps _) (by kernel_rfl)
            · intro w1 h1
              simp only [List.nil_append, List.cons_append, Given]
              rintro _ rfl
              rintro _ rfl
              go_wp2_with fail
              exact Post.isv (Ext.refl _) rfl rfl rfl
            -- 16: Op.binOp BinOp.gtr 3 t26 (const (512:i64)) 3   [guarded: some (8, false)]
            apply Stage.step (Is _) [false, false, false, false, false, false, false, false, true, false, false, false, false, false, false, true] (Is.keeps _) (by kernel_rfl)
            · intro w1 h1
              simp only [List.nil_append, List.cons_append, Given]
              rintro _ rfl
              rintro _ rfl
              go_wp2_with fail
              exact Post.isv (Ext.refl _) rfl rfl rfl
            -- 17: Op.pick t19 (const (Value.bool true)) t27
            apply Stage.step (Is _) [false, false, false, false, false, false, false, false, true, false, false, false, false, false, false, false, true] (Is.keeps _) (by kernel_rfl)
            · intro w1 h1
              simp only [List.nil_append, List.cons_append, Given]
              rintro _ rfl
              rintro _ rfl
              go_wp2_with fail
              exact Post.isv (Ext.refl _) rfl rfl rfl
            -- 18: Op.move t28
            apply Stage.step (Is _) [false, false, false, false, false, false, false, false, false, false, false, false, false, false, false, false, false, true] (Is.keeps _) (by kernel_rfl)
            · intro w1 h1
              simp only [List.nil_append, List.cons_append, Given]
              rintro _ rfl
              go_wp2_with fail
              exact Post.isv (Ext.refl _) rfl rfl rfl
            -- 19: Op.load 35 t1   [guarded: some (18, false)]
            apply Stage.step (Is _) [false, false, false, false, false, false, false, false, false, false, false, false, false, false, false, false, false, false, true] (Is.keeps _) (by kernel_rfl)
            · intro w1 h1
              simp only [List.nil_append, List.cons_append, Given]
              rintro _ rfl
              have hq := h1.cell s0
              have hq2 := h1.cell s1
              go_wp2_with fail
              exact Post.isv (Ext.refl _) rfl rfl rfl
            -- 20: Op.fieldAddr 35 t1 1   [guarded: some (18, false)]
            apply Stage.step (Is _) [false, false, false, false, false, false, false, false, false, false, false, false, false, false, false, false, false, false, true] (Is.keeps _) (by kernel_rfl)
            · intro w1 h1
              simp only [List.nil_append, List.cons_append, Given]
              rintro _ rfl
              go_wp2_with fail
              exact Post.isv (Ext.refl _) rfl rfl rfl
            -- 21: Op.load 33 t31   [guarded: some (18, false)]
            apply Stage.step (Is _) [false, false, false, false, false, false, false, false, false, false, false, false, false, false, false, false, false, false, true, false, true] (Is.keeps _) (by kernel_rfl)
            · intro w1 h1
              simp only [List.nil_append, List.cons_append, Given]
              rintro _ rfl
              rintro _ rfl
              have hq := h1.cell s1
              have hq2 := h1.cell s1
              go_wp2_with fail
              exact Post.isv (Ext.refl _) rfl rfl rfl
            -- 22: Op.move t3   [guarded: some (18, false)]
            apply Stage.step (Is _) [false, false, false, false, false, false, false, false, false, false, false, false, false, false, false, false, false, false, true] (Is.keeps _) (by kernel_rfl)
            · intro w1 h1
              simp only [List.nil_append, List.cons_append, Given]
              rintro _ rfl
              go_wp2_with fail
              exact Post.isv (Ext.refl _) rfl rfl rfl
            -- 23: Op.indexAddr 33 t32 t33   [guarded: some (18, false)]
            apply Stage.step (Is _) [false, false, false, false, false, false, false, false, false, false, false, false, false, false, false, false, false, false, true, false, false, true, true] (Is.keeps _) (by kernel_rfl)
            · intro w1 h1
              simp only [List.nil_append, List.cons_append, Given]
              rintro _ rfl
              rintro _ rfl
              rintro _ rfl
              go_wp2_with fail
              exact Post.isv (Ext.refl _) rfl rfl rfl
            -- 24: Op.fieldAddr 42 t34 0   [guarded: some (18, false)]
            apply Stage.step (Is _) [false, false, false, false, false, false, false, false, false, false, false, false, false, false, false, false, false, false, true, false, false, false, false, true] (Is.keeps _) (by kernel_rfl)
            · intro w1 h1
              simp only [List.nil_append, List.cons_append, Given]
              rintro _ rfl
              rintro _ rfl
              go_wp2_with fail
              exact Post.isv (Ext.refl _) rfl rfl rfl
            -- 25: Op.load 9 t35   [guarded: some (18, false)]
            apply Stage.step (Is _) [false, false, false, false, false, false, false, false, false, false, false, false, false, false, false, false, false, false, true, false, false, false, false, false, true] (Is.keeps _) (by kernel_rfl)
            · intro w1 h1
              simp only [List.nil_append, List.cons_append, Given]
              rintro _ rfl
              rintro _ rfl
              have hq := h1.cell a0
              have hq2 := h1.cell s1
              go_wp2_with fail
              exact Post.isv (Ext.refl _) rfl rfl rfl
            -- 26: Op.call { value (Operand.func 78), args := #[t30, t36], argTypes := #[35, 9] }   [guarded: some (18,
            apply Stage.step (Is _) [false, false, false, false, false, false, false, false, false, false, false, false, false, false, false, false, false, false, true, true, false, false, false, false, false, true] (Is.keeps _) (by kernel_rfl)
            · intro w1 h1
              simp only [List.nil_append, List.cons_append, Given]
              rintro _ rfl
              rintro _ rfl
              rintro _ rfl
              go_wp2_with fail
              refine (ref_Find (hgt.ext h1) HF).mono ?_
              rintro e w3 ⟨rfl, h3⟩
              go_wp2_with fail
              exact Post.isv h3 rfl rfl rfl
            -- 27: Op.move t3   [guarded: some (18, false)]
            apply Stage.step (Is _) [false, false, false, false, false, false, false, false, false, false, false, false, false, false, false, false, false, false, true] (Is.keeps _) (by kernel_rfl)
            · intro w1 h1
              simp only [List.nil_append, List.cons_append, Given]
              rintro _ rfl
              go_wp2_with fail
              exact Post.isv (Ext.refl _) rfl rfl rfl
            -- 28: Op.binOp BinOp.neq 3 t37 t38 3   [guarded: some (18, false)]
            apply Stage.step (Is _) [false, false, false, false, false, false, false, false, false, false, false, false, false, false, false, false, false, false, true, false, false, false, false, false, false, false, true, true] (Is.keeps _) (by kernel_rfl)
            · intro w1 h1
              simp only [List.nil_append, List.cons_append, Given]
              rintro _ rfl
              rintro _ rfl
              rintro _ rfl
              go_wp2_with fail
              exact Post.isv (Ext.refl _) rfl rfl rfl
            -- 29: Op.pick t29 (const (Value.bool true)) t39
            apply Stage.step (Is _) [false, false, false, false, false, false, false, false, false, false, false, false, false, false, false, false, false, false, true, false, false, false, false, false, false, false, false, false, true] (Is.keeps _) (by kernel_rfl)
            · intro w1 h1
              simp only [List.nil_append, List.cons_append, Given]
              rintro _ rfl
              rintro _ rfl
              go_wp2_with fail
              exact Post.isv (Ext.refl _) rfl rfl rfl
            apply Stage.nil
            intro w1 h1
            simp only [List.nil_append, List.cons_append]
            refine Fin.is_ ?_
            refine Fin.is_ ?_
            refine Fin.is_ ?_
            refine Fin.is_ ?_
            refine Fin.is_ ?_
            refine Fin.is_ ?_
            refine Fin.is_ ?_
            refine Fin.is_ ?_
            refine Fin.is_ ?_
            refine Fin.is_ ?_
            refine Fin.is_ ?_
            refine Fin.is_ ?_
            refine Fin.is_ ?_
            refine Fin.is_ ?_
            refine Fin.is_ ?_
            refine Fin.is_ ?_
            refine Fin.is_ ?_
            refine Fin.is_ ?_
            refine Fin.is_ ?_
            refine Fin.is_ ?_
            refine Fin.is_ ?_
            refine Fin.is_ ?_
            refine Fin.is_ ?_
            refine Fin.is_ ?_
            refine Fin.is_ ?_
            refine Fin.is_ ?_
            refine Fin.is_ ?_
            refine Fin.is_ ?_
            refine Fin.is_ ?_
            refine Fin.is_ ?_
            refine Fin.nil_ ?_
            go_simp
            go_wp2_with fail
            go_roundw
            case rel =>
              refine ⟨k + 1, by omega, by go_num, ?_, hxr.trans h1⟩
              intro j hj y hy
              rcases Nat.lt_or_ge j k with h | h
              · exact hok j h y hy
              · obtain rfl : j = k := by omega
                rw [HX.out] at hy
                injection hy with hy
                subst hy
                exact HO.out
            case measure => simp [intOf]; omega
          | false =>
            obtain rfl : false = r := by rw [← hr.out]; exact (rightS_no HX.out (by rw [hob]; simp [*])).symm
            clear hob hok hr
            go_wp2_with fail
            refine wp_region_typed Ext.steady rfl 51 rfl (by kernel_rfl) ?_
            -- 0: Op.fieldAddr 35 t1 1
            apply Stage.step (Is _) [] (Is.keeps _) (by kernel_rfl)
            · intro w1 h1
              simp only [Given]
              go_wp2_with fail
              exact Post.isv (Ext.refl _) rfl rfl rfl
            -- 1: Op.load 33 t11
            apply Stage.step (Is _) [true] (Is.keeps _) (by kernel_rfl)
            · intro w1 h1
              simp only [List.nil_append, Given]
              rintro _ rfl
              have hq := h1.cell s1
              go_wp2_with fail
              exact Post.isv (Ext.refl _) rfl rfl rfl
            -- 2: Op.move t3
            apply Stage.step (Is _) [] (Is.keeps _) (by kernel_rfl)
            · intro w1 h1
              simp only [Given]
              go_wp2_with fail
              exact Post.isv (Ext.refl _) rfl rfl rfl
            -- 3: Op.indexAddr 33 t12 t13
            apply Stage.step (Is _) [false, true, true] (Is.keeps _) (by kernel_rfl)
            · intro w1 h1
              simp only [List.nil_append, List.cons_append, Given]
              rintro _ rfl
              rintro _ rfl
              go_wp2_with fail
              exact Post.isv (Ext.refl _) rfl rfl rfl
            -- 4: Op.fieldAddr 42 t14 0
            apply Stage.step (Is _) [false, false, false, true] (Is.keeps _) (by kernel_rfl)
            · intro w1 h1
              simp only [List.nil_append, List.cons_append, Given]
              rintro _ rfl
              go_wp2_with fail
              exact Post.isv (Ext.refl _) rfl rfl rfl
            -- 5: Op.load 9 t15
            apply Stage.step (Is _) [false, false, false, false, true] (Is.keeps _) (by kernel_rfl)
            · intro w1 h1
              simp only [List.nil_append, List.cons_append, Given]
              rintro _ rfl
              have hq := h1.cell a0
              go_wp2_with fail
              exact Post.isv (Ext.refl _) rfl rfl rfl
            -- 6: Op.call { value (Operand.func 46), args := #[t16], argTypes := #[9] }
            apply Stage.step (Is _) [false, false, false, false, false, true] (Is.keeps _) (by kernel_rfl)
            · intro w1 h1
              simp only [List.nil_append, List.cons_append, Given]
              rintro _ rfl
              go_wp2_with fail
              refine (ref_Name xn _ hs1).mono ?_
              rintro e w3 ⟨rfl, rfl⟩
              rw [HB.out]
              go_wp2_with fail
              exact Post.isv (Ext.refl _) rfl rfl rfl
            -- 7: Op.unOp UnOp.not 4 t17
            apply Stage.step (Is _) [false, false, false, false, false, false, true] (Is.keeps _) (by kernel_rfl)
            · intro w1 h1
              simp only [List.nil_append, List.cons_append, Given]
              rintro _ rfl
              go_wp2_with fail
              exact Post.isv (Ext.refl _) rfl rfl rfl
            -- 8: Op.move t18
            apply Stage.step (Is _) [false, false, false, false, false, false, false, true] (Is.keeps _) (by kernel_rfl)
            · intro w1 h1
              simp only [List.nil_append, List.cons_append, Given]
              rintro _ rfl
              go_wp2_with fail
              exact Post.isv (Ext.refl _) rfl rfl rfl
            -- 9: Op.fieldAddr 35 t1 1   [guarded: some (8, false)]
            apply Stage.step (Is _) [false, false, false, false, false, false, false, false, true] (Is.keeps _) (by kernel_rfl)
            · intro w1 h1
              simp only [List.nil_append, List.cons_append, Given]
              rintro _ rfl
              go_wp2_with fail
              exact Post.isv (Ext.refl _) rfl rfl rfl
            -- 10: Op.load 33 t20   [guarded: some (8, false)]
            apply Stage.step (Is _) [false, false, false, false, false, false, false, false, true, true] (Is.keeps _) (by kernel_rfl)
            · intro w1 h1
              simp only [List.nil_append, List.cons_append, Given]
              rintro _ rfl
              rintro _ rfl
              have hq := h1.cell s1
              have hq2 := h1.cell s1
              go_wp2_with fail
              exact Post.isv (Ext.refl _) rfl rfl rfl
            -- 11: Op.move t3   [guarded: some (8, false)]
            apply Stage.step (Is _) [false, false, false, false, false, false, false, false, true] (Is.keeps _) (by kernel_rfl)
            · intro w1 h1
              simp only [List.nil_append, List.cons_append, Given]
              rintro _ rfl
              go_wp2_with fail
              exact Post.isv (Ext.refl _) rfl rfl rfl
            -- 12: Op.indexAddr 33 t21 t22   [guarded: some (8, false)]
            apply Stage.step (Is _) [false, false, false, false, false, false, false, false, true, false, true, true] (Is.keeps _) (by kernel_rfl)
            · intro w1 h1
              simp only [List.nil_append, List.cons_append, Given]
              rintro _ rfl
              rintro _ rfl
              rintro _ rfl
              go_wp2_with fail
              exact Post.isv (Ext.refl _) rfl rfl rfl
            -- 13: Op.fieldAddr 42 t23 1   [guarded: some (8, false)]
            apply Stage.step (Is _) [false, false, false, false, false, false, false, false, true, false, false, false, true] (Is.keeps _) (by kernel_rfl)
            · intro w1 h1
              simp only [List.nil_append, List.cons_append, Given]
              rintro _ rfl
              rintro _ rfl
              go_wp2_with fail
              exact Post.isv (Ext.refl _) rfl rfl rfl
            -- 14: Op.load 22 t24   [guarded: some (8, false)]
            apply Stage.step (Is _) [false, false, false, false, false, false, false, false, true, false, false, false, false, true] (Is.keeps _) (by kernel_rfl)
            · intro w1 h1
              simp only [List.nil_append, List.cons_append, Given]
              rintro _ rfl
              rintro _ rfl
              have hq := h1.cell a1
              have hq2 := h1.cell s1
              go_wp2_with fail
              exact Post.isv (Ext.refl _) rfl rfl rfl
            -- 15: Op.call { builtin len, args := #[t25], argTypes := #[22] }   [guarded: some (8, false)]
            apply Stage.step (Is _) [false, false, false, false, false, false, false, false, true, false, false, false, false, false, true] (Is.keeps _) (by kernel_rfl)
            · intro w1 h1
              simp only [List.nil_append, List.cons_append, Given]
              rintro _ rfl
              rintro _ rfl
              go_wp2_with fail
              exact Post.isv (Ext.refl _) rfl rfl rfl
            -- 16: Op.binOp BinOp.gtr 3 t26 (const (512:i64)) 3   [guarded: some (8, false)]
            apply Stage.step (Is _) [false, false, false, false, false, false, false, false, true, false, false, false, false, false, false, true] (Is.keeps _) (by kernel_rfl)
            · intro w1 h1
              simp only [List.nil_append, List.cons_append, Given]
              rintro _ rfl
              rintro _ rfl
              go_wp2_with fail
              exact Post.isv (Ext.refl _) rfl rfl rfl
            -- 17: Op.pick t19 (const (Value.bool true)) t27
            apply Stage.step (Is _) [false, false, false, false, false, false, false, false, true, false, false, false, false, false, false, false, true] (Is.keeps _) (by kernel_rfl)
            · intro w1 h1
              simp only [List.nil_append, List.cons_append, Given]
              rintro _ rfl
              rintro _ rfl
              go_wp2_with fail
              exact Post.isv (Ext.refl _) rfl rfl rfl
            -- 18: Op.move t28
            apply Stage.step (Is _) [false, false, false, false, false, false, false, false, false, false, false, false, false, false, false, false, false, true] (Is.keeps _) (by kernel_rfl)
            · intro w1 h1
              simp only [List.nil_append, List.cons_append, Given]
              rintro _ rfl
              go_wp2_with fail
              exact Post.isv (Ext.refl _) rfl rfl rfl
            -- 19: Op.load 35 t1   [guarded: some (18, false)]
            apply Stage.step (Is _) [false, false, false, false, false, false, false, false, false, false, false, false, false, false, false, false, false, false, true] (Is.keeps _) (by kernel_rfl)
            · intro w1 h1
              simp only [List.nil_append, List.cons_append, Given]
              rintro _ rfl
              have hq := h1.cell s0
              have hq2 := h1.cell s1
              go_wp2_with fail
              exact Post.isv (Ext.refl _) rfl rfl rfl
            -- 20: Op.fieldAddr 35 t1 1   [guarded: some (18, false)]
            apply Stage.step (Is _) [false, false, false, false, false, false, false, false, false, false, false, false, false, false, false, false, false, false, true] (Is.keeps _) (by kernel_rfl)
            · intro w1 h1
              simp only [List.nil_append, List.cons_append, Given]
              rintro _ rfl
              go_wp2_with fail
              exact Post.isv (Ext.refl _) rfl rfl rfl
            -- 21: Op.load 33 t31   [guarded: some (18, false)]
            apply Stage.step (Is _) [false, false, false, false, false, false, false, false, false, false, false, false, false, false, false, false, false, false, true, false, true] (Is.keeps _) (by kernel_rfl)
            · intro w1 h1
              simp only [List.nil_append, List.cons_append, Given]
              rintro _ rfl
              rintro _ rfl
              have hq := h1.cell s1
              have hq2 := h1.cell s1
              go_wp2_with fail
              exact Post.isv (Ext.refl _) rfl rfl rfl
            -- 22: Op.move t3   [guarded: some (18, false)]
            apply Stage.step (Is _) [false, false, false, false, false, false, false, false, false, false, false, false, false, false, false, false, false, false, true] (Is.keeps _) (by kernel_rfl)
            · intro w1 h1
              simp only [List.nil_append, List.cons_append, Given]
              rintro _ rfl
              go_wp2_with fail
              exact Post.isv (Ext.refl _) rfl rfl rfl
            -- 23: Op.indexAddr 33 t32 t33   [guarded: some (18, false)]
            apply Stage.step (Is _) [false, false, false, false, false, false, false, false, false, false, false, false, false, false, false, false, false, false, true, false, false, true, true] (Is.keeps _) (by kernel_rfl)
            · intro w1 h1
              simp only [List.nil_append, List.cons_append, Given]
              rintro _ rfl
              rintro _ rfl
              rintro _ rfl
              go_wp2_with fail
              exact Post.isv (Ext.refl _) rfl rfl rfl
            -- 24: Op.fieldAddr 42 t34 0   [guarded: some (18, false)]
            apply Stage.step (Is _) [false, false, false, false, false, false, false, false, false, false, false, false, false, false, false, false, false, false, true, false, false, false, false, true] (Is.keeps _) (by kernel_rfl)
            · intro w1 h1
              simp only [List.nil_append, List.cons_append, Given]
              rintro _ rfl
              rintro _ rfl
              go_wp2_with fail
              exact Post.isv (Ext.refl _) rfl rfl rfl
            -- 25: Op.load 9 t35   [guarded: some (18, false)]
            apply Stage.step (Is _) [false, false, false, false, false, false, false, false, false, false, false, false, false, false, false, false, false, false, true, false, false, false, false, false, true] (Is.keeps _) (by kernel_rfl)
            · intro w1 h1
              simp only [List.nil_append, List.cons_append, Given]
              rintro _ rfl
              rintro _ rfl
              have hq := h1.cell a0
              have hq2 := h1.cell s1
              go_wp2_with fail
              exact Post.isv (Ext.refl _) rfl rfl rfl
            -- 26: Op.call { value (Operand.func 78), args := #[t30, t36], argTypes := #[35, 9] }   [guarded: some (18,
            apply Stage.step (Is _) [false, false, false, false, false, false, false, false, false, false, false, false, false, false, false, false, false, false, true, true, false, false, false, false, false, true] (Is.keeps _) (by kernel_rfl)
            · intro w1 h1
              simp only [List.nil_append, List.cons_append, Given]
              rintro _ rfl
              rintro _ rfl
              rintro _ rfl
              go_wp2_with fail
              exact Post.isv (Ext.refl _) rfl rfl rfl
            -- 27: Op.move t3   [guarded: some (18, false)]
            apply Stage.step (Is _) [false, false, false, false, false, false, false, false, false, false, false, false, false, false, false, false, false, false, true] (Is.keeps _) (by kernel_rfl)
            · intro w1 h1
              simp only [List.nil_append, List.cons_append, Given]
              rintro _ rfl
              go_wp2_with fail
              exact Post.isv (Ext.refl _) rfl rfl rfl
            -- 28: Op.binOp BinOp.neq 3 t37 t38 3   [guarded: some (18, false)]
            apply Stage.step (Is _) [false, false, false, false, false, false, false, false, false, false, false, false, false, false, false, false, false, false, true, false, false, false, false, false, false, false, true, true] (Is.keeps _) (by kernel_rfl)
            · intro w1 h1
              simp only [List.nil_append, List.cons_append, Given]
              rintro _ rfl
              rintro _ rfl
              rintro _ rfl
              go_wp2_with fail
              exact Post.isv (Ext.refl _) rfl rfl rfl
            -- 29: Op.pick t29 (const (Value.bool true)) t39
            apply Stage.step (Is _) [false, false, false, false, false, false, false, false, false, false, false, false, false, false, false, false, false, false, true, false, false, false, false, false, false, false, false, false, true] (Is.keeps _) (by kernel_rfl)
            · intro w1 h1
              simp only [List.nil_append, List.cons_append, Given]
              rintro _ rfl
              rintro _ rfl
              go_wp2_with fail
              exact Post.isv (Ext.refl _) rfl rfl rfl
            apply Stage.nil
            intro w1 h1
            simp only [List.nil_append, List.cons_append]
            refine Fin.is_ ?_
            refine Fin.is_ ?_
            refine Fin.is_ ?_
            refine Fin.is_ ?_
            refine Fin.is_ ?_
            refine Fin.is_ ?_
            refine Fin.is_ ?_
            refine Fin.is_ ?_
            refine Fin.is_ ?_
            refine Fin.is_ ?_
            refine Fin.is_ ?_
            refine Fin.is_ ?_
            refine Fin.is_ ?_
            refine Fin.is_ ?_
            refine Fin.is_ ?_
            refine Fin.is_ ?_
            refine Fin.is_ ?_
            refine Fin.is_ ?_
            refine Fin.is_ ?_
            refine Fin.is_ ?_
            refine Fin.is_ ?_
            refine Fin.is_ ?_
            refine Fin.is_ ?_
            refine Fin.is_ ?_
            refine Fin.is_ ?_
            refine Fin.is_ ?_
            refine Fin.is_ ?_
            refine Fin.is_ ?_
            refine Fin.is_ ?_
            refine Fin.is_ ?_
            refine Fin.nil_ ?_
            go_simp
            go_wp2_with fail
            go_ret
            exact ⟨rfl, gxr.trans h1⟩
        · cases b with
          | true =>
            have d2 : decide (512 < nd) = false := by simp; omega
            have d2i : decide ((512 : Int) < (nd : Int)) = false := by simp; omega
            have d3 : (f == (k : Int)) = false := by simpa using q3
            have d3n : (f != (k : Int)) = true := by simpa using q3
            obtain rfl : false = r := by rw [← hr.out]; exact (rightS_no HX.out (by rw [hob]; simp [*])).symm
            clear hob hok hr
            go_wp2_with fail
            refine wp_region_typed Ext.steady rfl 51 rfl (by kernel_rfl) ?_
            -- 0: Op.fieldAddr 35 t1 1
            apply Stage.step (Is _) [] (Is.keeps _) (by kernel_rfl)
            · intro w1 h1
              simp only [Given]
              go_wp2_with fail
              exact Post.isv (Ext.refl _) rfl rfl rfl
            -- 1: Op.load 33 t11
            apply Stage.step (Is _) [true] (Is.keeps _) (by kernel_rfl)
            · intro w1 h1
              simp only [List.nil_append, Given]
              rintro _ rfl
              have hq := h1.cell s1
              go_wp2_with fail
              exact Post.isv (Ext.refl _) rfl rfl rfl
            -- 2: Op.move t3
            apply Stage.step (Is _) [] (Is.keeps _) (by kernel_rfl)
            · intro w1 h1
              simp only [Given]
              go_wp2_with fail
              exact Post.isv (Ext.refl _) rfl rfl rfl
            -- 3: Op.indexAddr 33 t12 t13
            apply Stage.step (Is _) [false, true, true] (Is.keeps _) (by kernel_rfl)
            · intro w1 h1
              simp only [List.nil_append, List.cons_append, Given]
              rintro _ rfl
              rintro _ rfl
              go_wp2_with fail
              exact Post.isv (Ext.refl _) rfl rfl rfl
            -- 4: Op.fieldAddr 42 t14 0
            apply Stage.step (Is _) [false, false, false, true] (Is.keeps _) (by kernel_rfl)
            · intro w1 h1
              simp only [List.nil_append, List.cons_append, Given]
              rintro _ rfl
              go_wp2_with fail
              exact Post.isv (Ext.refl _) rfl rfl rfl
            -- 5: Op.load 9 t15
            apply Stage.step (Is _) [false, false, false, false, true] (Is.keeps _) (by kernel_rfl)
            · intro w1 h1
              simp only [List.nil_append, List.cons_append, Given]
              rintro _ rfl
              have hq := h1.cell a0
              go_wp2_with fail
              exact Post.isv (Ext.refl _) rfl rfl rfl
            -- 6: Op.call { value (Operand.func 46), args := #[t16], argTypes := #[9] }
            apply Stage.step (Is _) [false, false, false, false, false, true] (Is.keeps _) (by kernel_rfl)
            · intro w1 h1
              simp only [List.nil_append, List.cons_append, Given]
              rintro _ rfl
              go_wp2_with fail
              refine (ref_Name xn _ hs1).mono ?_
              rintro e w3 ⟨rfl, rfl⟩
              rw [HB.out]
              go_wp2_with fail
              exact Post.isv (Ext.refl _) rfl rfl rfl
            -- 7: Op.unOp UnOp.not 4 t17
            apply Stage.step (Is _) [false, false, false, false, false, false, true] (Is.keeps _) (by kernel_rfl)
            · intro w1 h1
              simp only [List.nil_append, List.cons_append, Given]
              rintro _ rfl
              go_wp2_with fail
              exact Post.isv (Ext.refl _) rfl rfl rfl
            -- 8: Op.move t18
            apply Stage.step (Is _) [false, false, false, false, false, false, false, true] (Is.keeps _) (by kernel_rfl)
            · intro w1 h1
              simp only [List.nil_append, List.cons_append, Given]
              rintro _ rfl
              go_wp2_with fail
              exact Post.isv (Ext.refl _) rfl rfl rfl
            -- 9: Op.fieldAddr 35 t1 1   [guarded: some (8, false)]
            apply Stage.step (Is _) [false, false, false, false, false, false, false, false, true] (Is.keeps _) (by kernel_rfl)
            · intro w1 h1
              simp only [List.nil_append, List.cons_append, Given]
              rintro _ rfl
              go_wp2_with fail
              exact Post.isv (Ext.refl _) rfl rfl rfl
            -- 10: Op.load 33 t20   [guarded: some (8, false)]
            apply Stage.step (Is _) [false, false, false, false, false, false, false, false, true, true] (Is.keeps _) (by kernel_rfl)
            · intro w1 h1
              simp only [List.nil_append, List.cons_append, Given]
              rintro _ rfl
              rintro _ rfl
              have hq := h1.cell s1
              have hq2 := h1.cell s1
              go_wp2_with fail
              exact Post.isv (Ext.refl _) rfl rfl rfl
            -- 11: Op.move t3   [guarded: some (8, false)]
            apply Stage.step (Is _) [false, false, false, false, false, false, false, false, true] (Is.keeps _) (by kernel_rfl)
            · intro w1 h1
              simp only [List.nil_append, List.cons_append, Given]
              rintro _ rfl
              go_wp2_with fail
              exact Post.isv (Ext.refl _) rfl rfl rfl
            -- 12: Op.indexAddr 33 t21 t22   [guarded: some (8, false)]
            apply Stage.step (Is _) [false, false, false, false, false, false, false, false, true, false, true, true] (Is.keeps _) (by kernel_rfl)
            · intro w1 h1
              simp only [List.nil_append, List.cons_append, Given]
              rintro _ rfl
              rintro _ rfl
              rintro _ rfl
              go_wp2_with fail
              exact Post.isv (Ext.refl _) rfl rfl rfl
            -- 13: Op.fieldAddr 42 t23 1   [guarded: some (8, false)]
            apply Stage.step (Is _) [false, false, false, false, false, false, false, false, true, false, false, false, true] (Is.keeps _) (by kernel_rfl)
            · intro w1 h1
              simp only [List.nil_append, List.cons_append, Given]
              rintro _ rfl
              rintro _ rfl
              go_wp2_with fail
              exact Post.isv (Ext.refl _) rfl rfl rfl
            -- 14: Op.load 22 t24   [guarded: some (8, false)]
            apply Stage.step (Is _) [false, false, false, false, false, false, false, false, true, false, false, false, false, true] (Is.keeps _) (by kernel_rfl)
            · intro w1 h1
              simp only [List.nil_append, List.cons_append, Given]
              rintro _ rfl
              rintro _ rfl
              have hq := h1.cell a1
              have hq2 := h1.cell s1
              go_wp2_with fail
              exact Post.isv (Ext.refl _) rfl rfl rfl
            -- 15: Op.call { builtin len, args := #[t25], argTypes := #[22] }   [guarded: some (8, false)]
            apply Stage.step (Is _) [false, false, false, false, false, false, false, false, true, false, false, false, false, false, true] (Is.keeps _) (by kernel_rfl)
            · intro w1 h1
              simp only [List.nil_append, List.cons_append, Given]
              rintro _ rfl
              rintro _ rfl
              go_wp2_with fail
              exact Post.isv (Ext.refl _) rfl rfl rfl
            -- 16: Op.binOp BinOp.gtr 3 t26 (const (512:i64)) 3   [guarded: some (8, false)]
            apply Stage.step (Is _) [false, false, false, false, false, false, false, false, true, false, false, false, false, false, false, true] (Is.keeps _) (by kernel_rfl)
            · intro w1 h1
              simp only [List.nil_append, List.cons_append, Given]
              rintro _ rfl
              rintro _ rfl
              go_wp2_with fail
              exact Post.isv (Ext.refl _) rfl rfl rfl
            -- 17: Op.pick t19 (const (Value.bool true)) t27
            apply Stage.step (Is _) [false, false, false, false, false, false, false, false, true, false, false, false, false, false, false, false, true] (Is.keeps _) (by kernel_rfl)
            · intro w1 h1
              simp only [List.nil_append, List.cons_append, Given]
              rintro _ rfl
              rintro _ rfl
              go_wp2_with fail
              exact Post.isv (Ext.refl _) rfl rfl rfl
            -- 18: Op.move t28
            apply Stage.step (Is _) [false, false, false, false, false, false, false, false, false, false, false, false, false, false, false, false, false, true] (Is.keeps _) (by kernel_rfl)
            · intro w1 h1
              simp only [List.nil_append, List.cons_append, Given]
              rintro _ rfl
              go_wp2_with fail
              exact Post.isv (Ext.refl _) rfl rfl rfl
            -- 19: Op.load 35 t1   [guarded: some (18, false)]
            apply Stage.step (Is _) [false, false, false, false, false, false, false, false, false, false, false, false, false, false, false, false, false, false, true] (Is.keeps _) (by kernel_rfl)
            · intro w1 h1
              simp only [List.nil_append, List.cons_append, Given]
              rintro _ rfl
              have hq := h1.cell s0
              have hq2 := h1.cell s1
              go_wp2_with fail
              exact Post.isv (Ext.refl _) rfl rfl rfl
            -- 20: Op.fieldAddr 35 t1 1   [guarded: some (18, false)]
            apply Stage.step (Is _) [false, false, false, false, false, false, false, false, false, false, false, false, false, false, false, false, false, false, true] (Is.keeps _) (by kernel_rfl)
            · intro w1 h1
              simp only [List.nil_append, List.cons_append, Given]
              rintro _ rfl
              go_wp2_with fail
              exact Post.isv (Ext.refl _) rfl rfl rfl
            -- 21: Op.load 33 t31   [guarded: some (18, false)]
            apply Stage.step (Is _) [false, false, false, false, false, false, false, false, false, false, false, false, false, false, false, false, false, false, true, false, true] (Is.keeps _) (by kernel_rfl)
            · intro w1 h1
              simp only [List.nil_append, List.cons_append, Given]
              rintro _ rfl
              rintro _ rfl
              have hq := h1.cell s1
              have hq2 := h1.cell s1
              go_wp2_with fail
              exact Post.isv (Ext.refl _) rfl rfl rfl
            -- 22: Op.move t3   [guarded: some (18, false)]
            apply Stage.step (Is _) [false, false, false, false, false, false, false, false, false, false, false, false, false, false, false, false, false, false, true] (Is.keeps _) (by kernel_rfl)
            · intro w1 h1
              simp only [List.nil_append, List.cons_append, Given]
              rintro _ rfl
              go_wp2_with fail
              exact Post.isv (Ext.refl _) rfl rfl rfl
            -- 23: Op.indexAddr 33 t32 t33   [guarded: some (18, false)]
            apply Stage.step (Is _) [false, false, false, false, false, false, false, false, false, false, false, false, false, false, false, false, false, false, true, false, false, true, true] (Is.keeps _) (by kernel_rfl)
            · intro w1 h1
              simp only [List.nil_append, List.cons_append, Given]
              rintro _ rfl
              rintro _ rfl
              rintro _ rfl
              go_wp2_with fail
              exact Post.isv (Ext.refl _) rfl rfl rfl
            -- 24: Op.fieldAddr 42 t34 0   [guarded: some (18, false)]
            apply Stage.step (Is _) [false, false, false, false, false, false, false, false, false, false, false, false, false, false, false, false, false, false, true, false, false, false, false, true] (Is.keeps _) (by kernel_rfl)
            · intro w1 h1
              simp only [List.nil_append, List.cons_append, Given]
              rintro _ rfl
              rintro _ rfl
              go_wp2_with fail
              exact Post.isv (Ext.refl _) rfl rfl rfl
            -- 25: Op.load 9 t35   [guarded: some (18, false)]
            apply Stage.step (Is _) [false, false, false, false, false, false, false, false, false, false, false, false, false, false, false, false, false, false, true, false, false, false, false, false, true] (Is.keeps _) (by kernel_rfl)
            · intro w1 h1
              simp only [List.nil_append, List.cons_append, Given]
              rintro _ rfl
              rintro _ rfl
              have hq := h1.cell a0
              have hq2 := h1.cell s1
              go_wp2_with fail
              exact Post.isv (Ext.refl _) rfl rfl rfl
            -- 26: Op.call { value (Operand.func 78), args := #[t30, t36], argTypes := #[35, 9] }   [guarded: some (18,
            apply Stage.step (Is _) [false, false, false, false, false, false, false, false, false, false, false, false, false, false, false, false, false, false, true, true, false, false, false, false, false, true] (Is.keeps _) (by kernel_rfl)
            · intro w1 h1
              simp only [List.nil_append, List.cons_append, Given]
              rintro _ rfl
              rintro _ rfl
              rintro _ rfl
              go_wp2_with fail
              refine (ref_Find (hgt.ext h1) HF).mono ?_
              rintro e w3 ⟨rfl, h3⟩
              go_wp2_with fail
              exact Post.isv h3 rfl rfl rfl
            -- 27: Op.move t3   [guarded: some (18, false)]
            apply Stage.step (Is _) [false, false, false, false, false, false, false, false, false, false, false, false, false, false, false, false, false, false, true] (Is.keeps _) (by kernel_rfl)
            · intro w1 h1
              simp only [List.nil_append, List.cons_append, Given]
              rintro _ rfl
              go_wp2_with fail
              exact Post.isv (Ext.refl _) rfl rfl rfl
            -- 28: Op.binOp BinOp.neq 3 t37 t38 3   [guarded: some (18, false)]
            apply Stage.step (Is _) [false, false, false, false, false, false, false, false, false, false, false, false, false, false, false, false, false, false, true, false, false, false, false, false, false, false, true, true] (Is.keeps _) (by kernel_rfl)
            · intro w1 h1
              simp only [List.nil_append, List.cons_append, Given]
              rintro _ rfl
              rintro _ rfl
              rintro _ rfl
              go_wp2_with fail
              exact Post.isv (Ext.refl _) rfl rfl rfl
            -- 29: Op.pick t29 (const (Value.bool true)) t39
            apply Stage.step (Is _) [false, false, false, false, false, false, false, false, false, false, false, false, false, false, false, false, false, false, true, false, false, false, false, false, false, false, false, false, true] (Is.keeps _) (by kernel_rfl)
            · intro w1 h1
              simp only [List.nil_append, List.cons_append, Given]
              rintro _ rfl
              rintro _ rfl
              go_wp2_with fail
              exact Post.isv (Ext.refl _) rfl rfl rfl
            apply Stage.nil
            intro w1 h1
            simp only [List.nil_append, List.cons_append]
            refine Fin.is_ ?_
            refine Fin.is_ ?_
            refine Fin.is_ ?_
            refine Fin.is_ ?_
            refine Fin.is_ ?_
            refine Fin.is_ ?_
            refine Fin.is_ ?_
            refine Fin.is_ ?_
            refine Fin.is_ ?_
            refine Fin.is_ ?_
            refine Fin.is_ ?_
            refine Fin.is_ ?_
            refine Fin.is_ ?_
            refine Fin.is_ ?_
            refine Fin.is_ ?_
            refine Fin.is_ ?_
            refine Fin.is_ ?_
            refine Fin.is_ ?_
            refine Fin.is_ ?_
            refine Fin.is_ ?_
            refine Fin.is_ ?_
            refine Fin.is_ ?_
            refine Fin.is_ ?_
            refine Fin.is_ ?_
            refine Fin.is_ ?_
            refine Fin.is_ ?_
            refine Fin.is_ ?_
            refine Fin.is_ ?_
            refine Fin.is_ ?_
            refine Fin.is_ ?_
            refine Fin.nil_ ?_
            go_simp
            go_wp2_with fail
            go_ret
            exact ⟨rfl, gxr.trans h1⟩
          | false =>
            obtain rfl : false = r := by rw [← hr.out]; exact (rightS_no HX.out (by rw [hob]; simp [*])).symm
            clear hob hok hr
            go_wp2_with fail
            refine wp_region_typed Ext.steady rfl 51 rfl (by kernel_rfl) ?_
            -- 0: Op.fieldAddr 35 t1 1
            apply Stage.step (Is _) [] (Is.keeps _) (by kernel_rfl)
            · intro w1 h1
              simp only [Given]
              go_wp2_with fail
              exact Post.isv (Ext.refl _) rfl rfl rfl
            -- 1: Op.load 33 t11
            apply Stage.step (Is _) [true] (Is.keeps _) (by kernel_rfl)
            · intro w1 h1
              simp only [List.nil_append, Given]
              rintro _ rfl
              have hq := h1.cell s1
              go_wp2_with fail
              exact Post.isv (Ext.refl _) rfl rfl rfl
            -- 2: Op.move t3
            apply Stage.step (Is _) [] (Is.keeps _) (by kernel_rfl)
            · intro w1 h1
              simp only [Given]
              go_wp2_with fail
              exact Post.isv (Ext.refl _) rfl rfl rfl
            -- 3: Op.indexAddr 33 t12 t13
            apply Stage.step (Is _) [false, true, true] (Is.keeps _) (by kernel_rfl)
            · intro w1 h1
              simp only [List.nil_append, List.cons_append, Given]
              rintro _ rfl
              rintro _ rfl
              go_wp2_with fail
              exact Post.isv (Ext.refl _) rfl rfl rfl
            -- 4: Op.fieldAddr 42 t14 0
            apply Stage.step (Is _) [false, false, false, true] (Is.keeps _) (by kernel_rfl)
            · intro w1 h1
              simp only [List.nil_append, List.cons_append, Given]
              rintro _ rfl
              go_wp2_with fail
              exact Post.isv (Ext.refl _) rfl rfl rfl
            -- 5: Op.load 9 t15
            apply Stage.step (Is _) [false, false, false, false, true] (Is.keeps _) (by kernel_rfl)
            · intro w1 h1
              simp only [List.nil_append, List.cons_append, Given]
              rintro _ rfl
              have hq := h1.cell a0
              go_wp2_with fail
              exact Post.isv (Ext.refl _) rfl rfl rfl
            -- 6: Op.call { value (Operand.func 46), args := #[t16], argTypes := #[9] }
            apply Stage.step (Is _) [false, false, false, false, false, true] (Is.keeps _) (by kernel_rfl)
            · intro w1 h1
              simp only [List.nil_append, List.cons_append, Given]
              rintro _ rfl
              go_wp2_with fail
              refine (ref_Name xn _ hs1).mono ?_
              rintro e w3 ⟨rfl, rfl⟩
              rw [HB.out]
              go_wp2_with fail
              exact Post.isv (Ext.refl _) rfl rfl rfl
            -- 7: Op.unOp UnOp.not 4 t17
            apply Stage.step (Is _) [false, false, false, false, false, false, true] (Is.keeps _) (by kernel_rfl)
            · intro w1 h1
              simp only [List.nil_append, List.cons_append, Given]
              rintro _ rfl
              go_wp2_with fail
              exact Post.isv (Ext.refl _) rfl rfl rfl
            -- 8: Op.move t18
            apply Stage.step (Is _) [false, false, false, false, false, false, false, true] (Is.keeps _) (by kernel_rfl)
            · intro w1 h1
              simp only [List.nil_append, List.cons_append, Given]
              rintro _ rfl
              go_wp2_with fail
              exact Post.isv (Ext.refl _) rfl rfl rfl
            -- 9: Op.fieldAddr 35 t1 1   [guarded: some (8, false)]
            apply Stage.step (Is _) [false, false, false, false, false, false, false, false, true] (Is.keeps _) (by kernel_rfl)
            · intro w1 h1
              simp only [List.nil_append, List.cons_append, Given]
              rintro _ rfl
              go_wp2_with fail
              exact Post.isv (Ext.refl _) rfl rfl rfl
            -- 10: Op.load 33 t20   [guarded: some (8, false)]
            apply Stage.step (Is _) [false, false, false, false, false, false, false, false, true, true] (Is.keeps _) (by kernel_rfl)
            · intro w1 h1
              simp only [List.nil_append, List.cons_append, Given]
              rintro _ rfl
              rintro _ rfl
              have hq := h1.cell s1
              have hq2 := h1.cell s1
              go_wp2_with fail
              exact Post.isv (Ext.refl _) rfl rfl rfl
            -- 11: Op.move t3   [guarded: some (8, false)]
            apply Stage.step (Is _) [false, false, false, false, false, false, false, false, true] (Is.keeps _) (by kernel_rfl)
            · intro w1 h1
              simp only [List.nil_append, List.cons_append, Given]
              rintro _ rfl
              go_wp2_with fail
              exact Post.isv (Ext.refl _) rfl rfl rfl
            -- 12: Op.indexAddr 33 t21 t22   [guarded: some (8, false)]
            apply Stage.step (Is _) [false, false, false, false, false, false, false, false, true, false, true, true] (Is.keeps _) (by kernel_rfl)
            · intro w1 h1
              simp only [List.nil_append, List.cons_append, Given]
              rintro _ rfl
              rintro _ rfl
              rintro _ rfl
              go_wp2_with fail
              exact Post.isv (Ext.refl _) rfl rfl rfl
            -- 13: Op.fieldAddr 42 t23 1   [guarded: some (8, false)]
            apply Stage.step (Is _) [false, false, false, false, false, false, false, false, true, false, false, false, true] (Is.keeps _) (by kernel_rfl)
            · intro w1 h1
              simp only [List.nil_append, List.cons_append, Given]
              rintro _ rfl
              rintro _ rfl
              go_wp2_with fail
              exact Post.isv (Ext.refl _) rfl rfl rfl
            -- 14: Op.load 22 t24   [guarded: some (8, false)]
            apply Stage.step (Is _) [false, false, false, false, false, false, false, false, true, false, false, false, false, true] (Is.keeps _) (by kernel_rfl)
            · intro w1 h1
              simp only [List.nil_append, List.cons_append, Given]
              rintro _ rfl
              rintro _ rfl
              have hq := h1.cell a1
              have hq2 := h1.cell s1
              go_wp2_with fail
              exact Post.isv (Ext.refl _) rfl rfl rfl
            -- 15: Op.call { builtin len, args := #[t25], argTypes := #[22] }   [guarded: some (8, false)]
            apply Stage.step (Is _) [false, false, false, false, false, false, false, false, true, false, false, false, false, false, true] (Is.keeps _) (by kernel_rfl)
            · intro w1 h1
              simp only [List.nil_append, List.cons_append, Given]
              rintro _ rfl
              rintro _ rfl
              go_wp2_with fail
              exact Post.isv (Ext.refl _) rfl rfl rfl
            -- 16: Op.binOp BinOp.gtr 3 t26 (const (512:i64)) 3   [guarded: some (8, false)]
            apply Stage.step (Is _) [false, false, false, false, false, false, false, false, true, false, false, false, false, false, false, true] (Is.keeps _) (by kernel_rfl)
            · intro w1 h1
              simp only [List.nil_append, List.cons_append, Given]
              rintro _ rfl
              rintro _ rfl
              go_wp2_with fail
              exact Post.isv (Ext.refl _) rfl rfl rfl
            -- 17: Op.pick t19 (const (Value.bool true)) t27
            apply Stage.step (Is _) [false, false, false, false, false, false, false, false, true, false, false, false, false, false, false, false, true] (Is.keeps _) (by kernel_rfl)
            · intro w1 h1
              simp only [List.nil_append, List.cons_append, Given]
              rintro _ rfl
              rintro _ rfl
              go_wp2_with fail
              exact Post.isv (Ext.refl _) rfl rfl rfl
            -- 18: Op.move t28
            apply Stage.step (Is _) [false, false, false, false, false, false, false, false, false, false, false, false, false, false, false, false, false, true] (Is.keeps _) (by kernel_rfl)
            · intro w1 h1
              simp only [List.nil_append, List.cons_append, Given]
              rintro _ rfl
              go_wp2_with fail
              exact Post.isv (Ext.refl _) rfl rfl rfl
            -- 19: Op.load 35 t1   [guarded: some (18, false)]
            apply Stage.step (Is _) [false, false, false, false, false, false, false, false, false, false, false, false, false, false, false, false, false, false, true] (Is.keeps _) (by kernel_rfl)
            · intro w1 h1
              simp only [List.nil_append, List.cons_append, Given]
              rintro _ rfl
              have hq := h1.cell s0
              have hq2 := h1.cell s1
              go_wp2_with fail
              exact Post.isv (Ext.refl _) rfl rfl rfl
            -- 20: Op.fieldAddr 35 t1 1   [guarded: some (18, false)]
            apply Stage.step (Is _) [false, false, false, false, false, false, false, false, false, false, false, false, false, false, false, false, false, false, true] (Is.keeps _) (by kernel_rfl)
            · intro w1 h1
              simp only [List.nil_append, List.cons_append, Given]
              rintro _ rfl
              go_wp2_with fail
              exact Post.isv (Ext.refl _) rfl rfl rfl
            -- 21: Op.load 33 t31   [guarded: some (18, false)]
            apply Stage.step (Is _) [false, false, false, false, false, false, false, false, false, false, false, false, false, false, false, false, false, false, true, false, true] (Is.keeps _) (by kernel_rfl)
            · intro w1 h1
              simp only [List.nil_append, List.cons_append, Given]
              rintro _ rfl
              rintro _ rfl
              have hq := h1.cell s1
              have hq2 := h1.cell s1
              go_wp2_with fail
              exact Post.isv (Ext.refl _) rfl rfl rfl
            -- 22: Op.move t3   [guarded: some (18, false)]
            apply Stage.step (Is _) [false, false, false, false, false, false, false, false, false, false, false, false, false, false, false, false, false, false, true] (Is.keeps _) (by kernel_rfl)
            · intro w1 h1
              simp only [List.nil_append, List.cons_append, Given]
              rintro _ rfl
              go_wp2_with fail
              exact Post.isv (Ext.refl _) rfl rfl rfl
            -- 23: Op.indexAddr 33 t32 t33   [guarded: some (18, false)]
            apply Stage.step (Is _) [false, false, false, false, false, false, false, false, false, false, false, false, false, false, false, false, false, false, true, false, false, true, true] (Is.keeps _) (by kernel_rfl)
            · intro w1 h1
              simp only [List.nil_append, List.cons_append, Given]
              rintro _ rfl
              rintro _ rfl
              rintro _ rfl
              go_wp2_with fail
              exact Post.isv (Ext.refl _) rfl rfl rfl
            -- 24: Op.fieldAddr 42 t34 0   [guarded: some (18, false)]
            apply Stage.step (Is _) [false, false, false, false, false, false, false, false, false, false, false, false, false, false, false, false, false, false, true, false, false, false, false, true] (Is.keeps _) (by kernel_rfl)
            · intro w1 h1
              simp only [List.nil_append, List.cons_append, Given]
              rintro _ rfl
              rintro _ rfl
              go_wp2_with fail
              exact Post.isv (Ext.refl _) rfl rfl rfl
            -- 25: Op.load 9 t35   [guarded: some (18, false)]
            apply Stage.step (Is _) [false, false, false, false, false, false, false, false, false, false, false, false, false, false, false, false, false, false, true, false, false, false, false, false, true] (Is.keeps _) (by kernel_rfl)
            · intro w1 h1
              simp only [List.nil_append, List.cons_append, Given]
              rintro _ rfl
              rintro _ rfl
              have hq := h1.cell a0
              have hq2 := h1.cell s1
              go_wp2_with fail
              exact Post.isv (Ext.refl _) rfl rfl rfl
            -- 26: Op.call { value (Operand.func 78), args := #[t30, t36], argTypes := #[35, 9] }   [guarded: some (18,
            apply Stage.step (Is _) [false, false, false, false, false, false, false, false, false, false, false, false, false, false, false, false, false, false, true, true, false, false, false, false, false, true] (Is.keeps _) (by kernel_rfl)
            · intro w1 h1
              simp only [List.nil_append, List.cons_append, Given]
              rintro _ rfl
              rintro _ rfl
              rintro _ rfl
              go_wp2_with fail
              exact Post.isv (Ext.refl _) rfl rfl rfl
            -- 27: Op.move t3   [guarded: some (18, false)]
            apply Stage.step (Is _) [false, false, false, false, false, false, false, false, false, false, false, false, false, false, false, false, false, false, true] (Is.keeps _) (by kernel_rfl)
            · intro w1 h1
              simp only [List.nil_append, List.cons_append, Given]
              rintro _ rfl
              go_wp2_with fail
              exact Post.isv (Ext.refl _) rfl rfl rfl
            -- 28: Op.binOp BinOp.neq 3 t37 t38 3   [guarded: some (18, false)]
            apply Stage.step (Is _) [false, false, false, false, false, false, false, false, false, false, false, false, false, false, false, false, false, false, true, false, false, false, false, false, false, false, true, true] (Is.keeps _) (by kernel_rfl)
            · intro w1 h1
              simp only [List.nil_append, List.cons_append, Given]
              rintro _ rfl
              rintro _ rfl
              rintro _ rfl
              go_wp2_with fail
              exact Post.isv (Ext.refl _) rfl rfl rfl
            -- 29: Op.pick t29 (const (Value.bool true)) t39
            apply Stage.step (Is _) [false, false, false, false, false, false, false, false, false, false, false, false, false, false, false, false, false, false, true, false, false, false, false, false, false, false, false, false, true] (Is.keeps _) (by kernel_rfl)
            · intro w1 h1
              simp only [List.nil_append, List.cons_append, Given]
              rintro _ rfl
              rintro _ rfl
              go_wp2_with fail
              exact Post.isv (Ext.refl _) rfl rfl rfl
            apply Stage.nil
            intro w1 h1
            simp only [List.nil_append, List.cons_append]
            refine Fin.is_ ?_
            refine Fin.is_ ?_
            refine Fin.is_ ?_
            refine Fin.is_ ?_
            refine Fin.is_ ?_
            refine Fin.is_ ?_
            refine Fin.is_ ?_
            refine Fin.is_ ?_
            refine Fin.is_ ?_
            refine Fin.is_ ?_
            refine Fin.is_ ?_
            refine Fin.is_ ?_
            refine Fin.is_ ?_
            refine Fin.is_ ?_
            refine Fin.is_ ?_
            refine Fin.is_ ?_
            refine Fin.is_ ?_
            refine Fin.is_ ?_
            refine Fin.is_ ?_
            refine Fin.is_ ?_
            refine Fin.is_ ?_
            refine Fin.is_ ?_
            refine Fin.is_ ?_
            refine Fin.is_ ?_
            refine Fin.is_ ?_
            refine Fin.is_ ?_
            refine Fin.is_ ?_
            refine Fin.is_ ?_
            refine Fin.is_ ?_
            refine Fin.is_ ?_
            refine Fin.nil_ ?_
            go_simp
            go_wp2_with fail
            go_ret
            exact ⟨rfl, gxr.trans h1⟩
      · have d2 : decide (512 < nd) = true := by simp; omega
        have d2i : decide ((512 : Int) < (nd : Int)) = true := by simp; omega
        cases b with
        | true =>
          obtain rfl : false = r := by rw [← hr.out]; exact (rightS_no HX.out (by rw [hob]; simp [*])).symm
          clear hob hok hr
          go_wp2_with fail
          refine wp_region_typed Ext.steady rfl 51 rfl (by kernel_rfl) ?_
          -- 0: Op.fieldAddr 35 t1 1
          apply Stage.step (Is _) [] (Is.keeps _) (by kernel_rfl)
          · intro w1 h1
            simp only [Given]
            go_wp2_with fail
            exact Post.isv (Ext.refl _) rfl rfl rfl
          -- 1: Op.load 33 t11
          apply Stage.step (Is _) [true] (Is.keeps _) (by kernel_rfl)
          · intro w1 h1
            simp only [List.nil_append, Given]
            rintro _ rfl
            have hq := h1.cell s1
            go_wp2_with fail
            exact Post.isv (Ext.refl _) rfl rfl rfl
          -- 2: Op.move t3
          apply Stage.step (Is _) [] (Is.keeps _) (by kernel_rfl)
          · intro w1 h1
            simp only [Given]
            go_wp2_with fail
            exact Post.isv (Ext.refl _) rfl rfl rfl
          -- 3: Op.indexAddr 33 t12 t13
          apply Stage.step (Is _) [false, true, true] (Is.keeps _) (by kernel_rfl)
          · intro w1 h1
            simp only [List.nil_append, List.cons_append, Given]
            rintro _ rfl
            rintro _ rfl
            go_wp2_with fail
            exact Post.isv (Ext.refl _) rfl rfl rfl
          -- 4: Op.fieldAddr 42 t14 0
          apply Stage.step (Is _) [false, false, false, true] (Is.keeps _) (by kernel_rfl)
          · intro w1 h1
            simp only [List.nil_append, List.cons_append, Given]
            rintro _ rfl
            go_wp2_with fail
            exact Post.isv (Ext.refl _) rfl rfl rfl
          -- 5: Op.load 9 t15
          apply Stage.step (Is _) [false, false, false, false, true] (Is.keeps _) (by kernel_rfl)
          · intro w1 h1
            simp only [List.nil_append, List.cons_append, Given]
            rintro _ rfl
            have hq := h1.cell a0
            go_wp2_with fail
            exact Post.isv (Ext.refl _) rfl rfl rfl
          -- 6: Op.call { value (Operand.func 46), args := #[t16], argTypes := #[9] }
          apply Stage.step (Is _) [false, false, false, false, false, true] (Is.keeps _) (by kernel_rfl)
          · intro w1 h1
            simp only [List.nil_append, List.cons_append, Given]
            rintro _ rfl
            go_wp2_with fail
            refine (ref_Name xn _ hs1).mono ?_
            rintro e w3 ⟨rfl, rfl⟩
            rw [HB.out]
            go_wp2_with fail
            exact Post.isv (Ext.refl _) rfl rfl rfl
          -- 7: Op.unOp UnOp.not 4 t17
          apply Stage.step (Is _) [false, false, false, false, false, false, true] (Is.keeps _) (by kernel_rfl)
          · intro w1 h1
            simp only [List.nil_append, List.cons_append, Given]
            rintro _ rfl
            go_wp2_with fail
            exact Post.isv (Ext.refl _) rfl rfl rfl
          -- 8: Op.move t18
          apply Stage.step (Is _) [false, false, false, false, false, false, false, true] (Is.keeps _) (by kernel_rfl)
          · intro w1 h1
            simp only [List.nil_append, List.cons_append, Given]
            rintro _ rfl
            go_wp2_with fail
            exact Post.isv (Ext.refl _) rfl rfl rfl
          -- 9: Op.fieldAddr 35 t1 1   [guarded: some (8, false)]
          apply Stage.step (Is _) [false, false, false, false, false, false, false, false, true] (Is.keeps _) (by kernel_rfl)
          · intro w1 h1
            simp only [List.nil_append, List.cons_append, Given]
            rintro _ rfl
            go_wp2_with fail
            exact Post.isv (Ext.refl _) rfl rfl rfl
          -- 10: Op.load 33 t20   [guarded: some (8, false)]
          apply Stage.step (Is _) [false, false, false, false, false, false, false, false, true, true] (Is.keeps _) (by kernel_rfl)
          · intro w1 h1
            simp only [List.nil_append, List.cons_append, Given]
            rintro _ rfl
            rintro _ rfl
            have hq := h1.cell s1
            have hq2 := h1.cell s1
            go_wp2_with fail
            exact Post.isv (Ext.refl _) rfl rfl rfl
          -- 11: Op.move t3   [guarded: some (8, false)]
          apply Stage.step (Is _) [false, false, false, false, false, false, false, false, true] (Is.keeps _) (by kernel_rfl)
          · intro w1 h1
            simp only [List.nil_append, List.cons_append, Given]
            rintro _ rfl
            go_wp2_with fail
            exact Post.isv (Ext.refl _) rfl rfl rfl
          -- 12: Op.indexAddr 33 t21 t22   [guarded: some (8, false)]
          apply Stage.step (Is _) [false, false, false, false, false, false, false, false, true, false, true, true] (Is.keeps _) (by kernel_rfl)
          · intro w1 h1
            simp only [List.nil_append, List.cons_append, Given]
            rintro _ rfl
            rintro _ rfl
            rintro _ rfl
            go_wp2_with fail
            exact Post.isv (Ext.refl _) rfl rfl rfl
          -- 13: Op.fieldAddr 42 t23 1   [guarded: some (8, false)]
          apply Stage.step (Is _) [false, false, false, false, false, false, false, false, true, false, false, false, true] (Is.keeps _) (by kernel_rfl)
          · intro w1 h1
            simp only [List.nil_append, List.cons_append, Given]
            rintro _ rfl
            rintro _ rfl
            go_wp2_with fail
            exact Post.isv (Ext.refl _) rfl rfl rfl
          -- 14: Op.load 22 t24   [guarded: some (8, false)]
          apply Stage.step (Is _) [false, false, false, false, false, false, false, false, true, false, false, false, false, true] (Is.keeps _) (by kernel_rfl)
          · intro w1 h1
            simp only [List.nil_append, List.cons_append, Given]
            rintro _ rfl
            rintro _ rfl
            have hq := h1.cell a1
            have hq2 := h1.cell s1
            go_wp2_with fail
            exact Post.isv (Ext.refl _) rfl rfl rfl
          -- 15: Op.call { builtin len, args := #[t25], argTypes := #[22] }   [guarded: some (8, false)]
          apply Stage.step (Is _) [false, false, false, false, false, false, false, false, true, false, false, false, false, false, true] (Is.keeps _) (by kernel_rfl)
          · intro w1 h1
            simp only [List.nil_append, List.cons_append, Given]
            rintro _ rfl
            rintro _ rfl
            go_wp2_with fail
            exact Post.isv (Ext.refl _) rfl rfl rfl
          -- 16: Op.binOp BinOp.gtr 3 t26 (const (512:i64)) 3   [guarded: some (8, false)]
          apply Stage.step (Is _) [false, false, false, false, false, false, false, false, true, false, false, false, false, false, false, true] (Is.keeps _) (by kernel_rfl)
          · intro w1 h1
            simp only [List.nil_append, List.cons_append, Given]
            rintro _ rfl
            rintro _ rfl
            go_wp2_with fail
            exact Post.isv (Ext.refl _) rfl rfl rfl
          -- 17: Op.pick t19 (const (Value.bool true)) t27
          apply Stage.step (Is _) [false, false, false, false, false, false, false, false, true, false, false, false, false, false, false, false, true] (Is.keeps _) (by kernel_rfl)
          · intro w1 h1
            simp only [List.nil_append, List.cons_append, Given]
            rintro _ rfl
            rintro _ rfl
            go_wp2_with fail
            exact Post.isv (Ext.refl _) rfl rfl rfl
          -- 18: Op.move t28
          apply Stage.step (Is _) [false, false, false, false, false, false, false, false, false, false, false, false, false, false, false, false, false, true] (Is.keeps _) (by kernel_rfl)
          · intro w1 h1
            simp only [List.nil_append, List.cons_append, Given]
            rintro _ rfl
            go_wp2_with fail
            exact Post.isv (Ext.refl _) rfl rfl rfl
          -- 19: Op.load 35 t1   [guarded: some (18, false)]
          apply Stage.step (Is _) [false, false, false, false, false, false, false, false, false, false, false, false, false, false, false, false, false, false, true] (Is.keeps _) (by kernel_rfl)
          · intro w1 h1
            simp only [List.nil_append, List.cons_append, Given]
            rintro _ rfl
            have hq := h1.cell s0
            have hq2 := h1.cell s1
            go_wp2_with fail
            exact Post.isv (Ext.refl _) rfl rfl rfl
          -- 20: Op.fieldAddr 35 t1 1   [guarded: some (18, false)]
          apply Stage.step (Is _) [false, false, false, false, false, false, false, false, false, false, false, false, false, false, false, false, false, false, true] (Is.keeps _) (by kernel_rfl)
          · intro w1 h1
            simp only [List.nil_append, List.cons_append, Given]
            rintro _ rfl
            go_wp2_with fail
            exact Post.isv (Ext.refl _) rfl rfl rfl
          -- 21: Op.load 33 t31   [guarded: some (18, false)]
          apply Stage.step (Is _) [false, false, false, false, false, false, false, false, false, false, false, false, false, false, false, false, false, false, true, false, true] (Is.keeps _) (by kernel_rfl)
          · intro w1 h1
            simp only [List.nil_append, List.cons_append, Given]
            rintro _ rfl
            rintro _ rfl
            have hq := h1.cell s1
            have hq2 := h1.cell s1
            go_wp2_with fail
            exact Post.isv (Ext.refl _) rfl rfl rfl
          -- 22: Op.move t3   [guarded: some (18, false)]
          apply Stage.step (Is _) [false, false, false, false, false, false, false, false, false, false, false, false, false, false, false, false, false, false, true] (Is.keeps _) (by kernel_rfl)
          · intro w1 h1
            simp only [List.nil_append, List.cons_append, Given]
            rintro _ rfl
            go_wp2_with fail
            exact Post.isv (Ext.refl _) rfl rfl rfl
          -- 23: Op.indexAddr 33 t32 t33   [guarded: some (18, false)]
          apply Stage.step (Is _) [false, false, false, false, false, false, false, false, false, false, false, false, false, false, false, false, false, false, true, false, false, true, true] (Is.keeps _) (by kernel_rfl)
          · intro w1 h1
            simp only [List.nil_append, List.cons_append, Given]
            rintro _ rfl
            rintro _ rfl
            rintro _ rfl
            go_wp2_with fail
            exact Post.isv (Ext.refl _) rfl rfl rfl
          -- 24: Op.fieldAddr 42 t34 0   [guarded: some (18, false)]
          apply Stage.step (Is _) [false, false, false, false, false, false, false, false, false, false, false, false, false, false, false, false, false, false, true, false, false, false, false, true] (Is.keeps _) (by kernel_rfl)
          · intro w1 h1
            simp only [List.nil_append, List.cons_append, Given]
            rintro _ rfl
            rintro _ rfl
            go_wp2_with fail
            exact Post.isv (Ext.refl _) rfl rfl rfl
          -- 25: Op.load 9 t35   [guarded: some (18, false)]
          apply Stage.step (Is _) [false, false, false, false, false, false, false, false, false, false, false, false, false, false, false, false, false, false, true, false, false, false, false, false, true] (Is.keeps _) (by kernel_rfl)
          · intro w1 h1
            simp only [List.nil_append, List.cons_append, Given]
            rintro _ rfl
            rintro _ rfl
            have hq := h1.cell a0
            have hq2 := h1.cell s1
            go_wp2_with fail
            exact Post.isv (Ext.refl _) rfl rfl rfl
          -- 26: Op.call { value (Operand.func 78), args := #[t30, t36], argTypes := #[35, 9] }   [guarded: some (18,
          apply Stage.step (Is _) [false, false, false, false, false, false, false, false, false, false, false, false, false, false, false, false, false, false, true, true, false, false, false, false, false, true] (Is.keeps _) (by kernel_rfl)
          · intro w1 h1
            simp only [List.nil_append, List.cons_append, Given]
            rintro _ rfl
            rintro _ rfl
            rintro _ rfl
            go_wp2_with fail
            exact Post.isv (Ext.refl _) rfl rfl rfl
          -- 27: Op.move t3   [guarded: some (18, false)]
          apply Stage.step (Is _) [false, false, false, false, false, false, false, false, false, false, false, false, false, false, false, false, false, false, true] (Is.keeps _) (by kernel_rfl)
          · intro w1 h1
            simp only [List.nil_append, List.cons_append, Given]
            rintro _ rfl
            go_wp2_with fail
            exact Post.isv (Ext.refl _) rfl rfl rfl
          -- 28: Op.binOp BinOp.neq 3 t37 t38 3   [guarded: some (18, false)]
          apply Stage.step (Is _) [false, false, false, false, false, false, false, false, false, false, false, false, false, false, false, false, false, false, true, false, false, false, false, false, false, false, true, true] (Is.keeps _) (by kernel_rfl)
          · intro w1 h1
            simp only [List.nil_append, List.cons_append, Given]
            rintro _ rfl
            rintro _ rfl
            rintro _ rfl
            go_wp2_with fail
            exact Post.isv (Ext.refl _) rfl rfl rfl
          -- 29: Op.pick t29 (const (Value.bool true)) t39
          apply Stage.step (Is _) [false, false, false, false, false, false, false, false, false, false, false, false, false, false, false, false, false, false, true, false, false, false, false, false, false, false, false, false, true] (Is.keeps _) (by kernel_rfl)
          · intro w1 h1
            simp only [List.nil_append, List.cons_append, Given]
            rintro _ rfl
            rintro _ rfl
            go_wp2_with fail
            exact Post.isv (Ext.refl _) rfl rfl rfl
          apply Stage.nil
          intro w1 h1
          simp only [List.nil_append, List.cons_append]
          refine Fin.is_ ?_
          refine Fin.is_ ?_
          refine Fin.is_ ?_
          refine Fin.is_ ?_
          refine Fin.is_ ?_
          refine Fin.is_ ?_
          refine Fin.is_ ?_
          refine Fin.is_ ?_
          refine Fin.is_ ?_
          refine Fin.is_ ?_
          refine Fin.is_ ?_
          refine Fin.is_ ?_
          refine Fin.is_ ?_
          refine Fin.is_ ?_
          refine Fin.is_ ?_
          refine Fin.is_ ?_
          refine Fin.is_ ?_
          refine Fin.is_ ?_
          refine Fin.is_ ?_
          refine Fin.is_ ?_
          refine Fin.is_ ?_
          refine Fin.is_ ?_
          refine Fin.is_ ?_
          refine Fin.is_ ?_
          refine Fin.is_ ?_
          refine Fin.is_ ?_
          refine Fin.is_ ?_
          refine Fin.is_ ?_
          refine Fin.is_ ?_
          refine Fin.is_ ?_
          refine Fin.nil_ ?_
          go_simp
          go_wp2_with fail
          go_ret
          exact ⟨rfl, gxr.trans h1⟩
        | false =>
          obtain rfl : false = r := by rw [← hr.out]; exact (rightS_no HX.out (by rw [hob]; simp [*])).symm
          clear hob hok hr
          go_wp2_with fail
          refine wp_region_typed Ext.steady rfl 51 rfl (by kernel_rfl) ?_
          -- 0: Op.fieldAddr 35 t1 1
          apply Stage.step (Is _) [] (Is.keeps _) (by kernel_rfl)
          · intro w1 h1
            simp only [Given]
            go_wp2_with fail
            exact Post.isv (Ext.refl _) rfl rfl rfl
          -- 1: Op.load 33 t11
          apply Stage.step (Is _) [true] (Is.keeps _) (by kernel_rfl)
          · intro w1 h1
            simp only [List.nil_append, Given]
            rintro _ rfl
            have hq := h1.cell s1
            go_wp2_with fail
            exact Post.isv (Ext.refl _) rfl rfl rfl
          -- 2: Op.move t3
          apply Stage.step (Is _) [] (Is.keeps _) (by kernel_rfl)
          · intro w1 h1
            simp only [Given]
            go_wp2_with fail
            exact Post.isv (Ext.refl _) rfl rfl rfl
          -- 3: Op.indexAddr 33 t12 t13
          apply Stage.step (Is _) [false, true, true] (Is.keeps _) (by kernel_rfl)
          · intro w1 h1
            simp only [List.nil_append, List.cons_append, Given]
            rintro _ rfl
            rintro _ rfl
            go_wp2_with fail
            exact Post.isv (Ext.refl _) rfl rfl rfl
          -- 4: Op.fieldAddr 42 t14 0
          apply Stage.step (Is _) [false, false, false, true] (Is.keeps _) (by kernel_rfl)
          · intro w1 h1
            simp only [List.nil_append, List.cons_append, Given]
            rintro _ rfl
            go_wp2_with fail
            exact Post.isv (Ext.refl _) rfl rfl rfl
          -- 5: Op.load 9 t15
          apply Stage.step (Is _) [false, false, false, false, true] (Is.keeps _) (by kernel_rfl)
          · intro w1 h1
            simp only [List.nil_append, List.cons_append, Given]
            rintro _ rfl
            have hq := h1.cell a0
            go_wp2_with fail
            exact Post.isv (Ext.refl _) rfl rfl rfl
          -- 6: Op.call { value (Operand.func 46), args := #[t16], argTypes := #[9] }
          apply Stage.step (Is _) [false, false, false, false, false, true] (Is.keeps _) (by kernel_rfl)
          · intro w1 h1
            simp only [List.nil_append, List.cons_append, Given]
            rintro _ rfl
            go_wp2_with fail
            refine (ref_Name xn _ hs1).mono ?_
            rintro e w3 ⟨rfl, rfl⟩
            rw [HB.out]
            go_wp2_with fail
            exact Post.isv (Ext.refl _) rfl rfl rfl
          -- 7: Op.unOp UnOp.not 4 t17
          apply Stage.step (Is _) [false, false, false, false, false, false, true] (Is.keeps _) (by kernel_rfl)
          · intro w1 h1
            simp only [List.nil_append, List.cons_append, Given]
            rintro _ rfl
            go_wp2_with fail
            exact Post.isv (Ext.refl _) rfl rfl rfl
          -- 8: Op.move t18
          apply Stage.step (Is _) [false, false, false, false, false, false, false, true] (Is.keeps _) (by kernel_rfl)
          · intro w1 h1
            simp only [List.nil_append, List.cons_append, Given]
            rintro _ rfl
            go_wp2_with fail
            exact Post.isv (Ext.refl _) rfl rfl rfl
          -- 9: Op.fieldAddr 35 t1 1   [guarded: some (8, false)]
          apply Stage.step (Is _) [false, false, false, false, false, false, false, false, true] (Is.keeps _) (by kernel_rfl)
          · intro w1 h1
            simp only [List.nil_append, List.cons_append, Given]
            rintro _ rfl
            go_wp2_with fail
            exact Post.isv (Ext.refl _) rfl rfl rfl
          -- 10: Op.load 33 t20   [guarded: some (8, false)]
          apply Stage.step (Is _) [false, false, false, false, false, false, false, false, true, true] (Is.keeps _) (by kernel_rfl)
          · intro w1 h1
            simp only [List.nil_append, List.cons_append, Given]
            rintro _ rfl
            rintro _ rfl
            have hq := h1.cell s1
            have hq2 := h1.cell s1
            go_wp2_with fail
            exact Post.isv (Ext.refl _) rfl rfl rfl
          -- 11: Op.move t3   [guarded: some (8, false)]
          apply Stage.step (Is _) [false, false, false, false, false, false, false, false, true] (Is.keeps _) (by kernel_rfl)
          · intro w1 h1
            simp only [List.nil_append, List.cons_append, Given]
            rintro _ rfl
            go_wp2_with fail
            exact Post.isv (Ext.refl _) rfl rfl rfl
          -- 12: Op.indexAddr 33 t21 t22   [guarded: some (8, false)]
          apply Stage.step (Is _) [false, false, false, false, false, false, false, false, true, false, true, true] (Is.keeps _) (by kernel_rfl)
          · intro w1 h1
            simp only [List.nil_append, List.cons_append, Given]
            rintro _ rfl
            rintro _ rfl
            rintro _ rfl
            go_wp2_with fail
            exact Post.isv (Ext.refl _) rfl rfl rfl
          -- 13: Op.fieldAddr 42 t23 1   [guarded: some (8, false)]
          apply Stage.step (Is _) [false, false, false, false, false, false, false, false, true, false, false, false, true] (Is.keeps _) (by kernel_rfl)
          · intro w1 h1
            simp only [List.nil_append, List.cons_append, Given]
            rintro _ rfl
            rintro _ rfl
            go_wp2_with fail
            exact Post.isv (Ext.refl _) rfl rfl rfl
          -- 14: Op.load 22 t24   [guarded: some (8, false)]
          apply Stage.step (Is _) [false, false, false, false, false, false, false, false, true, false, false, false, false, true] (Is.keeps _) (by kernel_rfl)
          · intro w1 h1
            simp only [List.nil_append, List.cons_append, Given]
            rintro _ rfl
            rintro _ rfl
            have hq := h1.cell a1
            have hq2 := h1.cell s1
            go_wp2_with fail
            exact Post.isv (Ext.refl _) rfl rfl rfl
          -- 15: Op.call { builtin len, args := #[t25], argTypes := #[22] }   [guarded: some (8, false)]
          apply Stage.step (Is _) [false, false, false, false, false, false, false, false, true, false, false, false, false, false, true] (Is.keeps _) (by kernel_rfl)
          · intro w1 h1
            simp only [List.nil_append, List.cons_append, Given]
            rintro _ rfl
            rintro _ rfl
            go_wp2_with fail
            exact Post.isv (Ext.refl _) rfl rfl rfl
          -- 16: Op.binOp BinOp.gtr 3 t26 (const (512:i64)) 3   [guarded: some (8, false)]
          apply Stage.step (Is _) [false, false, false, false, false, false, false, false, true, false, false, false, false, false, false, true] (Is.keeps _) (by kernel_rfl)
          · intro w1 h1
            simp only [List.nil_append, List.cons_append, Given]
            rintro _ rfl
            rintro _ rfl
            go_wp2_with fail
            exact Post.isv (Ext.refl _) rfl rfl rfl
          -- 17: Op.pick t19 (const (Value.bool true)) t27
          apply Stage.step (Is _) [false, false, false, false, false, false, false, false, true, false, false, false, false, false, false, false, true] (Is.keeps _) (by kernel_rfl)
          · intro w1 h1
            simp only [List.nil_append, List.cons_append, Given]
            rintro _ rfl
            rintro _ rfl
            go_wp2_with fail
            exact Post.isv (Ext.refl _) rfl rfl rfl
          -- 18: Op.move t28
          apply Stage.step (Is _) [false, false, false, false, false, false, false, false, false, false, false, false, false, false, false, false, false, true] (Is.keeps _) (by kernel_rfl)
          · intro w1 h1
            simp only [List.nil_append, List.cons_append, Given]
            rintro _ rfl
            go_wp2_with fail
            exact Post.isv (Ext.refl _) rfl rfl rfl
          -- 19: Op.load 35 t1   [guarded: some (18, false)]
          apply Stage.step (Is _) [false, false, false, false, false, false, false, false, false, false, false, false, false, false, false, false, false, false, true] (Is.keeps _) (by kernel_rfl)
          · intro w1 h1
            simp only [List.nil_append, List.cons_append, Given]
            rintro _ rfl
            have hq := h1.cell s0
            have hq2 := h1.cell s1
            go_wp2_with fail
            exact Post.isv (Ext.refl _) rfl rfl rfl
          -- 20: Op.fieldAddr 35 t1 1   [guarded: some (18, false)]
          apply Stage.step (Is _) [false, false, false, false, false, false, false, false, false, false, false, false, false, false, false, false, false, false, true] (Is.keeps _) (by kernel_rfl)
          · intro w1 h1
            simp only [List.nil_append, List.cons_append, Given]
            rintro _ rfl
            go_wp2_with fail
            exact Post.isv (Ext.refl _) rfl rfl rfl
          -- 21: Op.load 33 t31   [guarded: some (18, false)]
          apply Stage.step (Is _) [false, false, false, false, false, false, false, false, false, false, false, false, false, false, false, false, false, false, true, false, true] (Is.keeps _) (by kernel_rfl)
          · intro w1 h1
            simp only [List.nil_append, List.cons_append, Given]
            rintro _ rfl
            rintro _ rfl
            have hq := h1.cell s1
            have hq2 := h1.cell s1
            go_wp2_with fail
            exact Post.isv (Ext.refl _) rfl rfl rfl
          -- 22: Op.move t3   [guarded: some (18, false)]
          apply Stage.step (Is _) [false, false, false, false, false, false, false, false, false, false, false, false, false, false, false, false, false, false, true] (Is.keeps _) (by kernel_rfl)
          · intro w1 h1
            simp only [List.nil_append, List.cons_append, Given]
            rintro _ rfl
            go_wp2_with fail
            exact Post.isv (Ext.refl _) rfl rfl rfl
          -- 23: Op.indexAddr 33 t32 t33   [guarded: some (18, false)]
          apply Stage.step (Is _) [false, false, false, false, false, false, false, false, false, false, false, false, false, false, false, false, false, false, true, false, false, true, true] (Is.keeps _) (by kernel_rfl)
          · intro w1 h1
            simp only [List.nil_append, List.cons_append, Given]
            rintro _ rfl
            rintro _ rfl
            rintro _ rfl
            go_wp2_with fail
            exact Post.isv (Ext.refl _) rfl rfl rfl
          -- 24: Op.fieldAddr 42 t34 0   [guarded: some (18, false)]
          apply Stage.step (Is _) [false, false, false, false, false, false, false, false, false, false, false, false, false, false, false, false, false, false, true, false, false, false, false, true] (Is.keeps _) (by kernel_rfl)
          · intro w1 h1
            simp only [List.nil_append, List.cons_append, Given]
            rintro _ rfl
            rintro _ rfl
            go_wp2_with fail
            exact Post.isv (Ext.refl _) rfl rfl rfl
          -- 25: Op.load 9 t35   [guarded: some (18, false)]
          apply Stage.step (Is _) [false, false, false, false, false, false, false, false, false, false, false, false, false, false, false, false, false, false, true, false, false, false, false, false, true] (Is.keeps _) (by kernel_rfl)
          · intro w1 h1
            simp only [List.nil_append, List.cons_append, Given]
            rintro _ rfl
            rintro _ rfl
            have hq := h1.cell a0
            have hq2 := h1.cell s1
            go_wp2_with fail
            exact Post.isv (Ext.refl _) rfl rfl rfl
          -- 26: Op.call { value (Operand.func 78), args := #[t30, t36], argTypes := #[35, 9] }   [guarded: some (18,
          apply Stage.step (Is _) [false, false, false, false, false, false, false, false, false, false, false, false, false, false, false, false, false, false, true, true, false, false, false, false, false, true] (Is.keeps _) (by kernel_rfl)
          · intro w1 h1
            simp only [List.nil_append, List.cons_append, Given]
            rintro _ rfl
            rintro _ rfl
            rintro _ rfl
            go_wp2_with fail
            exact Post.isv (Ext.refl _) rfl rfl rfl
          -- 27: Op.move t3   [guarded: some (18, false)]
          apply Stage.step (Is _) [false, false, false, false, false, false, false, false, false, false, false, false, false, false, false, false, false, false, true] (Is.keeps _) (by kernel_rfl)
          · intro w1 h1
            simp only [List.nil_append, List.cons_append, Given]
            rintro _ rfl
            go_wp2_with fail
            exact Post.isv (Ext.refl _) rfl rfl rfl
          -- 28: Op.binOp BinOp.neq 3 t37 t38 3   [guarded: some (18, false)]
          apply Stage.step (Is _) [false, false, false, false, false, false, false, false, false, false, false, false, false, false, false, false, false, false, true, false, false, false, false, false, false, false, true, true] (Is.keeps _) (by kernel_rfl)
          · intro w1 h1
            simp only [List.nil_append, List.cons_append, Given]
            rintro _ rfl
            rintro _ rfl
            rintro _ rfl
            go_wp2_with fail
            exact Post.isv (Ext.refl _) rfl rfl rfl
          -- 29: Op.pick t29 (const (Value.bool true)) t39
          apply Stage.step (Is _) [false, false, false, false, false, false, false, false, false, false, false, false, false, false, false, false, false, false, true, false, false, false, false, false, false, false, false, false, true] (Is.keeps _) (by kernel_rfl)
          · intro w1 h1
            simp only [List.nil_append, List.cons_append, Given]
            rintro _ rfl
            rintro _ rfl
            go_wp2_with fail
            exact Post.isv (Ext.refl _) rfl rfl rfl
          apply Stage.nil
          intro w1 h1
          simp only [List.nil_append, List.cons_append]
          refine Fin.is_ ?_
          refine Fin.is_ ?_
          refine Fin.is_ ?_
          refine Fin.is_ ?_
          refine Fin.is_ ?_
          refine Fin.is_ ?_
          refine Fin.is_ ?_
          refine Fin.is_ ?_
          refine Fin.is_ ?_
          refine Fin.is_ ?_
          refine Fin.is_ ?_
          refine Fin.is_ ?_
          refine Fin.is_ ?_
          refine Fin.is_ ?_
          refine Fin.is_ ?_
          refine Fin.is_ ?_
          refine Fin.is_ ?_
          refine Fin.is_ ?_
          refine Fin.is_ ?_
          refine Fin.is_ ?_
          refine Fin.is_ ?_
          refine Fin.is_ ?_
          refine Fin.is_ ?_
          refine Fin.is_ ?_
          refine Fin.is_ ?_
          refine Fin.is_ ?_
          refine Fin.is_ ?_
          refine Fin.is_ ?_
          refine Fin.is_ ?_
          refine Fin.is_ ?_
          refine Fin.nil_ ?_
          go_simp
          go_wp2_with fail
          go_ret
          exact ⟨rfl, gxr.trans h1⟩
    · obtain rfl : k = n2 := by omega
      have hrr := hr.out
      rw [rightS_all (fun j hj => hok.out j (by omega)), hdl, hsn] at hrr
      have HR := Lib.hid hrr
      clear hrr hok
      by_cases v1 : n ≤ 512
      · have e1 : decide ((n : Int) ≤ 512) = true := by simp; omega
        by_cases v2 : k ≤ 8
        · have e2 : decide ((k : Int) ≤ 8) = true := by simp; omega
          obtain rfl : true = r := by rw [← HR.out]; simp [v1, v2]
          clear hr HR
          go_wp2_with fail
          go_ret
          exact ⟨rfl, gxr⟩
        · have e2 : decide ((k : Int) ≤ 8) = false := by simp; omega
          obtain rfl : false = r := by rw [← HR.out]; simp [v1, v2]
          clear hr HR
          go_wp2_with fail
          go_ret
          exact ⟨rfl, gxr⟩
      · have e1 : decide ((n : Int) ≤ 512) = false := by simp; omega
        obtain rfl : false = r := by rw [← HR.out]; simp [v1]
        clear hr HR
        go_wp2_with fail
        go_ret
        exact ⟨rfl, gxr⟩
end Go.Proofs.Ytcklkjklepmabaa
