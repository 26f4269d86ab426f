/-
  Chains: which may be: contracts of the program's tag and Right, of the reference RightChain.
-/
import Derived.Test.YtoeknbogaclfdaaZChainPlain
import Derived.Test.YtoeknbogaclfdaaZTagRef
import Derived.Test.YtoeknbogaclfdaaZCore
namespace Go.Proofs.Ytoeknbogaclfdaa
open Go.RowKit
set_option linter.unusedVariables false
set_option linter.unusedSimpArgs false
set_option linter.unnecessarySimpa false
set_option maxRecDepth 100000

abbrev tgV (x : Tg) : Value := .agg #[.int .i64 x.id, .int .i64 x.ow, .int .i64 x.he, .int .i64 x.pt]
theorem lastPt_le {xs : List Tg} {b : Int} (h : ∀ x ∈ xs, x.pt ≤ b) (h0 : 0 ≤ b) : lastPt xs 0 ≤ b := by
  rcases lastPt_mem xs 0 with ⟨h1, _⟩ | ⟨x, hx, h1⟩
  · omega
  · rw [h1]; exact h x hx
theorem ids_next {xs : List Tg} {k : Nat} {x y : Tg} (hx : xs[k]? = some x) (h : ∀ z ∈ xs.take k, z.id ≠ y.id) (hne : x.id ≠ y.id) : ∀ z ∈ xs.take (k + 1), z.id ≠ y.id := by
  intro z hz
  rw [List.take_add_one, hx] at hz
  rcases List.mem_append.1 hz with hz | hz
  · exact h z hz
  · simp at hz
    exact hz ▸ hne
def tagP (x : Tg) (n : Nat) (d : Int) : Prop := d ≤ x.pt ∧ (n = 0 → x.pt = 0) ∧ 1 ≤ x.id ∧ x.id ≤ 1073741824 ∧ 0 ≤ x.ow ∧ x.ow ≤ 2 ∧ 0 ≤ x.he ∧ x.he ≤ 2 ∧ (x.ow = 0 ↔ 0 < x.he) ∧ x.pt ≤ 1099511627776
instance (x : Tg) (n : Nat) (d : Int) : Decidable (tagP x n d) := by unfold tagP; infer_instance
theorem tagB_of {x : Tg} {xs : List Tg} (h : ∀ z ∈ xs, z.id ≠ x.id) : tagB x xs = decide (tagP x xs.length (lastPt xs 0)) := by
  unfold tagB
  rw [decide_eq_decide]
  unfold tagP
  simp only [tgOk, decide_eq_true_eq]
  constructor
  · rintro ⟨_, h2, h3, h4⟩
    exact ⟨h2, h3, h4⟩
  · rintro ⟨h2, h3, h4⟩
    exact ⟨h, h2, h3, h4⟩
theorem tagB_no {x z : Tg} {xs : List Tg} (hz : z ∈ xs) (h : z.id = x.id) : tagB x xs = false := by
  unfold tagB
  simp only [decide_eq_false_iff_not]
  rintro ⟨h1, _⟩
  exact h1 z hz h
set_option maxHeartbeats 1000000 in
theorem chain_tag {x : Tg} {A : Option Addr} {n c : Nat} {xs : List Tg} {w : World} (l1 : Lst 4 tgR w A n c xs) {r : Bool} (hr : Hid (tagB x xs = r)) :
    Calls Try.prog 102 #[tgV x, .slice A n c] w fun e w' => e = .returned (.bool r) ∧ Ext w w' := by
  have h63 := l1.n63
  obtain ⟨x1, x2, x3, x4⟩ := x
  go_enter Try.func102, Try.ntmps102
  go_wp2_with fail
  obtain ⟨w1, hw1⟩ : ∃ q, q = w.alloc (.cells #[.int .i64 x1, .int .i64 x2, .int .i64 x3, .int .i64 x4] 104) := ⟨_, rfl⟩
  have hx1 : Ext w w1 := by rw [hw1]; exact Ext.alloc _ _
  have c0 : w1.cell? ⟨w.heap.size, 0, none⟩ = some (.int .i64 x1) := by rw [hw1]; exact cell_new _ _ _ 0
  have c1 : w1.cell? ⟨w.heap.size, 1, none⟩ = some (.int .i64 x2) := by rw [hw1]; exact cell_new _ _ _ 1
  have c2 : w1.cell? ⟨w.heap.size, 2, none⟩ = some (.int .i64 x3) := by rw [hw1]; exact cell_new _ _ _ 2
  have c3 : w1.cell? ⟨w.heap.size, 3, none⟩ = some (.int .i64 x4) := by rw [hw1]; exact cell_new _ _ _ 3
  rw [← hw1]
  clear hw1
  go_loopw [5, 10] (fun v i wr => ∃ (k : Nat) (d : Int), k ≤ n ∧ v = .int .i64 d ∧ i = .int .i64 k ∧ Hid (lastPt (xs.take k) 0 = d) ∧ Hid (∀ z ∈ xs.take k, z.id ≠ x1) ∧ Ext w1 wr) (fun _ i _ => n - (intOf i).toNat)
  case atStart => exact ⟨0, 0, by omega, rfl, rfl, rfl, by simp [Hid], Ext.refl _⟩
  case round =>
    obtain ⟨k, d, hk, rfl, rfl, hd, hids, hxr⟩ := hrel
    by_cases hlt : k < n
    · obtain ⟨ga, oa, y, cs, rfl, hx, rfl, ha⟩ := l1.at2 tg_rep (by omega) hlt
      have hn := lastPt_next hx 0
      have a0 : wr.cell? ⟨ga, oa + k * 4, none⟩ = _ := (hx1.trans hxr).cell (ha 0 _ rfl)
      have a1 := (hx1.trans hxr).cell (ha 1 _ rfl)
      have a2 := (hx1.trans hxr).cell (ha 2 _ rfl)
      have a3 := (hx1.trans hxr).cell (ha 3 _ rfl)
      have b0 : (wr.alloc (.cells #[.int .i64 y.id, .int .i64 y.ow, .int .i64 y.he, .int .i64 y.pt] 104)).cell? ⟨w.heap.size, 0, none⟩ = some (.int .i64 x1) := (hxr.allocs _).cell c0
      clear ha
      by_cases hne : y.id = x1
      · have hf := tagB_no (x := ⟨x1, x2, x3, x4⟩) (List.mem_of_getElem? hx) hne
        rw [hr.out] at hf
        subst hf
        obtain ⟨y1, y2, y3, y4⟩ := y
        simp only at hne a0 a1 a2 a3 b0
        subst hne
        clear hx hn hd hids
        go_wp2_with fail
        go_ret
        exact ⟨rfl, (hx1.trans hxr).allocs _⟩
      · have HI := Lib.hid (ids_next (y := ⟨x1, x2, x3, x4⟩) hx hids.out hne)
        have hnb : (y.id == x1) = false := by simpa using hne
        obtain ⟨y1, y2, y3, y4⟩ := y
        simp only at hnb a0 a1 a2 a3 b0 hn
        have HN := Lib.hid hn
        clear hx hn hd hids hne
        go_wp2_with fail
        go_roundw
        case rel => exact ⟨k + 1, y4, by omega, rfl, by go_num, HN, HI, hxr.allocs _⟩
        case measure => simp [intOf]; omega
    · obtain rfl : k = n := by omega
      have hd1 := hd.out
      have hi1 := hids.out
      rw [List.take_of_length_le (by rw [l1.len]; exact Nat.le_refl _)] at hd1 hi1
      have hr1 := hr.out
      rw [tagB_of (x := ⟨x1, x2, x3, x4⟩) hi1, hd1, l1.len] at hr1
      have HR := Lib.hid hr1.symm
      have d0 := hxr.cell c0
      have d1 := hxr.cell c1
      have d2 := hxr.cell c2
      have d3 := hxr.cell c3
      clear hd hids hd1 hi1 hr1 hr c0 c1 c2 c3
      go_wp2_with fail
      all_goals (
        go_ret
        refine ⟨congrArg (fun z => Ending.returned (.bool z)) ?_, hx1.trans hxr⟩
        rw [HR.out, Bool.eq_iff_iff]
        unfold tagP
        simp_all
        try omega)

theorem ok_next {xs : List Tg} {k : Nat} {x : Tg} (hx : xs[k]? = some x) : okAt xs k = tagB x (xs.take k) := by
  unfold okAt
  rw [getD_some hx]
theorem right_no {xs : List Tg} {k : Nat} {r : Bool} (hr : rightL xs = r) (hk : k < xs.length) (h : okAt xs k = false) : r = false := by
  rw [← hr]
  refine rightL_no fun hh => ?_
  have := hh.2.2 k hk
  rw [h] at this
  cases this
theorem right_yes {xs : List Tg} {r : Bool} (hr : rightL xs = r) (h1 : 1 ≤ xs.length) (h2 : xs.length ≤ 32) (h : ∀ i, i < xs.length → okAt xs i = true) : r = true := by
  rw [← hr]
  exact rightL_iff.2 ⟨h1, h2, h⟩
set_option maxHeartbeats 1000000 in
theorem chain_Right {A : Option Addr} {n c : Nat} {xs : List Tg} {w : World} (l1 : Lst 4 tgR w A n c xs) {r : Bool} (hr : Hid (rightL xs = r)) :
    Calls Try.prog 70 #[.slice A n c] w fun e w' => e = .returned (.bool r) ∧ Ext w w' := by
  have h63 := l1.n63
  have hlen := l1.len
  by_cases h0 : n < 1
  · obtain rfl : r = false := by rw [← hr.out]; exact rightL_no fun h => by have := h.1; omega
    go_enter Try.func70, Try.ntmps70
    go_wp2_with fail
    go_ret
    exact ⟨rfl, Ext.refl _⟩
  by_cases h32 : 32 < n
  · obtain rfl : r = false := by rw [← hr.out]; exact rightL_no fun h => by have := h.2.1; omega
    go_enter Try.func70, Try.ntmps70
    go_wp2_with fail
    go_ret
    exact ⟨rfl, Ext.refl _⟩
  have HLEN := Lib.hid hlen
  clear hlen
  go_enter Try.func70, Try.ntmps70
  go_wp2_with fail
  go_loopw [15] (fun i wr => ∃ k : Nat, k ≤ n ∧ i = .int .i64 k ∧ Hid (∀ i, i < k → okAt xs i = true) ∧ Ext w wr) (fun i _ => n - (intOf i).toNat)
  case atStart => exact ⟨0, by omega, rfl, fun i hi => by omega, Ext.refl _⟩
  case round =>
    obtain ⟨k, hk, rfl, hok, hxr⟩ := hrel
    by_cases hlt : k < n
    · have lk := l1.upto tg_rep (m := k) hk
      have hcut := cut_tg l1 k (k : Int) rfl hk
      obtain ⟨ga, oa, x, cs, rfl, hx, rfl, ha⟩ := l1.at2 tg_rep (by omega) hlt
      have a0 : wr.cell? ⟨ga, oa + k * 4, none⟩ = _ := hxr.cell (ha 0 _ rfl)
      have a1 := hxr.cell (ha 1 _ rfl)
      have a2 := hxr.cell (ha 2 _ rfl)
      have a3 := hxr.cell (ha 3 _ rfl)
      have hon := ok_next hx
      obtain ⟨o, ho⟩ : ∃ o, tagB x (xs.take k) = o := ⟨_, rfl⟩
      have HO := Lib.hid ho
      rw [ho] at hon
      obtain ⟨w2, hw2⟩ : ∃ q, q = wr.alloc (.cells #[.int .i64 x.id, .int .i64 x.ow, .int .i64 x.he, .int .i64 x.pt] 104) := ⟨_, rfl⟩
      obtain ⟨x1, x2, x3, x4⟩ := x
      simp only at a0 a1 a2 a3 hw2
      cases o with
      | false =>
        obtain rfl := right_no hr.out (by rw [HLEN.out]; exact hlt) hon
        clear hx ha ho hon hok hr
        go_wp2_with fail
        have b0 : w2.cell? ⟨wr.heap.size, 0, none⟩ = some (.int .i64 x1) := by rw [hw2]; exact cell_new _ _ _ 0
        have b1 : w2.cell? ⟨wr.heap.size, 1, none⟩ = some (.int .i64 x2) := by rw [hw2]; exact cell_new _ _ _ 1
        have b2 : w2.cell? ⟨wr.heap.size, 2, none⟩ = some (.int .i64 x3) := by rw [hw2]; exact cell_new _ _ _ 2
        have b3 : w2.cell? ⟨wr.heap.size, 3, none⟩ = some (.int .i64 x4) := by rw [hw2]; exact cell_new _ _ _ 3
        have hx2 : Ext w w2 := by rw [hw2]; exact hxr.allocs _
        rw [← hw2]
        clear hw2
        refine wp_region_typed Ext.steady rfl 27 rfl (by kernel_rfl) ?_
        -- 0: Op.load 104 t4
        apply Stage.step (Is (tgV ⟨x1, x2, x3, x4⟩)) [] (Is.keeps _) (by kernel_rfl)
        · intro w1 h1
          simp only [Given]
          have q0 := h1.cell b0
          have q1 := h1.cell b1
          have q2 := h1.cell b2
          have q3 := h1.cell b3
          go_wp2_with fail
          exact Post.isv (Ext.refl _) rfl rfl rfl
        -- 1: Op.move t0
        apply Stage.step (Is _) [] (Is.keeps _) (by kernel_rfl)
        · intro w1 h1
          simp only [Given]
          go_wp2_with fail
          exact Post.isv (Ext.refl _) rfl rfl rfl
        -- 2: Op.move t3
        apply Stage.step (Is _) [] (Is.keeps _) (by kernel_rfl)
        · intro w1 h1
          simp only [Given]
          go_wp2_with fail
          exact Post.isv (Ext.refl _) rfl rfl rfl
        -- 3: Op.slice 25 t21 none (some t22) none
        apply Stage.step (Is (.slice (some ⟨ga, oa, none⟩) k c)) [false, true, true] (Is.keeps _) (by kernel_rfl)
        · intro w1 h1
          simp only [List.nil_append, List.cons_append, Given]
          rintro _ rfl
          rintro _ rfl
          go_wp2_with fail
          exact Post.isv (Ext.refl _) rfl rfl rfl
        -- 4: Op.call { value (Operand.func 102), args := #[t20, t23], argTypes := #[104, 25] }
        apply Stage.step (Is (.bool false)) [true, false, false, true] (Is.keeps _) (by kernel_rfl)
        · intro w1 h1
          simp only [List.nil_append, List.cons_append, Given]
          rintro _ rfl
          rintro _ rfl
          go_wp2_with fail
          refine (chain_tag ((lk.ext tg_rep hx2).ext tg_rep h1) HO).mono ?_
          rintro e w2 ⟨rfl, hx3⟩
          go_wp2_with fail
          exact Post.isv hx3 rfl rfl rfl
        -- 5: Op.unOp UnOp.not 4 t24
        apply Stage.step (Is _) [false, false, false, false, true] (Is.keeps _) (by kernel_rfl)
        · intro w1 h1
          simp only [List.nil_append, List.cons_append, Given]
          rintro _ rfl
          go_wp2_with fail
          exact Post.isv (Ext.refl _) rfl rfl rfl
        apply Stage.nil
        intro w1 h1
        simp only [List.nil_append, List.cons_append]
        refine Fin.is_ ?_
        refine Fin.is_ ?_
        refine Fin.is_ ?_
        refine Fin.is_ ?_
        refine Fin.is_ ?_
        refine Fin.is_ ?_
        refine Fin.nil_ ?_
        go_simp
        go_wp2_with fail
        go_ret
        exact ⟨rfl, hx2.trans h1⟩
      | true =>
        have HN : Hid (∀ i, i < k + 1 → okAt xs i = true) := fun i hi => by
          by_cases e : i = k
          · rw [e, hon]
          · exact hok.out i (by omega)
        clear hx ha ho hon hok
        go_wp2_with fail
        have b0 : w2.cell? ⟨wr.heap.size, 0, none⟩ = some (.int .i64 x1) := by rw [hw2]; exact cell_new _ _ _ 0
        have b1 : w2.cell? ⟨wr.heap.size, 1, none⟩ = some (.int .i64 x2) := by rw [hw2]; exact cell_new _ _ _ 1
        have b2 : w2.cell? ⟨wr.heap.size, 2, none⟩ = some (.int .i64 x3) := by rw [hw2]; exact cell_new _ _ _ 2
        have b3 : w2.cell? ⟨wr.heap.size, 3, none⟩ = some (.int .i64 x4) := by rw [hw2]; exact cell_new _ _ _ 3
        have hx2 : Ext w w2 := by rw [hw2]; exact hxr.allocs _
        rw [← hw2]
        clear hw2
        refine wp_region_typed Ext.steady rfl 27 rfl (by kernel_rfl) ?_
        -- 0: Op.load 104 t4
        apply Stage.step (Is (tgV ⟨x1, x2, x3, x4⟩)) [] (Is.keeps _) (by kernel_rfl)
        · intro w1 h1
          simp only [Given]
          have q0 := h1.cell b0
          have q1 := h1.cell b1
          have q2 := h1.cell b2
          have q3 := h1.cell b3
          go_wp2_with fail
          exact Post.isv (Ext.refl _) rfl rfl rfl
        -- 1: Op.move t0
        apply Stage.step (Is _) [] (Is.keeps _) (by kernel_rfl)
        · intro w1 h1
          simp only [Given]
          go_wp2_with fail
          exact Post.isv (Ext.refl _) rfl rfl rfl
        -- 2: Op.move t3
        apply Stage.step (Is _) [] (Is.keeps _) (by kernel_rfl)
        · intro w1 h1
          simp only [Given]
          go_wp2_with fail
          exact Post.isv (Ext.refl _) rfl rfl rfl
        -- 3: Op.slice 25 t21 none (some t22) none
        apply Stage.step (Is (.slice (some ⟨ga, oa, none⟩) k c)) [false, true, true] (Is.keeps _) (by kernel_rfl)
        · intro w1 h1
          simp only [List.nil_append, List.cons_append, Given]
          rintro _ rfl
          rintro _ rfl
          go_wp2_with fail
          exact Post.isv (Ext.refl _) rfl rfl rfl
        -- 4: Op.call { value (Operand.func 102), args := #[t20, t23], argTypes := #[104, 25] }
        apply Stage.step (Is (.bool true)) [true, false, false, true] (Is.keeps _) (by kernel_rfl)
        · intro w1 h1
          simp only [List.nil_append, List.cons_append, Given]
          rintro _ rfl
          rintro _ rfl
          go_wp2_with fail
          refine (chain_tag ((lk.ext tg_rep hx2).ext tg_rep h1) HO).mono ?_
          rintro e w2 ⟨rfl, hx3⟩
          go_wp2_with fail
          exact Post.isv hx3 rfl rfl rfl
        -- 5: Op.unOp UnOp.not 4 t24
        apply Stage.step (Is _) [false, false, false, false, true] (Is.keeps _) (by kernel_rfl)
        · intro w1 h1
          simp only [List.nil_append, List.cons_append, Given]
          rintro _ rfl
          go_wp2_with fail
          exact Post.isv (Ext.refl _) rfl rfl rfl
        apply Stage.nil
        intro w1 h1
        simp only [List.nil_append, List.cons_append]
        refine Fin.is_ ?_
        refine Fin.is_ ?_
        refine Fin.is_ ?_
        refine Fin.is_ ?_
        refine Fin.is_ ?_
        refine Fin.is_ ?_
        refine Fin.nil_ ?_
        go_simp
        go_wp2_with fail
        go_roundw
        case rel => exact ⟨k + 1, by omega, by go_num, HN, hx2.trans h1⟩
        case measure => simp [intOf]; omega
    · obtain rfl : k = n := by omega
      obtain rfl := right_yes hr.out (by rw [HLEN.out]; omega) (by rw [HLEN.out]; omega) (by rw [HLEN.out]; exact hok.out)
      clear hok hr
      go_wp2_with fail
      go_ret
      exact ⟨rfl, hxr⟩
end Go.Proofs.Ytoeknbogaclfdaa
