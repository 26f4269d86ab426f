/-
  Rows of elements that lead nowhere (integers, tags): append onto a row of the call's own.
-/
/-
  Records: contracts of Newest, Seen, Find of the program, and of the reference's Seen.
-/
/-
  Marks alike: contracts of the reference's SameMarks and of slices.Equal of marks.
-/
import Derived.Test.YtoeknbogaclfdaaZFromFrameTakeToInts
import Derived.Test.YtoeknbogaclfdaaZCore
namespace Go.Proofs.Ytoeknbogaclfdaa
open Go.RowKit
set_option linter.unusedVariables false
set_option linter.unusedSimpArgs false
set_option linter.unnecessarySimpa false
set_option maxRecDepth 100000
theorem All2.mem {α : Type} {R : α → List Value → World → Prop} {w : World} : ∀ {xs : List α} {css : List (List Value)}, All2 R w xs css → ∀ cs ∈ css, ∃ x, R x cs w
  | _, _, .nil, cs, h => by simp at h
  | _, _, @All2.cons _ _ _ y ds ys dss h t, cs, hm => by
    rcases List.mem_cons.1 hm with rfl | hm
    · exact ⟨_, h⟩
    · exact t.mem cs hm
theorem wpList_append_flat2 {P : Program} {α : Type} {size : Nat} {R : α → List Value → World → Prop} (hR : Rep size R) (hnp : ∀ (x : α) (cs : List Value) (w : World), R x cs w → ∀ k, ¬ Pts cs k)
    {ops : Array Oper} {rest : List Oper} {o : Oper} {a : Act} {Q : Exit → Act → World → Prop} {w w0 : World} (hgd : o.guard = none) (s y : Operand) (t tx : TypeId)
    (ho : o.op = .call { callee := .builtin .append, args := #[s, y], argTypes := #[t, tx] })
    (e e' : TypeId) (i : TypeInfo) (z : Value) (bytes : Nat) (ht : P.underlying t = some (.slice e)) (htx : P.underlying tx = some (.slice e')) (hi : P.info? e = some i) (hz : i.zero = some z)
    (hsize : i.size = size) (hby : i.bytes = bytes) (hzs : z.cells.size = size)
    (A : Option Addr) (n c : Nat) (xs : List α) (hsv : a.eval s = .slice A n c) (hown : OwnL e size R w w0.heap.size A n c xs) (A2 : Option Addr) (m c2 : Nat) (ys : List α) (hy : a.eval y = .slice A2 m c2) (hl : Lst size R w A2 m c2 ys)
    (N : Nat) (hN : n + m = N) (zs : List α) (hzs' : xs ++ ys = zs) (h63 : N ≤ maxLen) (hbytes : N * bytes ≤ 140737488355328) (hx : Ext w0 w)
    (h : ∀ A' c' w', OwnL e size R w' w0.heap.size A' N c' zs → Ext w0 w' → w.grownBy w' (rowOf A c) → wpList P ops Q rest (a.put o.dst (.slice A' N c')) w') : wpList P ops Q (o :: rest) a w := by
  subst hN hzs'
  obtain ⟨css, ha, ho1, hp⟩ := hown.own
  obtain ⟨dss, hb, hsrc⟩ := hl.src (P := P) hR htx
  refine wpList_append_mine _ hgd s y t tx ho w0.heap.size e i z size bytes ht hi hz hsize hby hzs A n c _ hsv ho1 _ hy m _ hsrc h63 hbytes hx.size ?_
  intro A3 c3 w3 hown3 hg3 hr3
  refine h A3 c3 w3 ?_ (below_grown hx ho1 hg3 hx.size) hg3
  refine OwnL.more hR hown.len hl.len ha hp hb (fun cs hcs k hk => ?_) hown3 hg3 hr3
  obtain ⟨x, hr⟩ := hb.mem cs hcs
  exact absurd hk (hnp _ _ _ hr k)
theorem wpList_append_flat {P : Program} {α : Type} {size : Nat} {R : α → List Value → World → Prop} (hR : Rep size R) (hnp : ∀ (x : α) (cs : List Value) (w : World), R x cs w → ∀ k, ¬ Pts cs k)
    {ops : Array Oper} {rest : List Oper} {o : Oper} {a : Act} {Q : Exit → Act → World → Prop} {w w0 : World} (hgd : o.guard = none) (s y : Operand) (t tx : TypeId)
    (ho : o.op = .call { callee := .builtin .append, args := #[s, y], argTypes := #[t, tx] })
    (e e' : TypeId) (i : TypeInfo) (z : Value) (bytes : Nat) (ht : P.underlying t = some (.slice e)) (htx : P.underlying tx = some (.slice e')) (hi : P.info? e = some i) (hz : i.zero = some z)
    (hsize : i.size = size) (hby : i.bytes = bytes) (hzs : z.cells.size = size)
    (A : Option Addr) (n c : Nat) (xs : List α) (hsv : a.eval s = .slice A n c) (hown : OwnL e size R w w0.heap.size A n c xs) (A2 : Option Addr) (m c2 : Nat) (ys : List α) (hy : a.eval y = .slice A2 m c2) (hl : Lst size R w A2 m c2 ys)
    (N : Nat) (hN : n + m = N) (zs : List α) (hzs' : xs ++ ys = zs) (h63 : N ≤ maxLen) (hbytes : N * bytes ≤ 140737488355328) (hx : Ext w0 w)
    (h : ∀ A' c' w', OwnL e size R w' w0.heap.size A' N c' zs → Ext w0 w' → wpList P ops Q rest (a.put o.dst (.slice A' N c')) w') : wpList P ops Q (o :: rest) a w :=
  wpList_append_flat2 hR hnp hgd s y t tx ho e e' i z bytes ht htx hi hz hsize hby hzs A n c xs hsv hown A2 m c2 ys hy hl N hN zs hzs' h63 hbytes hx fun A' c' w' h1 h2 _ => h A' c' w' h1 h2
end Go.Proofs.Ytoeknbogaclfdaa

namespace Go.Proofs.Ytoeknbogaclfdaa
open Go.RowKit
set_option linter.unusedVariables false
set_option linter.unusedSimpArgs false
set_option linter.unnecessarySimpa false
set_option maxRecDepth 100000
theorem mk_lit (w : World) (x : Mk) : OwnL TMk 4 mkR (w.alloc (.cells #[.int .i64 x.id, .string x.nm, .int .i64 x.sz, .bool x.gone] TMk)) w.heap.size (some ⟨w.heap.size, 0, none⟩) 1 1 [x] :=
  ⟨rfl, [[.int .i64 x.id, .string x.nm, .int .i64 x.sz, .bool x.gone]], .cons rfl .nil, Own.made w w.heap.size TMk 4 #[.int .i64 x.id, .string x.nm, .int .i64 x.sz, .bool x.gone] 1 1 (Nat.le_refl _) (Nat.le_refl _) (by simp [maxLen]) rfl, fun cs hcs k hk => by simp at hcs; subst hcs; exact absurd hk (mk_nop (x := x) (w := w) rfl k)⟩
def Shorts (l : List Mk) : Prop := ∀ x ∈ l, x.nm.size ≤ 1000
theorem Shorts.at_ {l : List Mk} (h : Shorts l) {k : Nat} {x : Mk} (hx : l[k]? = some x) : x.nm.size ≤ 1000 := h x (List.mem_of_getElem? hx)
end Go.Proofs.Ytoeknbogaclfdaa

namespace Go.Proofs.Ytoeknbogaclfdaa
open Go.RowKit
set_option linter.unusedVariables false
set_option linter.unusedSimpArgs false
set_option linter.unnecessarySimpa false
set_option maxRecDepth 100000
def sameMk (xs ys : List Mk) : Bool := decide (xs = ys)
theorem sameMk_no {xs ys : List Mk} {k : Nat} {x y : Mk} (hx : xs[k]? = some x) (hy : ys[k]? = some y) (e : x ≠ y) : sameMk xs ys = false := by
  unfold sameMk
  rw [decide_eq_false_iff_not]
  rintro rfl
  rw [hx] at hy
  injection hy with hy
  exact e hy
theorem takeMk_next {xs ys : List Mk} {k : Nat} {x : Mk} (h : xs.take k = ys.take k) (hx : xs[k]? = some x) (hy : ys[k]? = some x) : xs.take (k + 1) = ys.take (k + 1) := by
  rw [List.take_add_one, List.take_add_one, h, hx, hy]
set_option maxHeartbeats 1000000 in
theorem ref_SameMarks {A : Option Addr} {n c : Nat} {xs : List Mk} {A' : Option Addr} {n' c' : Nat} {ys : List Mk} {w : World} (l1 : Lst 4 mkR w A n c xs) (l2 : Lst 4 mkR w A' n' c' ys) {b : Bool} (hb : Hid (sameMk xs ys = b)) :
    Calls Try.prog 33 #[.slice A n c, .slice A' n' c'] w fun e w' => e = .returned (.bool b) ∧ Ext w w' := by
  have h63 := l1.n63
  have h63' := l2.n63
  by_cases hn : n = n'
  case neg =>
    have hne : b = false := by
      rw [← hb.out]
      unfold sameMk
      rw [decide_eq_false_iff_not]
      rintro rfl
      exact hn (l1.len.symm.trans l2.len)
    subst hne
    have hnn : ((n : Int) != (n' : Int)) = true := by simp; omega
    clear hn hb
    go_enter Try.func33, Try.ntmps33
    go_wp2_with fail
    go_ret
    exact ⟨rfl, Ext.refl _⟩
  subst hn
  go_enter Try.func33, Try.ntmps33
  go_wp2_with fail
  go_loopw [5] (fun i wr => ∃ k : Nat, k ≤ n ∧ i = .int .i64 k ∧ Hid (xs.take k = ys.take k) ∧ Ext w wr) (fun i _ => n - (intOf i).toNat)
  case atStart => exact ⟨0, by omega, rfl, rfl, Ext.refl _⟩
  case round =>
    obtain ⟨k, hk, rfl, hrk, hxr⟩ := hrel
    by_cases hlt : k < n
    · obtain ⟨ga, oa, x, cs, rfl, hx, rfl, ha⟩ := l1.at2 mk_rep (by omega) hlt
      obtain ⟨gb, ob, y, ds, rfl, hy, rfl, hd⟩ := l2.at2 mk_rep (by omega) hlt
      have a0 : wr.cell? ⟨ga, oa + k * 4, none⟩ = _ := hxr.cell (ha 0 _ rfl)
      have a1 := hxr.cell (ha 1 _ rfl)
      have a2 := hxr.cell (ha 2 _ rfl)
      have a3 := hxr.cell (ha 3 _ rfl)
      have b0 : wr.cell? ⟨gb, ob + k * 4, none⟩ = _ := hxr.cell (hd 0 _ rfl)
      have b1 := hxr.cell (hd 1 _ rfl)
      have b2 := hxr.cell (hd 2 _ rfl)
      have b3 := hxr.cell (hd 3 _ rfl)
      clear ha hd
      by_cases e : x = y
      · subst e
        have hn := Lib.hid (takeMk_next hrk.out hx hy)
        obtain ⟨x1, x2, x3, x4⟩ := x
        clear hx hy hrk
        go_wp2_with fail
        refine wp_region_typed Ext.steady rfl 26 rfl (by kernel_rfl) ?_
        apply Stage.step (Is _) [] (Is.keeps _) (by kernel_rfl)
        · intro w1 h1
          simp only [Given]
          go_wp2_with fail
          exact Post.isv (Ext.refl _) rfl rfl rfl
        apply Stage.step (Is _) [] (Is.keeps _) (by kernel_rfl)
        · intro w1 h1
          simp only [Given]
          go_wp2_with fail
          exact Post.isv (Ext.refl _) rfl rfl rfl
        apply Stage.step (Is _) [true, true] (Is.keeps _) (by kernel_rfl)
        · intro w1 h1
          simp only [List.nil_append, List.cons_append, Given]
          rintro _ rfl
          rintro _ rfl
          go_wp2_with fail
          exact Post.isv (Ext.refl _) rfl rfl rfl
        apply Stage.step (Is _) [false, false, true] (Is.keeps _) (by kernel_rfl)
        · intro w1 h1
          simp only [List.nil_append, List.cons_append, Given]
          rintro _ rfl
          have q0 := h1.cell a0
          have q1 := h1.cell a1
          have q2 := h1.cell a2
          have q3 := h1.cell a3
          go_wp2_with fail
          exact Post.isv (Ext.refl _) rfl rfl rfl
        apply Stage.step (Is _) [] (Is.keeps _) (by kernel_rfl)
        · intro w1 h1
          simp only [Given]
          go_wp2_with fail
          exact Post.isv (Ext.refl _) rfl rfl rfl
        apply Stage.step (Is _) [] (Is.keeps _) (by kernel_rfl)
        · intro w1 h1
          simp only [Given]
          go_wp2_with fail
          exact Post.isv (Ext.refl _) rfl rfl rfl
        apply Stage.step (Is _) [false, false, false, false, true, true] (Is.keeps _) (by kernel_rfl)
        · intro w1 h1
          simp only [List.nil_append, List.cons_append, Given]
          rintro _ rfl
          rintro _ rfl
          go_wp2_with fail
          exact Post.isv (Ext.refl _) rfl rfl rfl
        apply Stage.step (Is _) [false, false, false, false, false, false, true] (Is.keeps _) (by kernel_rfl)
        · intro w1 h1
          simp only [List.nil_append, List.cons_append, Given]
          rintro _ rfl
          have q0 := h1.cell b0
          have q1 := h1.cell b1
          have q2 := h1.cell b2
          have q3 := h1.cell b3
          go_wp2_with fail
          exact Post.isv (Ext.refl _) rfl rfl rfl
        apply Stage.step (Is (.bool false)) [false, false, false, true, false, false, false, true] (Is.keeps _) (by kernel_rfl)
        · intro w1 h1
          simp only [List.nil_append, List.cons_append, Given]
          rintro _ rfl
          rintro _ rfl
          go_wp2_with fail
          all_goals first | exact Post.isv (Ext.refl _) rfl rfl rfl | (exfalso; apply e; simp_all; done) | (exfalso; apply e; simp_all; exact e (bytes_inj ‹_›))
        apply Stage.nil
        intro w1 h1
        simp only [List.nil_append, List.cons_append]
        refine Fin.is_ ?_
        refine Fin.is_ ?_
        refine Fin.is_ ?_
        refine Fin.is_ ?_
        refine Fin.is_ ?_
        refine Fin.is_ ?_
        refine Fin.is_ ?_
        refine Fin.is_ ?_
        refine Fin.is_ ?_
        refine Fin.nil_ ?_
        go_simp
        go_wp2_with fail
        go_roundw
        case rel => exact ⟨k + 1, by omega, by go_num, hn, hxr.trans h1⟩
        case measure => simp [intOf]; omega
      · have hn := sameMk_no hx hy e
        rw [hb.out] at hn
        subst hn
        obtain ⟨x1, x2, x3, x4⟩ := x
        obtain ⟨y1, y2, y3, y4⟩ := y
        clear hx hy hrk hb
        go_wp2_with fail
        refine wp_region_typed Ext.steady rfl 26 rfl (by kernel_rfl) ?_
        apply Stage.step (Is _) [] (Is.keeps _) (by kernel_rfl)
        · intro w1 h1
          simp only [Given]
          go_wp2_with fail
          exact Post.isv (Ext.refl _) rfl rfl rfl
        apply Stage.step (Is _) [] (Is.keeps _) (by kernel_rfl)
        · intro w1 h1
          simp only [Given]
          go_wp2_with fail
          exact Post.isv (Ext.refl _) rfl rfl rfl
        apply Stage.step (Is _) [true, true] (Is.keeps _) (by kernel_rfl)
        · intro w1 h1
          simp only [List.nil_append, List.cons_append, Given]
          rintro _ rfl
          rintro _ rfl
          go_wp2_with fail
          exact Post.isv (Ext.refl _) rfl rfl rfl
        apply Stage.step (Is _) [false, false, true] (Is.keeps _) (by kernel_rfl)
        · intro w1 h1
          simp only [List.nil_append, List.cons_append, Given]
          rintro _ rfl
          have q0 := h1.cell a0
          have q1 := h1.cell a1
          have q2 := h1.cell a2
          have q3 := h1.cell a3
          go_wp2_with fail
          exact Post.isv (Ext.refl _) rfl rfl rfl
        apply Stage.step (Is _) [] (Is.keeps _) (by kernel_rfl)
        · intro w1 h1
          simp only [Given]
          go_wp2_with fail
          exact Post.isv (Ext.refl _) rfl rfl rfl
        apply Stage.step (Is _) [] (Is.keeps _) (by kernel_rfl)
        · intro w1 h1
          simp only [Given]
          go_wp2_with fail
          exact Post.isv (Ext.refl _) rfl rfl rfl
        apply Stage.step (Is _) [false, false, false, false, true, true] (Is.keeps _) (by kernel_rfl)
        · intro w1 h1
          simp only [List.nil_append, List.cons_append, Given]
          rintro _ rfl
          rintro _ rfl
          go_wp2_with fail
          exact Post.isv (Ext.refl _) rfl rfl rfl
        apply Stage.step (Is _) [false, false, false, false, false, false, true] (Is.keeps _) (by kernel_rfl)
        · intro w1 h1
          simp only [List.nil_append, List.cons_append, Given]
          rintro _ rfl
          have q0 := h1.cell b0
          have q1 := h1.cell b1
          have q2 := h1.cell b2
          have q3 := h1.cell b3
          go_wp2_with fail
          exact Post.isv (Ext.refl _) rfl rfl rfl
        apply Stage.step (Is (.bool true)) [false, false, false, true, false, false, false, true] (Is.keeps _) (by kernel_rfl)
        · intro w1 h1
          simp only [List.nil_append, List.cons_append, Given]
          rintro _ rfl
          rintro _ rfl
          go_wp2_with fail
          all_goals first | exact Post.isv (Ext.refl _) rfl rfl rfl | (exfalso; apply e; simp_all; done) | (exfalso; apply e; simp_all; exact e (bytes_inj ‹_›))
        apply Stage.nil
        intro w1 h1
        simp only [List.nil_append, List.cons_append]
        refine Fin.is_ ?_
        refine Fin.is_ ?_
        refine Fin.is_ ?_
        refine Fin.is_ ?_
        refine Fin.is_ ?_
        refine Fin.is_ ?_
        refine Fin.is_ ?_
        refine Fin.is_ ?_
        refine Fin.is_ ?_
        refine Fin.nil_ ?_
        go_simp
        go_wp2_with fail
        go_ret
        exact ⟨rfl, hxr.trans h1⟩
    · have hn : b = true := by
        rw [← hb.out]
        unfold sameMk
        rw [decide_eq_true_eq]
        have := hrk.out
        rwa [List.take_of_length_le (by rw [l1.len]; omega), List.take_of_length_le (by rw [l2.len]; omega)] at this
      subst hn
      clear hrk hb
      go_wp2_with fail
      go_ret
      exact ⟨rfl, hxr⟩
set_option maxHeartbeats 1000000 in
theorem equal_marks {A : Option Addr} {n c : Nat} {xs : List Mk} {A' : Option Addr} {n' c' : Nat} {ys : List Mk} {w : World} (l1 : Lst 4 mkR w A n c xs) (l2 : Lst 4 mkR w A' n' c' ys) {b : Bool} (hb : Hid (sameMk xs ys = b)) :
    Calls Try.prog 65 #[.slice A n c, .slice A' n' c'] w fun e w' => e = .returned (.bool b) ∧ Ext w w' := by
  have h63 := l1.n63
  have h63' := l2.n63
  by_cases hn : n = n'
  case neg =>
    have hne : b = false := by
      rw [← hb.out]
      unfold sameMk
      rw [decide_eq_false_iff_not]
      rintro rfl
      exact hn (l1.len.symm.trans l2.len)
    subst hne
    have hnn : ((n : Int) != (n' : Int)) = true := by simp; omega
    clear hn hb
    go_enter Try.func65, Try.ntmps65
    go_wp2_with fail
    go_ret
    exact ⟨rfl, Ext.refl _⟩
  subst hn
  go_enter Try.func65, Try.ntmps65
  go_wp2_with fail
  go_loopw [13] (fun i wr => ∃ k : Nat, k ≤ n ∧ i = .int .i64 k ∧ Hid (xs.take k = ys.take k) ∧ Ext w wr) (fun i _ => n - (intOf i).toNat)
  case atStart => exact ⟨0, by omega, rfl, rfl, Ext.refl _⟩
  case round =>
    obtain ⟨k, hk, rfl, hrk, hxr⟩ := hrel
    by_cases hlt : k < n
    · obtain ⟨ga, oa, x, cs, rfl, hx, rfl, ha⟩ := l1.at2 mk_rep (by omega) hlt
      obtain ⟨gb, ob, y, ds, rfl, hy, rfl, hd⟩ := l2.at2 mk_rep (by omega) hlt
      have a0 : wr.cell? ⟨ga, oa + k * 4, none⟩ = _ := hxr.cell (ha 0 _ rfl)
      have a1 := hxr.cell (ha 1 _ rfl)
      have a2 := hxr.cell (ha 2 _ rfl)
      have a3 := hxr.cell (ha 3 _ rfl)
      have b0 : wr.cell? ⟨gb, ob + k * 4, none⟩ = _ := hxr.cell (hd 0 _ rfl)
      have b1 := hxr.cell (hd 1 _ rfl)
      have b2 := hxr.cell (hd 2 _ rfl)
      have b3 := hxr.cell (hd 3 _ rfl)
      clear ha hd
      by_cases e : x = y
      · subst e
        have hn := Lib.hid (takeMk_next hrk.out hx hy)
        obtain ⟨x1, x2, x3, x4⟩ := x
        clear hx hy hrk
        go_wp2_with fail
        refine wp_region_typed Ext.steady rfl 26 rfl (by kernel_rfl) ?_
        apply Stage.step (Is _) [] (Is.keeps _) (by kernel_rfl)
        · intro w1 h1
          simp only [Given]
          go_wp2_with fail
          exact Post.isv (Ext.refl _) rfl rfl rfl
        apply Stage.step (Is _) [] (Is.keeps _) (by kernel_rfl)
        · intro w1 h1
          simp only [Given]
          go_wp2_with fail
          exact Post.isv (Ext.refl _) rfl rfl rfl
        apply Stage.step (Is _) [true, true] (Is.keeps _) (by kernel_rfl)
        · intro w1 h1
          simp only [List.nil_append, List.cons_append, Given]
          rintro _ rfl
          rintro _ rfl
          go_wp2_with fail
          exact Post.isv (Ext.refl _) rfl rfl rfl
        apply Stage.step (Is _) [false, false, true] (Is.keeps _) (by kernel_rfl)
        · intro w1 h1
          simp only [List.nil_append, List.cons_append, Given]
          rintro _ rfl
          have q0 := h1.cell a0
          have q1 := h1.cell a1
          have q2 := h1.cell a2
          have q3 := h1.cell a3
          go_wp2_with fail
          exact Post.isv (Ext.refl _) rfl rfl rfl
        apply Stage.step (Is _) [] (Is.keeps _) (by kernel_rfl)
        · intro w1 h1
          simp only [Given]
          go_wp2_with fail
          exact Post.isv (Ext.refl _) rfl rfl rfl
        apply Stage.step (Is _) [] (Is.keeps _) (by kernel_rfl)
        · intro w1 h1
          simp only [Given]
          go_wp2_with fail
          exact Post.isv (Ext.refl _) rfl rfl rfl
        apply Stage.step (Is _) [false, false, false, false, true, true] (Is.keeps _) (by kernel_rfl)
        · intro w1 h1
          simp only [List.nil_append, List.cons_append, Given]
          rintro _ rfl
          rintro _ rfl
          go_wp2_with fail
          exact Post.isv (Ext.refl _) rfl rfl rfl
        apply Stage.step (Is _) [false, false, false, false, false, false, true] (Is.keeps _) (by kernel_rfl)
        · intro w1 h1
          simp only [List.nil_append, List.cons_append, Given]
          rintro _ rfl
          have q0 := h1.cell b0
          have q1 := h1.cell b1
          have q2 := h1.cell b2
          have q3 := h1.cell b3
          go_wp2_with fail
          exact Post.isv (Ext.refl _) rfl rfl rfl
        apply Stage.step (Is (.bool false)) [false, false, false, true, false, false, false, true] (Is.keeps _) (by kernel_rfl)
        · intro w1 h1
          simp only [List.nil_append, List.cons_append, Given]
          rintro _ rfl
          rintro _ rfl
          go_wp2_with fail
          all_goals first | exact Post.isv (Ext.refl _) rfl rfl rfl | (exfalso; apply e; simp_all; done) | (exfalso; apply e; simp_all; exact e (bytes_inj ‹_›))
        apply Stage.nil
        intro w1 h1
        simp only [List.nil_append, List.cons_append]
        refine Fin.is_ ?_
        refine Fin.is_ ?_
        refine Fin.is_ ?_
        refine Fin.is_ ?_
        refine Fin.is_ ?_
        refine Fin.is_ ?_
        refine Fin.is_ ?_
        refine Fin.is_ ?_
        refine Fin.is_ ?_
        refine Fin.nil_ ?_
        go_simp
        go_wp2_with fail
        go_roundw
        case rel => exact ⟨k + 1, by omega, by go_num, hn, hxr.trans h1⟩
        case measure => simp [intOf]; omega
      · have hn := sameMk_no hx hy e
        rw [hb.out] at hn
        subst hn
        obtain ⟨x1, x2, x3, x4⟩ := x
        obtain ⟨y1, y2, y3, y4⟩ := y
        clear hx hy hrk hb
        go_wp2_with fail
        refine wp_region_typed Ext.steady rfl 26 rfl (by kernel_rfl) ?_
        apply Stage.step (Is _) [] (Is.keeps _) (by kernel_rfl)
        · intro w1 h1
          simp only [Given]
          go_wp2_with fail
          exact Post.isv (Ext.refl _) rfl rfl rfl
        apply Stage.step (Is _) [] (Is.keeps _) (by kernel_rfl)
        · intro w1 h1
          simp only [Given]
          go_wp2_with fail
          exact Post.isv (Ext.refl _) rfl rfl rfl
        apply Stage.step (Is _) [true, true] (Is.keeps _) (by kernel_rfl)
        · intro w1 h1
          simp only [List.nil_append, List.cons_append, Given]
          rintro _ rfl
          rintro _ rfl
          go_wp2_with fail
          exact Post.isv (Ext.refl _) rfl rfl rfl
        apply Stage.step (Is _) [false, false, true] (Is.keeps _) (by kernel_rfl)
        · intro w1 h1
          simp only [List.nil_append, List.cons_append, Given]
          rintro _ rfl
          have q0 := h1.cell a0
          have q1 := h1.cell a1
          have q2 := h1.cell a2
          have q3 := h1.cell a3
          go_wp2_with fail
          exact Post.isv (Ext.refl _) rfl rfl rfl
        apply Stage.step (Is _) [] (Is.keeps _) (by kernel_rfl)
        · intro w1 h1
          simp only [Given]
          go_wp2_with fail
          exact Post.isv (Ext.refl _) rfl rfl rfl
        apply Stage.step (Is _) [] (Is.keeps _) (by kernel_rfl)
        · intro w1 h1
          simp only [Given]
          go_wp2_with fail
          exact Post.isv (Ext.refl _) rfl rfl rfl
        apply Stage.step (Is _) [false, false, false, false, true, true] (Is.keeps _) (by kernel_rfl)
        · intro w1 h1
          simp only [List.nil_append, List.cons_append, Given]
          rintro _ rfl
          rintro _ rfl
          go_wp2_with fail
          exact Post.isv (Ext.refl _) rfl rfl rfl
        apply Stage.step (Is _) [false, false, false, false, false, false, true] (Is.keeps _) (by kernel_rfl)
        · intro w1 h1
          simp only [List.nil_append, List.cons_append, Given]
          rintro _ rfl
          have q0 := h1.cell b0
          have q1 := h1.cell b1
          have q2 := h1.cell b2
          have q3 := h1.cell b3
          go_wp2_with fail
          exact Post.isv (Ext.refl _) rfl rfl rfl
        apply Stage.step (Is (.bool true)) [false, false, false, true, false, false, false, true] (Is.keeps _) (by kernel_rfl)
        · intro w1 h1
          simp only [List.nil_append, List.cons_append, Given]
          rintro _ rfl
          rintro _ rfl
          go_wp2_with fail
          all_goals first | exact Post.isv (Ext.refl _) rfl rfl rfl | (exfalso; apply e; simp_all; done) | (exfalso; apply e; simp_all; exact e (bytes_inj ‹_›))
        apply Stage.nil
        intro w1 h1
        simp only [List.nil_append, List.cons_append]
        refine Fin.is_ ?_
        refine Fin.is_ ?_
        refine Fin.is_ ?_
        refine Fin.is_ ?_
        refine Fin.is_ ?_
        refine Fin.is_ ?_
        refine Fin.is_ ?_
        refine Fin.is_ ?_
        refine Fin.is_ ?_
        refine Fin.nil_ ?_
        go_simp
        go_wp2_with fail
        go_ret
        exact ⟨rfl, hxr.trans h1⟩
    · have hn : b = true := by
        rw [← hb.out]
        unfold sameMk
        rw [decide_eq_true_eq]
        have := hrk.out
        rwa [List.take_of_length_le (by rw [l1.len]; omega), List.take_of_length_le (by rw [l2.len]; omega)] at this
      subst hn
      clear hrk hb
      go_wp2_with fail
      go_ret
      exact ⟨rfl, hxr⟩
end Go.Proofs.Ytoeknbogaclfdaa
