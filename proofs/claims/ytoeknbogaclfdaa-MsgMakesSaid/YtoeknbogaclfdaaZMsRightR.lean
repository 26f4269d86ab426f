/-
  Messages: contract of the reference's RightMsg.
-/
import Derived.Test.YtoeknbogaclfdaaZFromMsPartsToMsRight
import Derived.Test.YtoeknbogaclfdaaZMsPartsR
import Derived.Test.YtoeknbogaclfdaaZReg5
import Derived.Deep.DeepCutAuto
namespace Go.Proofs.Ytoeknbogaclfdaa
open Go.RowKit
set_option linter.unusedVariables false
set_option linter.unusedSimpArgs false
set_option linter.unnecessarySimpa false
set_option maxRecDepth 100000
def bad4 (b1 b2 b3 b4 : Bool) (k : Int) : Bool := ((((((b1 && (k != 1)) && (k != 2)) && (k != 4)) || ((b2 && (k != 1)) && (k != 2))) || ((b3 && (k != 5)) && (k != 6))) || (((b4 && (k != 5)) && (k != 6)) && (k != 9)))
def bad6 (c1 c2 c3 c4 : Bool) (k : Int) : Bool := (((((c1 && (k != 2)) && (k != 4)) || (c2 && (k != 2))) || (c3 && (k != 4))) || (c4 && (k != 6)))
theorem bare_bad {k n p e s q : Int} {ch : List Tg} {en : List En} {mk : List Mk} {da : List UInt8} {b1 b2 b3 b4 c1 c2 c3 c4 : Bool} (hk : 1 ≤ k ∧ k ≤ 9) (h1 : (p != 0) = b1) (h2 : (e != 0) = b2) (h3 : (s != 0) = b3) (h4 : (q != 0) = b4) (g1 : decide (0 < ch.length) = c1) (g2 : decide (0 < en.length) = c2) (g3 : decide (0 < mk.length) = c3) (g4 : decide (0 < da.length) = c4) :
    (bareM ⟨k, n, p, e, s, q, ch, en, mk, da⟩ = ⟨k, n, p, e, s, q, ch, en, mk, da⟩) ↔ bad4 b1 b2 b3 b4 k = false ∧ bad6 c1 c2 c3 c4 k = false := by
  subst h1 h2 h3 h4 g1 g2 g3 g4
  have hz : ∀ {α : Type} (l : List α), decide (0 < l.length) = !decide (([] : List α) = l) := by
    intro α l
    cases l <;> simp
  have hn : ∀ x : Int, (x != 0) = !decide (0 = x) := by
    intro x
    by_cases h : x = 0
    · subst h; rfl
    · have h2 : ¬ 0 = x := fun e => h e.symm
      simp [h, h2]
  rw [hz, hz, hz, hz, hn, hn, hn, hn]
  have hk9 : k = 1 ∨ k = 2 ∨ k = 3 ∨ k = 4 ∨ k = 5 ∨ k = 6 ∨ k = 7 ∨ k = 8 ∨ k = 9 := by omega
  unfold bareM bad4 bad6
  simp only [Ms.mk.injEq, true_and]
  rcases hk9 with rfl | rfl | rfl | rfl | rfl | rfl | rfl | rfl | rfl <;> simp <;> grind
set_option maxHeartbeats 16000000 in
theorem ref_RightMsg {m : Ms} {A1 : Option Addr} {An1 Ac1 : Nat} {A2 : Option Addr} {An2 Ac2 : Nat} {A3 : Option Addr} {An3 Ac3 : Nat} {A4 : Option Addr} {An4 Ac4 : Nat} {w : World} (h : MsR w m A1 An1 Ac1 A2 An2 Ac2 A3 An3 Ac3 A4 An4 Ac4) (hf : Hid (EnFit m.ents)) (hs : Hid (Shorts m.marks)) {r : Bool} (hr : Hid (rightM m = r)) :
    Calls Try.prog 39 #[msV m A1 An1 Ac1 A2 An2 Ac2 A3 An3 Ac3 A4 An4 Ac4] w fun e w' => e = .returned (.bool r) ∧ Ext w w' := by
  have h63 := h.n63
  obtain ⟨k, n, p, e', s, q, ch, en, mk, da⟩ := m
  simp only at hf hs
  obtain ⟨q1, hq1⟩ : ∃ z, decide (1 ≤ k ∧ k ≤ 9) = z := ⟨_, rfl⟩
  obtain ⟨q2, hq2⟩ : ∃ z, decide (1 ≤ n ∧ n ≤ 1099511627776) = z := ⟨_, rfl⟩
  obtain ⟨q3, hq3⟩ : ∃ z, decide (0 ≤ p ∧ p ≤ 1099511627776) = z := ⟨_, rfl⟩
  obtain ⟨q4, hq4⟩ : ∃ z, decide (0 ≤ e' ∧ e' ≤ 1099511627776) = z := ⟨_, rfl⟩
  obtain ⟨q5, hq5⟩ : ∃ z, decide (0 ≤ s ∧ s ≤ 16) = z := ⟨_, rfl⟩
  obtain ⟨q6, hq6⟩ : ∃ z, decide (0 ≤ q ∧ q ≤ 512) = z := ⟨_, rfl⟩
  have H1 := Lib.hid hq1
  have H2 := Lib.hid hq2
  have H3 := Lib.hid hq3
  have H4 := Lib.hid hq4
  have H5 := Lib.hid hq5
  have H6 := Lib.hid hq6
  clear hq1 hq2 hq3 hq4 hq5 hq6
  obtain ⟨b1, hb1⟩ : ∃ z, (p != 0) = z := ⟨_, rfl⟩
  obtain ⟨b2, hb2⟩ : ∃ z, (e' != 0) = z := ⟨_, rfl⟩
  obtain ⟨b3, hb3⟩ : ∃ z, (s != 0) = z := ⟨_, rfl⟩
  obtain ⟨b4, hb4⟩ : ∃ z, (q != 0) = z := ⟨_, rfl⟩
  obtain ⟨c1, hc1⟩ : ∃ z, decide (0 < An1) = z := ⟨_, rfl⟩
  obtain ⟨c2, hc2⟩ : ∃ z, decide (0 < An2) = z := ⟨_, rfl⟩
  obtain ⟨c3, hc3⟩ : ∃ z, decide (0 < An3) = z := ⟨_, rfl⟩
  obtain ⟨c4, hc4⟩ : ∃ z, decide (0 < An4) = z := ⟨_, rfl⟩
  have hi : ∀ i : Nat, decide ((0 : Int) < (i : Int)) = decide (0 < i) := fun i => by rw [decide_eq_decide]; omega
  have hd1 : decide ((0 : Int) < (An1 : Int)) = c1 := by rw [hi, hc1]
  have hd2 : decide ((0 : Int) < (An2 : Int)) = c2 := by rw [hi, hc2]
  have hd3 : decide ((0 : Int) < (An3 : Int)) = c3 := by rw [hi, hc3]
  have hd4 : decide ((0 : Int) < (An4 : Int)) = c4 := by rw [hi, hc4]
  obtain ⟨e1, he1⟩ : ∃ z, (k != 1) = z := ⟨_, rfl⟩
  obtain ⟨e2, he2⟩ : ∃ z, (k != 2) = z := ⟨_, rfl⟩
  obtain ⟨e4, he4⟩ : ∃ z, (k != 4) = z := ⟨_, rfl⟩
  obtain ⟨e5, he5⟩ : ∃ z, (k != 5) = z := ⟨_, rfl⟩
  obtain ⟨e6, he6⟩ : ∃ z, (k != 6) = z := ⟨_, rfl⟩
  obtain ⟨e9, he9⟩ : ∃ z, (k != 9) = z := ⟨_, rfl⟩
  obtain ⟨z46, hz46'⟩ : ∃ z, (b1 && e1) = z := ⟨_, rfl⟩
  have hz46 := Lib.hid hz46'
  obtain ⟨z50, hz50'⟩ : ∃ z, (z46 && e2) = z := ⟨_, rfl⟩
  have hz50 := Lib.hid hz50'
  obtain ⟨z54, hz54'⟩ : ∃ z, (z50 && e4) = z := ⟨_, rfl⟩
  have hz54 := Lib.hid hz54'
  obtain ⟨z62, hz62'⟩ : ∃ z, (b2 && e1) = z := ⟨_, rfl⟩
  have hz62 := Lib.hid hz62'
  obtain ⟨z66, hz66'⟩ : ∃ z, (z62 && e2) = z := ⟨_, rfl⟩
  have hz66 := Lib.hid hz66'
  obtain ⟨z67, hz67'⟩ : ∃ z, (z54 || z66) = z := ⟨_, rfl⟩
  have hz67 := Lib.hid hz67'
  obtain ⟨z75, hz75'⟩ : ∃ z, (b3 && e5) = z := ⟨_, rfl⟩
  have hz75 := Lib.hid hz75'
  obtain ⟨z79, hz79'⟩ : ∃ z, (z75 && e6) = z := ⟨_, rfl⟩
  have hz79 := Lib.hid hz79'
  obtain ⟨z80, hz80'⟩ : ∃ z, (z67 || z79) = z := ⟨_, rfl⟩
  have hz80 := Lib.hid hz80'
  obtain ⟨z88, hz88'⟩ : ∃ z, (b4 && e5) = z := ⟨_, rfl⟩
  have hz88 := Lib.hid hz88'
  obtain ⟨z92, hz92'⟩ : ∃ z, (z88 && e6) = z := ⟨_, rfl⟩
  have hz92 := Lib.hid hz92'
  obtain ⟨z96, hz96'⟩ : ∃ z, (z92 && e9) = z := ⟨_, rfl⟩
  have hz96 := Lib.hid hz96'
  obtain ⟨z97, hz97'⟩ : ∃ z, (z80 || z96) = z := ⟨_, rfl⟩
  have hz97 := Lib.hid hz97'
  obtain ⟨z105, hz105'⟩ : ∃ z, (c1 && e2) = z := ⟨_, rfl⟩
  have hz105 := Lib.hid hz105'
  obtain ⟨z109, hz109'⟩ : ∃ z, (z105 && e4) = z := ⟨_, rfl⟩
  have hz109 := Lib.hid hz109'
  obtain ⟨z118, hz118'⟩ : ∃ z, (c2 && e2) = z := ⟨_, rfl⟩
  have hz118 := Lib.hid hz118'
  obtain ⟨z119, hz119'⟩ : ∃ z, (z109 || z118) = z := ⟨_, rfl⟩
  have hz119 := Lib.hid hz119'
  obtain ⟨z128, hz128'⟩ : ∃ z, (c3 && e4) = z := ⟨_, rfl⟩
  have hz128 := Lib.hid hz128'
  obtain ⟨z129, hz129'⟩ : ∃ z, (z119 || z128) = z := ⟨_, rfl⟩
  have hz129 := Lib.hid hz129'
  obtain ⟨z138, hz138'⟩ : ∃ z, (c4 && e6) = z := ⟨_, rfl⟩
  have hz138 := Lib.hid hz138'
  obtain ⟨z139, hz139'⟩ : ∃ z, (z129 || z138) = z := ⟨_, rfl⟩
  have hz139 := Lib.hid hz139'
  have HBB : Hid (1 ≤ k ∧ k ≤ 9 → ((bareM ⟨k, n, p, e', s, q, ch, en, mk, da⟩ = ⟨k, n, p, e', s, q, ch, en, mk, da⟩) ↔ z97 = false ∧ z139 = false)) := by
    intro hk
    have e4 : bad4 b1 b2 b3 b4 k = z97 := by
      unfold bad4
      rw [he1, he2, he4, he5, he6, he9]
      rw [hz46', hz50', hz54', hz62', hz66', hz67', hz75', hz79', hz80', hz88', hz92', hz96', hz97']
    have e6 : bad6 c1 c2 c3 c4 k = z139 := by
      unfold bad6
      rw [he2, he4, he6]
      rw [hz105', hz109', hz118', hz119', hz128', hz129', hz138', hz139']
    rw [← e4, ← e6]
    exact bare_bad hk hb1 hb2 hb3 hb4 (by rw [← hc1, ← h.ch.len]) (by rw [← hc2, ← h.en.len]) (by rw [← hc3, ← h.ms.len]) (by rw [← hc4, ← h.da.len])
  clear hi hz46' hz50' hz54' hz62' hz66' hz67' hz75' hz79' hz80' hz88' hz92' hz96' hz97' hz105' hz109' hz118' hz119' hz128' hz129' hz138' hz139'
  have HLEN := Lib.hid h.da.len
  obtain ⟨w1, hw1⟩ : ∃ x, x = w.alloc (.cells (msC ⟨k, n, p, e', s, q, ch, en, mk, da⟩ A1 An1 Ac1 A2 An2 Ac2 A3 An3 Ac3 A4 An4 Ac4) TMs) := ⟨_, rfl⟩
  have gx : Ext w w1 := by rw [hw1]; exact Ext.alloc _ _
  have x0 : w1.cell? ⟨w.heap.size, 0, none⟩ = some (.int .i64 k) := by rw [hw1]; exact cell_new w (msC ⟨k, n, p, e', s, q, ch, en, mk, da⟩ A1 An1 Ac1 A2 An2 Ac2 A3 An3 Ac3 A4 An4 Ac4) TMs 0
  have x1 : w1.cell? ⟨w.heap.size, 1, none⟩ = some (.int .i64 n) := by rw [hw1]; exact cell_new w (msC ⟨k, n, p, e', s, q, ch, en, mk, da⟩ A1 An1 Ac1 A2 An2 Ac2 A3 An3 Ac3 A4 An4 Ac4) TMs 1
  have x2 : w1.cell? ⟨w.heap.size, 2, none⟩ = some (.int .i64 p) := by rw [hw1]; exact cell_new w (msC ⟨k, n, p, e', s, q, ch, en, mk, da⟩ A1 An1 Ac1 A2 An2 Ac2 A3 An3 Ac3 A4 An4 Ac4) TMs 2
  have x3 : w1.cell? ⟨w.heap.size, 3, none⟩ = some (.int .i64 e') := by rw [hw1]; exact cell_new w (msC ⟨k, n, p, e', s, q, ch, en, mk, da⟩ A1 An1 Ac1 A2 An2 Ac2 A3 An3 Ac3 A4 An4 Ac4) TMs 3
  have x4 : w1.cell? ⟨w.heap.size, 4, none⟩ = some (.int .i64 s) := by rw [hw1]; exact cell_new w (msC ⟨k, n, p, e', s, q, ch, en, mk, da⟩ A1 An1 Ac1 A2 An2 Ac2 A3 An3 Ac3 A4 An4 Ac4) TMs 4
  have x5 : w1.cell? ⟨w.heap.size, 5, none⟩ = some (.int .i64 q) := by rw [hw1]; exact cell_new w (msC ⟨k, n, p, e', s, q, ch, en, mk, da⟩ A1 An1 Ac1 A2 An2 Ac2 A3 An3 Ac3 A4 An4 Ac4) TMs 5
  have x6 : w1.cell? ⟨w.heap.size, 6, none⟩ = some (.slice A1 An1 Ac1) := by rw [hw1]; exact cell_new w (msC ⟨k, n, p, e', s, q, ch, en, mk, da⟩ A1 An1 Ac1 A2 An2 Ac2 A3 An3 Ac3 A4 An4 Ac4) TMs 6
  have x7 : w1.cell? ⟨w.heap.size, 7, none⟩ = some (.slice A2 An2 Ac2) := by rw [hw1]; exact cell_new w (msC ⟨k, n, p, e', s, q, ch, en, mk, da⟩ A1 An1 Ac1 A2 An2 Ac2 A3 An3 Ac3 A4 An4 Ac4) TMs 7
  have x8 : w1.cell? ⟨w.heap.size, 8, none⟩ = some (.slice A3 An3 Ac3) := by rw [hw1]; exact cell_new w (msC ⟨k, n, p, e', s, q, ch, en, mk, da⟩ A1 An1 Ac1 A2 An2 Ac2 A3 An3 Ac3 A4 An4 Ac4) TMs 8
  have x9 : w1.cell? ⟨w.heap.size, 9, none⟩ = some (.slice A4 An4 Ac4) := by rw [hw1]; exact cell_new w (msC ⟨k, n, p, e', s, q, ch, en, mk, da⟩ A1 An1 Ac1 A2 An2 Ac2 A3 An3 Ac3 A4 An4 Ac4) TMs 9
  go_enter Try.func39, Try.ntmps39
  go_wp2_with fail
  rw [← hw1]
  clear hw1
  refine (ref_between _ _ _ _ H1).mono ?_
  rintro e _ ⟨rfl, rfl⟩
  cases q1 with
  | false =>
    have hno := of_decide_eq_false H1.out
    obtain rfl := rightM_no hr (by intro hh; exact hno hh.1)
    clear hr hno
    go_wp2_with fail
    go_ret
    exact ⟨rfl, gx⟩
  | true =>
  go_wp2_with fail
  refine (ref_between _ _ _ _ H2).mono ?_
  rintro e _ ⟨rfl, rfl⟩
  cases q2 with
  | false =>
    have hno := of_decide_eq_false H2.out
    obtain rfl := rightM_no hr (by intro hh; exact hno hh.2.2.1.1)
    clear hr hno
    go_wp2_with fail
    go_ret
    exact ⟨rfl, gx⟩
  | true =>
  go_wp2_with fail
  refine (ref_between _ _ _ _ H3).mono ?_
  rintro e _ ⟨rfl, rfl⟩
  cases q3 with
  | false =>
    have hno := of_decide_eq_false H3.out
    obtain rfl := rightM_no hr (by intro hh; exact hno hh.2.2.1.2.1)
    clear hr hno
    go_wp2_with fail
    go_ret
    exact ⟨rfl, gx⟩
  | true =>
  go_wp2_with fail
  refine (ref_between _ _ _ _ H4).mono ?_
  rintro e _ ⟨rfl, rfl⟩
  cases q4 with
  | false =>
    have hno := of_decide_eq_false H4.out
    obtain rfl := rightM_no hr (by intro hh; exact hno hh.2.2.1.2.2.1)
    clear hr hno
    go_wp2_with fail
    go_ret
    exact ⟨rfl, gx⟩
  | true =>
  go_wp2_with fail
  refine (ref_between _ _ _ _ H5).mono ?_
  rintro e _ ⟨rfl, rfl⟩
  cases q5 with
  | false =>
    have hno := of_decide_eq_false H5.out
    obtain rfl := rightM_no hr (by intro hh; exact hno hh.2.2.1.2.2.2.1)
    clear hr hno
    go_wp2_with fail
    go_ret
    exact ⟨rfl, gx⟩
  | true =>
  go_wp2_with fail
  refine (ref_between _ _ _ _ H6).mono ?_
  rintro e _ ⟨rfl, rfl⟩
  cases q6 with
  | false =>
    have hno := of_decide_eq_false H6.out
    obtain rfl := rightM_no hr (by intro hh; exact hno hh.2.2.1.2.2.2.2)
    clear hr hno
    go_wp2_with fail
    go_ret
    exact ⟨rfl, gx⟩
  | true =>
  have HK := Lib.hid (of_decide_eq_true H1.out)
  go_upto_region 4 with fail
  go_cut [97] (fun s97 wx => s97 = .bool z97 ∧ Ext w1 wx)
  case first =>
    refine wp_region_seq Ext.steady 160 ?hn ?hok ?hst
    case hn => rfl
    case hok => kernel_rfl
    case hst =>
    apply Stage.step (Is (.pointer (some ⟨w.heap.size, 2, none⟩))) [] (Is.keeps _) (by kernel_rfl)
    · intro w1 h1
      simp only [Given]
      all_goals go_wp2_with fail
      all_goals first | exact Post.isv (Ext.refl _) rfl rfl rfl | exact (undef_notM ‹some undef = some (Value.bool _)›).elim
    apply Stage.step (Is (.int .i64 p)) [true] (Is.keeps _) (by kernel_rfl)
    · intro w1 h1
      simp only [List.nil_append, Given]
      rintro _ rfl
      have q0 := h1.cell x2
      all_goals go_wp2_with fail
      all_goals first | exact Post.isv (Ext.refl _) rfl rfl rfl | exact (undef_notM ‹some undef = some (Value.bool _)›).elim
    apply Stage.step (Is (.bool b1)) [false, true] (Is.keeps _) (by kernel_rfl)
    · intro w1 h1
      simp only [List.nil_append, List.cons_append, Given]
      rintro _ rfl
      all_goals go_wp2_with fail
      all_goals first | exact Post.isv (Ext.refl _) rfl rfl rfl | exact (undef_notM ‹some undef = some (Value.bool _)›).elim
    apply Stage.step (Is (.bool b1)) [false, false, true] (Is.keeps _) (by kernel_rfl)
    · intro w1 h1
      simp only [List.nil_append, List.cons_append, Given]
      rintro _ rfl
      all_goals go_wp2_with fail
      all_goals first | exact Post.isv (Ext.refl _) rfl rfl rfl | exact (undef_notM ‹some undef = some (Value.bool _)›).elim
    apply Stage.step (Is (if (b1) = true then (.int .i64 k) else undef)) [false, false, false, true] (Is.keeps _) (by kernel_rfl)
    · intro w1 h1
      simp only [List.nil_append, List.cons_append, Given]
      rintro _ rfl
      all_goals cases b1
      all_goals go_wp2_with fail
      all_goals first | exact Post.isv (Ext.refl _) rfl rfl rfl | exact (undef_notM ‹some undef = some (Value.bool _)›).elim
    apply Stage.step (Is (if (b1) = true then (.bool e1) else undef)) [false, false, false, true, true] (Is.keeps _) (by kernel_rfl)
    · intro w1 h1
      simp only [List.nil_append, List.cons_append, Given]
      rintro _ rfl
      rintro _ rfl
      all_goals cases b1
      all_goals go_wp2_with fail
      all_goals first | exact Post.isv (Ext.refl _) rfl rfl rfl | exact (undef_notM ‹some undef = some (Value.bool _)›).elim
    apply Stage.step (Is (.bool z46)) [false, false, false, true, false, true] (Is.keeps _) (by kernel_rfl)
    · intro w1 h1
      simp only [List.nil_append, List.cons_append, Given]
      rintro _ rfl
      rintro _ rfl
      obtain rfl := hz46.out
      all_goals cases b1
      all_goals go_wp2_with fail
      all_goals first | exact Post.isv (Ext.refl _) rfl rfl rfl | exact (undef_notM ‹some undef = some (Value.bool _)›).elim
    apply Stage.step (Is (.bool z46)) [false, false, false, false, false, false, true] (Is.keeps _) (by kernel_rfl)
    · intro w1 h1
      simp only [List.nil_append, List.cons_append, Given]
      rintro _ rfl
      all_goals go_wp2_with fail
      all_goals first | exact Post.isv (Ext.refl _) rfl rfl rfl | exact (undef_notM ‹some undef = some (Value.bool _)›).elim
    apply Stage.step (Is (if (z46) = true then (.int .i64 k) else undef)) [false, false, false, false, false, false, false, true] (Is.keeps _) (by kernel_rfl)
    · intro w1 h1
      simp only [List.nil_append, List.cons_append, Given]
      rintro _ rfl
      all_goals cases z46
      all_goals go_wp2_with fail
      all_goals first | exact Post.isv (Ext.refl _) rfl rfl rfl | exact (undef_notM ‹some undef = some (Value.bool _)›).elim
    apply Stage.step (Is (if (z46) = true then (.bool e2) else undef)) [false, false, false, false, false, false, false, true, true] (Is.keeps _) (by kernel_rfl)
    · intro w1 h1
      simp only [List.nil_append, List.cons_append, Given]
      rintro _ rfl
      rintro _ rfl
      all_goals cases z46
      all_goals go_wp2_with fail
      all_goals first | exact Post.isv (Ext.refl _) rfl rfl rfl | exact (undef_notM ‹some undef = some (Value.bool _)›).elim
    apply Stage.step (Is (.bool z50)) [false, false, false, false, false, false, false, true, false, true] (Is.keeps _) (by kernel_rfl)
    · intro w1 h1
      simp only [List.nil_append, List.cons_append, Given]
      rintro _ rfl
      rintro _ rfl
      obtain rfl := hz50.out
      all_goals cases z46
      all_goals go_wp2_with fail
      all_goals first | exact Post.isv (Ext.refl _) rfl rfl rfl | exact (undef_notM ‹some undef = some (Value.bool _)›).elim
    apply Stage.step (Is (.bool z50)) [false, false, false, false, false, false, false, false, false, false, true] (Is.keeps _) (by kernel_rfl)
    · intro w1 h1
      simp only [List.nil_append, List.cons_append, Given]
      rintro _ rfl
      all_goals go_wp2_with fail
      all_goals first | exact Post.isv (Ext.refl _) rfl rfl rfl | exact (undef_notM ‹some undef = some (Value.bool _)›).elim
    apply Stage.step (Is (if (z50) = true then (.int .i64 k) else undef)) [false, false, false, false, false, false, false, false, false, false, false, true] (Is.keeps _) (by kernel_rfl)
    · intro w1 h1
      simp only [List.nil_append, List.cons_append, Given]
      rintro _ rfl
      all_goals cases z50
      all_goals go_wp2_with fail
      all_goals first | exact Post.isv (Ext.refl _) rfl rfl rfl | exact (undef_notM ‹some undef = some (Value.bool _)›).elim
    apply Stage.step (Is (if (z50) = true then (.bool e4) else undef)) [false, false, false, false, false, false, false, false, false, false, false, true, true] (Is.keeps _) (by kernel_rfl)
    · intro w1 h1
      simp only [List.nil_append, List.cons_append, Given]
      rintro _ rfl
      rintro _ rfl
      all_goals cases z50
      all_goals go_wp2_with fail
      all_goals first | exact Post.isv (Ext.refl _) rfl rfl rfl | exact (undef_notM ‹some undef = some (Value.bool _)›).elim
    apply Stage.step (Is (.bool z54)) [false, false, false, false, false, false, false, false, false, false, false, true, false, true] (Is.keeps _) (by kernel_rfl)
    · intro w1 h1
      simp only [List.nil_append, List.cons_append, Given]
      rintro _ rfl
      rintro _ rfl
      obtain rfl := hz54.out
      all_goals cases z50
      all_goals go_wp2_with fail
      all_goals first | exact Post.isv (Ext.refl _) rfl rfl rfl | exact (undef_notM ‹some undef = some (Value.bool _)›).elim
    apply Stage.step (Is (.bool z54)) [false, false, false, false, false, false, false, false, false, false, false, false, false, false, true] (Is.keeps _) (by kernel_rfl)
    · intro w1 h1
      simp only [List.nil_append, List.cons_append, Given]
      rintro _ rfl
      all_goals go_wp2_with fail
      all_goals first | exact Post.isv (Ext.refl _) rfl rfl rfl | exact (undef_notM ‹some undef = some (Value.bool _)›).elim
    apply Stage.step (Is (if (!z54) = true then (.pointer (some ⟨w.heap.size, 3, none⟩)) else undef)) [false, false, false, false, false, false, false, false, false, false, false, false, false, false, false, true] (Is.keeps _) (by kernel_rfl)
    · intro w1 h1
      simp only [List.nil_append, List.cons_append, Given]
      rintro _ rfl
      all_goals cases z54
      all_goals go_wp2_with fail
      all_goals first | exact Post.isv (Ext.refl _) rfl rfl rfl | exact (undef_notM ‹some undef = some (Value.bool _)›).elim
    apply Stage.step (Is (if (!z54) = true then (.int .i64 e') else undef)) [false, false, false, false, false, false, false, false, false, false, false, false, false, false, false, true, true] (Is.keeps _) (by kernel_rfl)
    · intro w1 h1
      simp only [List.nil_append, List.cons_append, Given]
      rintro _ rfl
      rintro _ rfl
      have q0 := h1.cell x3
      all_goals cases z54
      all_goals go_wp2_with fail
      all_goals first | exact Post.isv (Ext.refl _) rfl rfl rfl | exact (undef_notM ‹some undef = some (Value.bool _)›).elim
    apply Stage.step (Is (if (!z54) = true then (.bool b2) else undef)) [false, false, false, false, false, false, false, false, false, false, false, false, false, false, false, true, false, true] (Is.keeps _) (by kernel_rfl)
    · intro w1 h1
      simp only [List.nil_append, List.cons_append, Given]
      rintro _ rfl
      rintro _ rfl
      all_goals cases z54
      all_goals go_wp2_with fail
      all_goals first | exact Post.isv (Ext.refl _) rfl rfl rfl | exact (undef_notM ‹some undef = some (Value.bool _)›).elim
    apply Stage.step (Is (if (!z54) = true then (.bool b2) else undef)) [false, false, false, false, false, false, false, false, false, false, false, false, false, false, false, true, false, false, true] (Is.keeps _) (by kernel_rfl)
    · intro w1 h1
      simp only [List.nil_append, List.cons_append, Given]
      rintro _ rfl
      rintro _ rfl
      all_goals cases z54
      all_goals go_wp2_with fail
      all_goals first | exact Post.isv (Ext.refl _) rfl rfl rfl | exact (undef_notM ‹some undef = some (Value.bool _)›).elim
    apply Stage.step (Is (if (!z54 && b2) = true then (.int .i64 k) else undef)) [false, false, false, false, false, false, false, false, false, false, false, false, false, false, false, false, false, false, false, true] (Is.keeps _) (by kernel_rfl)
    · intro w1 h1
      simp only [List.nil_append, List.cons_append, Given]
      rintro _ rfl
      all_goals cases z54
      all_goals cases b2
      all_goals go_wp2_with fail
      all_goals first | exact Post.isv (Ext.refl _) rfl rfl rfl | exact (undef_notM ‹some undef = some (Value.bool _)›).elim
    apply Stage.step (Is (if (!z54 && b2) = true then (.bool e1) else undef)) [false, false, false, false, false, false, false, false, false, false, false, false, false, false, false, false, false, false, false, true, true] (Is.keeps _) (by kernel_rfl)
    · intro w1 h1
      simp only [List.nil_append, List.cons_append, Given]
      rintro _ rfl
      rintro _ rfl
      all_goals cases z54
      all_goals cases b2
      all_goals go_wp2_with fail
      all_goals first | exact Post.isv (Ext.refl _) rfl rfl rfl | exact (undef_notM ‹some undef = some (Value.bool _)›).elim
    apply Stage.step (Is (if (!z54) = true then (.bool z62) else undef)) [false, false, false, false, false, false, false, false, false, false, false, false, false, false, false, true, false, false, false, true, false, true] (Is.keeps _) (by kernel_rfl)
    · intro w1 h1
      simp only [List.nil_append, List.cons_append, Given]
      rintro _ rfl
      rintro _ rfl
      rintro _ rfl
      obtain rfl := hz62.out
      all_goals cases z54
      all_goals cases b2
      all_goals go_wp2_with fail
      all_goals first | exact Post.isv (Ext.refl _) rfl rfl rfl | exact (undef_notM ‹some undef = some (Value.bool _)›).elim
    apply Stage.step (Is (if (!z54) = true then (.bool z62) else undef)) [false, false, false, false, false, false, false, false, false, false, false, false, false, false, false, true, false, false, false, false, false, false, true] (Is.keeps _) (by kernel_rfl)
    · intro w1 h1
      simp only [List.nil_append, List.cons_append, Given]
      rintro _ rfl
      rintro _ rfl
      all_goals cases z54
      all_goals go_wp2_with fail
      all_goals first | exact Post.isv (Ext.refl _) rfl rfl rfl | exact (undef_notM ‹some undef = some (Value.bool _)›).elim
    apply Stage.step (Is (if (!z54 && z62) = true then (.int .i64 k) else undef)) [false, false, false, false, false, false, false, false, false, false, false, false, false, false, false, false, false, false, false, false, false, false, false, true] (Is.keeps _) (by kernel_rfl)
    · intro w1 h1
      simp only [List.nil_append, List.cons_append, Given]
      rintro _ rfl
      all_goals cases z54
      all_goals cases z62
      all_goals go_wp2_with fail
      all_goals first | exact Post.isv (Ext.refl _) rfl rfl rfl | exact (undef_notM ‹some undef = some (Value.bool _)›).elim
    apply Stage.step (Is (if (!z54 && z62) = true then (.bool e2) else undef)) [false, false, false, false, false, false, false, false, false, false, false, false, false, false, false, false, false, false, false, false, false, false, false, true, true] (Is.keeps _) (by kernel_rfl)
    · intro w1 h1
      simp only [List.nil_append, List.cons_append, Given]
      rintro _ rfl
      rintro _ rfl
      all_goals cases z54
      all_goals cases z62
      all_goals go_wp2_with fail
      all_goals first | exact Post.isv (Ext.refl _) rfl rfl rfl | exact (undef_notM ‹some undef = some (Value.bool _)›).elim
    apply Stage.step (Is (if (!z54) = true then (.bool z66) else undef)) [false, false, false, false, false, false, false, false, false, false, false, false, false, false, false, true, false, false, false, false, false, false, false, true, false, true] (Is.keeps _) (by kernel_rfl)
    · intro w1 h1
      simp only [List.nil_append, List.cons_append, Given]
      rintro _ rfl
      rintro _ rfl
      rintro _ rfl
      obtain rfl := hz66.out
      all_goals cases z54
      all_goals cases z62
      all_goals go_wp2_with fail
      all_goals first | exact Post.isv (Ext.refl _) rfl rfl rfl | exact (undef_notM ‹some undef = some (Value.bool _)›).elim
    apply Stage.step (Is (.bool z67)) [false, false, false, false, false, false, false, false, false, false, false, false, false, false, false, true, false, false, false, false, false, false, false, false, false, false, true] (Is.keeps _) (by kernel_rfl)
    · intro w1 h1
      simp only [List.nil_append, List.cons_append, Given]
      rintro _ rfl
      rintro _ rfl
      obtain rfl := hz67.out
      all_goals cases z54
      all_goals go_wp2_with fail
      all_goals first | exact Post.isv (Ext.refl _) rfl rfl rfl | exact (undef_notM ‹some undef = some (Value.bool _)›).elim
    apply Stage.step (Is (.bool z67)) [false, false, false, false, false, false, false, false, false, false, false, false, false, false, false, false, false, false, false, false, false, false, false, false, false, false, false, true] (Is.keeps _) (by kernel_rfl)
    · intro w1 h1
      simp only [List.nil_append, List.cons_append, Given]
      rintro _ rfl
      all_goals go_wp2_with fail
      all_goals first | exact Post.isv (Ext.refl _) rfl rfl rfl | exact (undef_notM ‹some undef = some (Value.bool _)›).elim
    apply Stage.step (Is (if (!z67) = true then (.pointer (some ⟨w.heap.size, 4, none⟩)) else undef)) [false, false, false, false, false, false, false, false, false, false, false, false, false, false, false, false, false, false, false, false, false, false, false, false, false, false, false, false, true] (Is.keeps _) (by kernel_rfl)
    · intro w1 h1
      simp only [List.nil_append, List.cons_append, Given]
      rintro _ rfl
      all_goals cases z67
      all_goals go_wp2_with fail
      all_goals first | exact Post.isv (Ext.refl _) rfl rfl rfl | exact (undef_notM ‹some undef = some (Value.bool _)›).elim
    apply Stage.step (Is (if (!z67) = true then (.int .i64 s) else undef)) [false, false, false, false, false, false, false, false, false, false, false, false, false, false, false, false, false, false, false, false, false, false, false, false, false, false, false, false, true, true] (Is.keeps _) (by kernel_rfl)
    · intro w1 h1
      simp only [List.nil_append, List.cons_append, Given]
      rintro _ rfl
      rintro _ rfl
      have q0 := h1.cell x4
      all_goals cases z67
      all_goals go_wp2_with fail
      all_goals first | exact Post.isv (Ext.refl _) rfl rfl rfl | exact (undef_notM ‹some undef = some (Value.bool _)›).elim
    apply Stage.step (Is (if (!z67) = true then (.bool b3) else undef)) [false, false, false, false, false, false, false, false, false, false, false, false, false, false, false, false, false, false, false, false, false, false, false, false, false, false, false, false, true, false, true] (Is.keeps _) (by kernel_rfl)
    · intro w1 h1
      simp only [List.nil_append, List.cons_append, Given]
      rintro _ rfl
      rintro _ rfl
      all_goals cases z67
      all_goals go_wp2_with fail
      all_goals first | exact Post.isv (Ext.refl _) rfl rfl rfl | exact (undef_notM ‹some undef = some (Value.bool _)›).elim
    apply Stage.step (Is (if (!z67) = true then (.bool b3) else undef)) [false, false, false, false, false, false, false, false, false, false, false, false, false, false, false, false, false, false, false, false, false, false, false, false, false, false, false, false, true, false, false, true] (Is.keeps _) (by kernel_rfl)
    · intro w1 h1
      simp only [List.nil_append, List.cons_append, Given]
      rintro _ rfl
      rintro _ rfl
      all_goals cases z67
      all_goals go_wp2_with fail
      all_goals first | exact Post.isv (Ext.refl _) rfl rfl rfl | exact (undef_notM ‹some undef = some (Value.bool _)›).elim
    apply Stage.step (Is (if (!z67 && b3) = true then (.int .i64 k) else undef)) [false, false, false, false, false, false, false, false, false, false, false, false, false, false, false, false, false, false, false, false, false, false, false, false, false, false, false, false, false, false, false, false, true] (Is.keeps _) (by kernel_rfl)
    · intro w1 h1
      simp only [List.nil_append, List.cons_append, Given]
      rintro _ rfl
      all_goals cases z67
      all_goals cases b3
      all_goals go_wp2_with fail
      all_goals first | exact Post.isv (Ext.refl _) rfl rfl rfl | exact (undef_notM ‹some undef = some (Value.bool _)›).elim
    apply Stage.step (Is (if (!z67 && b3) = true then (.bool e5) else undef)) [false, false, false, false, false, false, false, false, false, false, false, false, false, false, false, false, false, false, false, false, false, false, false, false, false, false, false, false, false, false, false, false, true, true] (Is.keeps _) (by kernel_rfl)
    · intro w1 h1
      simp only [List.nil_append, List.cons_append, Given]
      rintro _ rfl
      rintro _ rfl
      all_goals cases z67
      all_goals cases b3
      all_goals go_wp2_with fail
      all_goals first | exact Post.isv (Ext.refl _) rfl rfl rfl | exact (undef_notM ‹some undef = some (Value.bool _)›).elim
    apply Stage.step (Is (if (!z67) = true then (.bool z75) else undef)) [false, false, false, false, false, false, false, false, false, false, false, false, false, false, false, false, false, false, false, false, false, false, false, false, false, false, false, false, true, false, false, false, true, false, true] (Is.keeps _) (by kernel_rfl)
    · intro w1 h1
      simp only [List.nil_append, List.cons_append, Given]
      rintro _ rfl
      rintro _ rfl
      rintro _ rfl
      obtain rfl := hz75.out
      all_goals cases z67
      all_goals cases b3
      all_goals go_wp2_with fail
      all_goals first | exact Post.isv (Ext.refl _) rfl rfl rfl | exact (undef_notM ‹some undef = some (Value.bool _)›).elim
    apply Stage.step (Is (if (!z67) = true then (.bool z75) else undef)) [false, false, false, false, false, false, false, false, false, false, false, false, false, false, false, false, false, false, false, false, false, false, false, false, false, false, false, false, true, false, false, false, false, false, false, true] (Is.keeps _) (by kernel_rfl)
    · intro w1 h1
      simp only [List.nil_append, List.cons_append, Given]
      rintro _ rfl
      rintro _ rfl
      all_goals cases z67
      all_goals go_wp2_with fail
      all_goals first | exact Post.isv (Ext.refl _) rfl rfl rfl | exact (undef_notM ‹some undef = some (Value.bool _)›).elim
    apply Stage.step (Is (if (!z67 && z75) = true then (.int .i64 k) else undef)) [false, false, false, false, false, false, false, false, false, false, false, false, false, false, false, false, false, false, false, false, false, false, false, false, false, false, false, false, false, false, false, false, false, false, false, false, true] (Is.keeps _) (by kernel_rfl)
    · intro w1 h1
      simp only [List.nil_append, List.cons_append, Given]
      rintro _ rfl
      all_goals cases z67
      all_goals cases z75
      all_goals go_wp2_with fail
      all_goals first | exact Post.isv (Ext.refl _) rfl rfl rfl | exact (undef_notM ‹some undef = some (Value.bool _)›).elim
    apply Stage.step (Is (if (!z67 && z75) = true then (.bool e6) else undef)) [false, false, false, false, false, false, false, false, false, false, false, false, false, false, false, false, false, false, false, false, false, false, false, false, false, false, false, false, false, false, false, false, false, false, false, false, true, true] (Is.keeps _) (by kernel_rfl)
    · intro w1 h1
      simp only [List.nil_append, List.cons_append, Given]
      rintro _ rfl
      rintro _ rfl
      all_goals cases z67
      all_goals cases z75
      all_goals go_wp2_with fail
      all_goals first | exact Post.isv (Ext.refl _) rfl rfl rfl | exact (undef_notM ‹some undef = some (Value.bool _)›).elim
    apply Stage.step (Is (if (!z67) = true then (.bool z79) else undef)) [false, false, false, false, false, false, false, false, false, false, false, false, false, false, false, false, false, false, false, false, false, false, false, false, false, false, false, false, true, false, false, false, false, false, false, false, true, false, true] (Is.keeps _) (by kernel_rfl)
    · intro w1 h1
      simp only [List.nil_append, List.cons_append, Given]
      rintro _ rfl
      rintro _ rfl
      rintro _ rfl
      obtain rfl := hz79.out
      all_goals cases z67
      all_goals cases z75
      all_goals go_wp2_with fail
      all_goals first | exact Post.isv (Ext.refl _) rfl rfl rfl | exact (undef_notM ‹some undef = some (Value.bool _)›).elim
    apply Stage.step (Is (.bool z80)) [false, false, false, false, false, false, false, false, false, false, false, false, false, false, false, false, false, false, false, false, false, false, false, false, false, false, false, false, true, false, false, false, false, false, false, false, false, false, false, true] (Is.keeps _) (by kernel_rfl)
    · intro w1 h1
      simp only [List.nil_append, List.cons_append, Given]
      rintro _ rfl
      rintro _ rfl
      obtain rfl := hz80.out
      all_goals cases z67
      all_goals go_wp2_with fail
      all_goals first | exact Post.isv (Ext.refl _) rfl rfl rfl | exact (undef_notM ‹some undef = some (Value.bool _)›).elim
    apply Stage.step (Is (.bool z80)) [false, false, false, false, false, false, false, false, false, false, false, false, false, false, false, false, false, false, false, false, false, false, false, false, false, false, false, false, false, false, false, false, false, false, false, false, false, false, false, false, true] (Is.keeps _) (by kernel_rfl)
    · intro w1 h1
      simp only [List.nil_append, List.cons_append, Given]
      rintro _ rfl
      all_goals go_wp2_with fail
      all_goals first | exact Post.isv (Ext.refl _) rfl rfl rfl | exact (undef_notM ‹some undef = some (Value.bool _)›).elim
    apply Stage.step (Is (if (!z80) = true then (.pointer (some ⟨w.heap.size, 5, none⟩)) else undef)) [false, false, false, false, false, false, false, false, false, false, false, false, false, false, false, false, false, false, false, false, false, false, false, false, false, false, false, false, false, false, false, false, false, false, false, false, false, false, false, false, false, true] (Is.keeps _) (by kernel_rfl)
    · intro w1 h1
      simp only [List.nil_append, List.cons_append, Given]
      rintro _ rfl
      all_goals cases z80
      all_goals go_wp2_with fail
      all_goals first | exact Post.isv (Ext.refl _) rfl rfl rfl | exact (undef_notM ‹some undef = some (Value.bool _)›).elim
    apply Stage.step (Is (if (!z80) = true then (.int .i64 q) else undef)) [false, false, false, false, false, false, false, false, false, false, false, false, false, false, false, false, false, false, false, false, false, false, false, false, false, false, false, false, false, false, false, false, false, false, false, false, false, false, false, false, false, true, true] (Is.keeps _) (by kernel_rfl)
    · intro w1 h1
      simp only [List.nil_append, List.cons_append, Given]
      rintro _ rfl
      rintro _ rfl
      have q0 := h1.cell x5
      all_goals cases z80
      all_goals go_wp2_with fail
      all_goals first | exact Post.isv (Ext.refl _) rfl rfl rfl | exact (undef_notM ‹some undef = some (Value.bool _)›).elim
    apply Stage.step (Is (if (!z80) = true then (.bool b4) else undef)) [false, false, false, false, false, false, false, false, false, false, false, false, false, false, false, false, false, false, false, false, false, false, false, false, false, false, false, false, false, false, false, false, false, false, false, false, false, false, false, false, false, true, false, true] (Is.keeps _) (by kernel_rfl)
    · intro w1 h1
      simp only [List.nil_append, List.cons_append, Given]
      rintro _ rfl
      rintro _ rfl
      all_goals cases z80
      all_goals go_wp2_with fail
      all_goals first | exact Post.isv (Ext.refl _) rfl rfl rfl | exact (undef_notM ‹some undef = some (Value.bool _)›).elim
    apply Stage.step (Is (if (!z80) = true then (.bool b4) else undef)) [false, false, false, false, false, false, false, false, false, false, false, false, false, false, false, false, false, false, false, false, false, false, false, false, false, false, false, false, false, false, false, false, false, false, false, false, false, false, false, false, false, true, false, false, true] (Is.keeps _) (by kernel_rfl)
    · intro w1 h1
      simp only [List.nil_append, List.cons_append, Given]
      rintro _ rfl
      rintro _ rfl
      all_goals cases z80
      all_goals go_wp2_with fail
      all_goals first | exact Post.isv (Ext.refl _) rfl rfl rfl | exact (undef_notM ‹some undef = some (Value.bool _)›).elim
    apply Stage.step (Is (if (!z80 && b4) = true then (.int .i64 k) else undef)) [false, false, false, false, false, false, false, false, false, false, false, false, false, false, false, false, false, false, false, false, false, false, false, false, false, false, false, false, false, false, false, false, false, false, false, false, false, false, false, false, false, false, false, false, false, true] (Is.keeps _) (by kernel_rfl)
    · intro w1 h1
      simp only [List.nil_append, List.cons_append, Given]
      rintro _ rfl
      all_goals cases z80
      all_goals cases b4
      all_goals go_wp2_with fail
      all_goals first | exact Post.isv (Ext.refl _) rfl rfl rfl | exact (undef_notM ‹some undef = some (Value.bool _)›).elim
    apply Stage.step (Is (if (!z80 && b4) = true then (.bool e5) else undef)) [false, false, false, false, false, false, false, false, false, false, false, false, false, false, false, false, false, false, false, false, false, false, false, false, false, false, false, false, false, false, false, false, false, false, false, false, false, false, false, false, false, false, false, false, false, true, true] (Is.keeps _) (by kernel_rfl)
    · intro w1 h1
      simp only [List.nil_append, List.cons_append, Given]
      rintro _ rfl
      rintro _ rfl
      all_goals cases z80
      all_goals cases b4
      all_goals go_wp2_with fail
      all_goals first | exact Post.isv (Ext.refl _) rfl rfl rfl | exact (undef_notM ‹some undef = some (Value.bool _)›).elim
    apply Stage.step (Is (if (!z80) = true then (.bool z88) else undef)) [false, false, false, false, false, false, false, false, false, false, false, false, false, false, false, false, false, false, false, false, false, false, false, false, false, false, false, false, false, false, false, false, false, false, false, false, false, false, false, false, false, true, false, false, false, true, false, true] (Is.keeps _) (by kernel_rfl)
    · intro w1 h1
      simp only [List.nil_append, List.cons_append, Given]
      rintro _ rfl
      rintro _ rfl
      rintro _ rfl
      obtain rfl := hz88.out
      all_goals cases z80
      all_goals cases b4
      all_goals go_wp2_with fail
      all_goals first | exact Post.isv (Ext.refl _) rfl rfl rfl | exact (undef_notM ‹some undef = some (Value.bool _)›).elim
    apply Stage.step (Is (if (!z80) = true then (.bool z88) else undef)) [false, false, false, false, false, false, false, false, false, false, false, false, false, false, false, false, false, false, false, false, false, false, false, false, false, false, false, false, false, false, false, false, false, false, false, false, false, false, false, false, false, true, false, false, false, false, false, false, true] (Is.keeps _) (by kernel_rfl)
    · intro w1 h1
      simp only [List.nil_append, List.cons_append, Given]
      rintro _ rfl
      rintro _ rfl
      all_goals cases z80
      all_goals go_wp2_with fail
      all_goals first | exact Post.isv (Ext.refl _) rfl rfl rfl | exact (undef_notM ‹some undef = some (Value.bool _)›).elim
    apply Stage.step (Is (if (!z80 && z88) = true then (.int .i64 k) else undef)) [false, false, false, false, false, false, false, false, false, false, false, false, false, false, false, false, false, false, false, false, false, false, false, false, false, false, false, false, false, false, false, false, false, false, false, false, false, false, false, false, false, false, false, false, false, false, false, false, false, true] (Is.keeps _) (by kernel_rfl)
    · intro w1 h1
      simp only [List.nil_append, List.cons_append, Given]
      rintro _ rfl
      all_goals cases z80
      all_goals cases z88
      all_goals go_wp2_with fail
      all_goals first | exact Post.isv (Ext.refl _) rfl rfl rfl | exact (undef_notM ‹some undef = some (Value.bool _)›).elim
    apply Stage.step (Is (if (!z80 && z88) = true then (.bool e6) else undef)) [false, false, false, false, false, false, false, false, false, false, false, false, false, false, false, false, false, false, false, false, false, false, false, false, false, false, false, false, false, false, false, false, false, false, false, false, false, false, false, false, false, false, false, false, false, false, false, false, false, true, true] (Is.keeps _) (by kernel_rfl)
    · intro w1 h1
      simp only [List.nil_append, List.cons_append, Given]
      rintro _ rfl
      rintro _ rfl
      all_goals cases z80
      all_goals cases z88
      all_goals go_wp2_with fail
      all_goals first | exact Post.isv (Ext.refl _) rfl rfl rfl | exact (undef_notM ‹some undef = some (Value.bool _)›).elim
    apply Stage.step (Is (if (!z80) = true then (.bool z92) else undef)) [false, false, false, false, false, false, false, false, false, false, false, false, false, false, false, false, false, false, false, false, false, false, false, false, false, false, false, false, false, false, false, false, false, false, false, false, false, false, false, false, false, true, false, false, false, false, false, false, false, true, false, true] (Is.keeps _) (by kernel_rfl)
    · intro w1 h1
      simp only [List.nil_append, List.cons_append, Given]
      rintro _ rfl
      rintro _ rfl
      rintro _ rfl
      obtain rfl := hz92.out
      all_goals cases z80
      all_goals cases z88
      all_goals go_wp2_with fail
      all_goals first | exact Post.isv (Ext.refl _) rfl rfl rfl | exact (undef_notM ‹some undef = some (Value.bool _)›).elim
    apply Stage.step (Is (if (!z80) = true then (.bool z92) else undef)) [false, false, false, false, false, false, false, false, false, false, false, false, false, false, false, false, false, false, false, false, false, false, false, false, false, false, false, false, false, false, false, false, false, false, false, false, false, false, false, false, false, true, false, false, false, false, false, false, false, false, false, false, true] (Is.keeps _) (by kernel_rfl)
    · intro w1 h1
      simp only [List.nil_append, List.cons_append, Given]
      rintro _ rfl
      rintro _ rfl
      all_goals cases z80
      all_goals go_wp2_with fail
      all_goals first | exact Post.isv (Ext.refl _) rfl rfl rfl | exact (undef_notM ‹some undef = some (Value.bool _)›).elim
    apply Stage.step (Is (if (!z80 && z92) = true then (.int .i64 k) else undef)) [false, false, false, false, false, false, false, false, false, false, false, false, false, false, false, false, false, false, false, false, false, false, false, false, false, false, false, false, false, false, false, false, false, false, false, false, false, false, false, false, false, false, false, false, false, false, false, false, false, false, false, false, false, true] (Is.keeps _) (by kernel_rfl)
    · intro w1 h1
      simp only [List.nil_append, List.cons_append, Given]
      rintro _ rfl
      all_goals cases z80
      all_goals cases z92
      all_goals go_wp2_with fail
      all_goals first | exact Post.isv (Ext.refl _) rfl rfl rfl | exact (undef_notM ‹some undef = some (Value.bool _)›).elim
    apply Stage.step (Is (if (!z80 && z92) = true then (.bool e9) else undef)) [false, false, false, false, false, false, false, false, false, false, false, false, false, false, false, false, false, false, false, false, false, false, false, false, false, false, false, false, false, false, false, false, false, false, false, false, false, false, false, false, false, false, false, false, false, false, false, false, false, false, false, false, false, true, true] (Is.keeps _) (by kernel_rfl)
    · intro w1 h1
      simp only [List.nil_append, List.cons_append, Given]
      rintro _ rfl
      rintro _ rfl
      all_goals cases z80
      all_goals cases z92
      all_goals go_wp2_with fail
      all_goals first | exact Post.isv (Ext.refl _) rfl rfl rfl | exact (undef_notM ‹some undef = some (Value.bool _)›).elim
    apply Stage.step (Is (if (!z80) = true then (.bool z96) else undef)) [false, false, false, false, false, false, false, false, false, false, false, false, false, false, false, false, false, false, false, false, false, false, false, false, false, false, false, false, false, false, false, false, false, false, false, false, false, false, false, false, false, true, false, false, false, false, false, false, false, false, false, false, false, true, false, true] (Is.keeps _) (by kernel_rfl)
    · intro w1 h1
      simp only [List.nil_append, List.cons_append, Given]
      rintro _ rfl
      rintro _ rfl
      rintro _ rfl
      obtain rfl := hz96.out
      all_goals cases z80
      all_goals cases z92
      all_goals go_wp2_with fail
      all_goals first | exact Post.isv (Ext.refl _) rfl rfl rfl | exact (undef_notM ‹some undef = some (Value.bool _)›).elim
    apply Stage.step (Is (.bool z97)) [false, false, false, false, false, false, false, false, false, false, false, false, false, false, false, false, false, false, false, false, false, false, false, false, false, false, false, false, false, false, false, false, false, false, false, false, false, false, false, false, false, true, false, false, false, false, false, false, false, false, false, false, false, false, false, false, true] (Is.keeps _) (by kernel_rfl)
    · intro w1 h1
      simp only [List.nil_append, List.cons_append, Given]
      rintro _ rfl
      rintro _ rfl
      obtain rfl := hz97.out
      all_goals cases z80
      all_goals go_wp2_with fail
      all_goals first | exact Post.isv (Ext.refl _) rfl rfl rfl | exact (undef_notM ‹some undef = some (Value.bool _)›).elim
    apply Stage.nil
    intro w1 h1
    simp only [List.nil_append, List.cons_append]
    refine Fin.is_ ?_
    refine Fin.is_ ?_
    refine Fin.is_ ?_
    refine Fin.is_ ?_
    refine Fin.is_ ?_
    refine Fin.is_ ?_
    refine Fin.is_ ?_
    refine Fin.is_ ?_
    refine Fin.is_ ?_
    refine Fin.is_ ?_
    refine Fin.is_ ?_
    refine Fin.is_ ?_
    refine Fin.is_ ?_
    refine Fin.is_ ?_
    refine Fin.is_ ?_
    refine Fin.is_ ?_
    refine Fin.is_ ?_
    refine Fin.is_ ?_
    refine Fin.is_ ?_
    refine Fin.is_ ?_
    refine Fin.is_ ?_
    refine Fin.is_ ?_
    refine Fin.is_ ?_
    refine Fin.is_ ?_
    refine Fin.is_ ?_
    refine Fin.is_ ?_
    refine Fin.is_ ?_
    refine Fin.is_ ?_
    refine Fin.is_ ?_
    refine Fin.is_ ?_
    refine Fin.is_ ?_
    refine Fin.is_ ?_
    refine Fin.is_ ?_
    refine Fin.is_ ?_
    refine Fin.is_ ?_
    refine Fin.is_ ?_
    refine Fin.is_ ?_
    refine Fin.is_ ?_
    refine Fin.is_ ?_
    refine Fin.is_ ?_
    refine Fin.is_ ?_
    refine Fin.is_ ?_
    refine Fin.is_ ?_
    refine Fin.is_ ?_
    refine Fin.is_ ?_
    refine Fin.is_ ?_
    refine Fin.is_ ?_
    refine Fin.is_ ?_
    refine Fin.is_ ?_
    refine Fin.is_ ?_
    refine Fin.is_ ?_
    refine Fin.is_ ?_
    refine Fin.is_ ?_
    refine Fin.is_ ?_
    refine Fin.is_ ?_
    refine Fin.is_ ?_
    refine Fin.is_ ?_
    refine Fin.is_ ?_
    refine Fin.nil_ ?_
    go_simp
    rename_i J' K'' hRR hKK
    refine hKK _ _ (Met.intro (hRR _ _ ?_))
    (repeat apply Exists.intro)
    exact ⟨⟨rfl, h1⟩, rfl⟩
  case rest =>
  obtain ⟨rfl, hxcz97⟩ := hcut
  replace gx := gx.trans hxcz97
  replace x0 := hxcz97.cell x0
  replace x1 := hxcz97.cell x1
  replace x2 := hxcz97.cell x2
  replace x3 := hxcz97.cell x3
  replace x4 := hxcz97.cell x4
  replace x5 := hxcz97.cell x5
  replace x6 := hxcz97.cell x6
  replace x7 := hxcz97.cell x7
  replace x8 := hxcz97.cell x8
  replace x9 := hxcz97.cell x9
  clear hxcz97
  cases z97 with
  | true =>
    obtain rfl := rightM_no hr (by intro hh; have hcc := (HBB.out HK.out).1 hh.2.1; first | exact Bool.noConfusion hcc.1 | exact Bool.noConfusion hcc.2)
    clear hr
    go_wp2_with fail
    go_ret
    exact ⟨rfl, gx⟩
  | false =>
  clear hz46 hz50 hz54 hz62 hz66 hz67 hz75 hz79 hz80 hz88 hz92 hz96 hb1 hb2 hb3 hb4
  obtain ⟨wd, hwd⟩ : ∃ q, q = wc := ⟨_, rfl⟩
  rw [← hwd] at gx x0 x1 x2 x3 x4 x5 x6 x7 x8 x9
  rw [← hwd]
  clear hwd
  go_upto_region 6 with fail
  go_cut [139] (fun s139 wx => s139 = .bool z139 ∧ Ext wd wx)
  case first =>
    refine wp_region_seq Ext.steady 160 ?hn ?hok ?hst
    case hn => rfl
    case hok => kernel_rfl
    case hst =>
    apply Stage.step (Is (.pointer (some ⟨w.heap.size, 6, none⟩))) [] (Is.keeps _) (by kernel_rfl)
    · intro w1 h1
      simp only [Given]
      all_goals go_wp2_with fail
      all_goals first | exact Post.isv (Ext.refl _) rfl rfl rfl | exact (undef_notM ‹some undef = some (Value.bool _)›).elim
    apply Stage.step (Is (.slice A1 An1 Ac1)) [true] (Is.keeps _) (by kernel_rfl)
    · intro w1 h1
      simp only [List.nil_append, Given]
      rintro _ rfl
      have q0 := h1.cell x6
      all_goals go_wp2_with fail
      all_goals first | exact Post.isv (Ext.refl _) rfl rfl rfl | exact (undef_notM ‹some undef = some (Value.bool _)›).elim
    apply Stage.step (Is (.int .i64 (An1 : Int))) [false, true] (Is.keeps _) (by kernel_rfl)
    · intro w1 h1
      simp only [List.nil_append, List.cons_append, Given]
      rintro _ rfl
      all_goals go_wp2_with fail
      all_goals first | exact Post.isv (Ext.refl _) rfl rfl rfl | exact (undef_notM ‹some undef = some (Value.bool _)›).elim
    apply Stage.step (Is (.bool c1)) [false, false, true] (Is.keeps _) (by kernel_rfl)
    · intro w1 h1
      simp only [List.nil_append, List.cons_append, Given]
      rintro _ rfl
      all_goals go_wp2_with fail
      all_goals first | exact Post.isv (Ext.refl _) rfl rfl rfl | exact (undef_notM ‹some undef = some (Value.bool _)›).elim
    apply Stage.step (Is (.bool c1)) [false, false, false, true] (Is.keeps _) (by kernel_rfl)
    · intro w1 h1
      simp only [List.nil_append, List.cons_append, Given]
      rintro _ rfl
      all_goals go_wp2_with fail
      all_goals first | exact Post.isv (Ext.refl _) rfl rfl rfl | exact (undef_notM ‹some undef = some (Value.bool _)›).elim
    apply Stage.step (Is (if (c1) = true then (.int .i64 k) else undef)) [false, false, false, false, true] (Is.keeps _) (by kernel_rfl)
    · intro w1 h1
      simp only [List.nil_append, List.cons_append, Given]
      rintro _ rfl
      all_goals cases c1
      all_goals go_wp2_with fail
      all_goals first | exact Post.isv (Ext.refl _) rfl rfl rfl | exact (undef_notM ‹some undef = some (Value.bool _)›).elim
    apply Stage.step (Is (if (c1) = true then (.bool e2) else undef)) [false, false, false, false, true, true] (Is.keeps _) (by kernel_rfl)
    · intro w1 h1
      simp only [List.nil_append, List.cons_append, Given]
      rintro _ rfl
      rintro _ rfl
      all_goals cases c1
      all_goals go_wp2_with fail
      all_goals first | exact Post.isv (Ext.refl _) rfl rfl rfl | exact (undef_notM ‹some undef = some (Value.bool _)›).elim
    apply Stage.step (Is (.bool z105)) [false, false, false, false, true, false, true] (Is.keeps _) (by kernel_rfl)
    · intro w1 h1
      simp only [List.nil_append, List.cons_append, Given]
      rintro _ rfl
      rintro _ rfl
      obtain rfl := hz105.out
      all_goals cases c1
      all_goals go_wp2_with fail
      all_goals first | exact Post.isv (Ext.refl _) rfl rfl rfl | exact (undef_notM ‹some undef = some (Value.bool _)›).elim
    apply Stage.step (Is (.bool z105)) [false, false, false, false, false, false, false, true] (Is.keeps _) (by kernel_rfl)
    · intro w1 h1
      simp only [List.nil_append, List.cons_append, Given]
      rintro _ rfl
      all_goals go_wp2_with fail
      all_goals first | exact Post.isv (Ext.refl _) rfl rfl rfl | exact (undef_notM ‹some undef = some (Value.bool _)›).elim
    apply Stage.step (Is (if (z105) = true then (.int .i64 k) else undef)) [false, false, false, false, false, false, false, false, true] (Is.keeps _) (by kernel_rfl)
    · intro w1 h1
      simp only [List.nil_append, List.cons_append, Given]
      rintro _ rfl
      all_goals cases z105
      all_goals go_wp2_with fail
      all_goals first | exact Post.isv (Ext.refl _) rfl rfl rfl | exact (undef_notM ‹some undef = some (Value.bool _)›).elim
    apply Stage.step (Is (if (z105) = true then (.bool e4) else undef)) [false, false, false, false, false, false, false, false, true, true] (Is.keeps _) (by kernel_rfl)
    · intro w1 h1
      simp only [List.nil_append, List.cons_append, Given]
      rintro _ rfl
      rintro _ rfl
      all_goals cases z105
      all_goals go_wp2_with fail
      all_goals first | exact Post.isv (Ext.refl _) rfl rfl rfl | exact (undef_notM ‹some undef = some (Value.bool _)›).elim
    apply Stage.step (Is (.bool z109)) [false, false, false, false, false, false, false, false, true, false, true] (Is.keeps _) (by kernel_rfl)
    · intro w1 h1
      simp only [List.nil_append, List.cons_append, Given]
      rintro _ rfl
      rintro _ rfl
      obtain rfl := hz109.out
      all_goals cases z105
      all_goals go_wp2_with fail
      all_goals first | exact Post.isv (Ext.refl _) rfl rfl rfl | exact (undef_notM ‹some undef = some (Value.bool _)›).elim
    apply Stage.step (Is (.bool z109)) [false, false, false, false, false, false, false, false, false, false, false, true] (Is.keeps _) (by kernel_rfl)
    · intro w1 h1
      simp only [List.nil_append, List.cons_append, Given]
      rintro _ rfl
      all_goals go_wp2_with fail
      all_goals first | exact Post.isv (Ext.refl _) rfl rfl rfl | exact (undef_notM ‹some undef = some (Value.bool _)›).elim
    apply Stage.step (Is (if (!z109) = true then (.pointer (some ⟨w.heap.size, 7, none⟩)) else undef)) [false, false, false, false, false, false, false, false, false, false, false, false, true] (Is.keeps _) (by kernel_rfl)
    · intro w1 h1
      simp only [List.nil_append, List.cons_append, Given]
      rintro _ rfl
      all_goals cases z109
      all_goals go_wp2_with fail
      all_goals first | exact Post.isv (Ext.refl _) rfl rfl rfl | exact (undef_notM ‹some undef = some (Value.bool _)›).elim
    apply Stage.step (Is (if (!z109) = true then (.slice A2 An2 Ac2) else undef)) [false, false, false, false, false, false, false, false, false, false, false, false, true, true] (Is.keeps _) (by kernel_rfl)
    · intro w1 h1
      simp only [List.nil_append, List.cons_append, Given]
      rintro _ rfl
      rintro _ rfl
      have q0 := h1.cell x7
      all_goals cases z109
      all_goals go_wp2_with fail
      all_goals first | exact Post.isv (Ext.refl _) rfl rfl rfl | exact (undef_notM ‹some undef = some (Value.bool _)›).elim
    apply Stage.step (Is (if (!z109) = true then (.int .i64 (An2 : Int)) else undef)) [false, false, false, false, false, false, false, false, false, false, false, false, true, false, true] (Is.keeps _) (by kernel_rfl)
    · intro w1 h1
      simp only [List.nil_append, List.cons_append, Given]
      rintro _ rfl
      rintro _ rfl
      all_goals cases z109
      all_goals go_wp2_with fail
      all_goals first | exact Post.isv (Ext.refl _) rfl rfl rfl | exact (undef_notM ‹some undef = some (Value.bool _)›).elim
    apply Stage.step (Is (if (!z109) = true then (.bool c2) else undef)) [false, false, false, false, false, false, false, false, false, false, false, false, true, false, false, true] (Is.keeps _) (by kernel_rfl)
    · intro w1 h1
      simp only [List.nil_append, List.cons_append, Given]
      rintro _ rfl
      rintro _ rfl
      all_goals cases z109
      all_goals go_wp2_with fail
      all_goals first | exact Post.isv (Ext.refl _) rfl rfl rfl | exact (undef_notM ‹some undef = some (Value.bool _)›).elim
    apply Stage.step (Is (if (!z109) = true then (.bool c2) else undef)) [false, false, false, false, false, false, false, false, false, false, false, false, true, false, false, false, true] (Is.keeps _) (by kernel_rfl)
    · intro w1 h1
      simp only [List.nil_append, List.cons_append, Given]
      rintro _ rfl
      rintro _ rfl
      all_goals cases z109
      all_goals go_wp2_with fail
      all_goals first | exact Post.isv (Ext.refl _) rfl rfl rfl | exact (undef_notM ‹some undef = some (Value.bool _)›).elim
    apply Stage.step (Is (if (!z109 && c2) = true then (.int .i64 k) else undef)) [false, false, false, false, false, false, false, false, false, false, false, false, false, false, false, false, false, true] (Is.keeps _) (by kernel_rfl)
    · intro w1 h1
      simp only [List.nil_append, List.cons_append, Given]
      rintro _ rfl
      all_goals cases z109
      all_goals cases c2
      all_goals go_wp2_with fail
      all_goals first | exact Post.isv (Ext.refl _) rfl rfl rfl | exact (undef_notM ‹some undef = some (Value.bool _)›).elim
    apply Stage.step (Is (if (!z109 && c2) = true then (.bool e2) else undef)) [false, false, false, false, false, false, false, false, false, false, false, false, false, false, false, false, false, true, true] (Is.keeps _) (by kernel_rfl)
    · intro w1 h1
      simp only [List.nil_append, List.cons_append, Given]
      rintro _ rfl
      rintro _ rfl
      all_goals cases z109
      all_goals cases c2
      all_goals go_wp2_with fail
      all_goals first | exact Post.isv (Ext.refl _) rfl rfl rfl | exact (undef_notM ‹some undef = some (Value.bool _)›).elim
    apply Stage.step (Is (if (!z109) = true then (.bool z118) else undef)) [false, false, false, false, false, false, false, false, false, false, false, false, true, false, false, false, false, true, false, true] (Is.keeps _) (by kernel_rfl)
    · intro w1 h1
      simp only [List.nil_append, List.cons_append, Given]
      rintro _ rfl
      rintro _ rfl
      rintro _ rfl
      obtain rfl := hz118.out
      all_goals cases z109
      all_goals cases c2
      all_goals go_wp2_with fail
      all_goals first | exact Post.isv (Ext.refl _) rfl rfl rfl | exact (undef_notM ‹some undef = some (Value.bool _)›).elim
    apply Stage.step (Is (.bool z119)) [false, false, false, false, false, false, false, false, false, false, false, false, true, false, false, false, false, false, false, false, true] (Is.keeps _) (by kernel_rfl)
    · intro w1 h1
      simp only [List.nil_append, List.cons_append, Given]
      rintro _ rfl
      rintro _ rfl
      obtain rfl := hz119.out
      all_goals cases z109
      all_goals go_wp2_with fail
      all_goals first | exact Post.isv (Ext.refl _) rfl rfl rfl | exact (undef_notM ‹some undef = some (Value.bool _)›).elim
    apply Stage.step (Is (.bool z119)) [false, false, false, false, false, false, false, false, false, false, false, false, false, false, false, false, false, false, false, false, false, true] (Is.keeps _) (by kernel_rfl)
    · intro w1 h1
      simp only [List.nil_append, List.cons_append, Given]
      rintro _ rfl
      all_goals go_wp2_with fail
      all_goals first | exact Post.isv (Ext.refl _) rfl rfl rfl | exact (undef_notM ‹some undef = some (Value.bool _)›).elim
    apply Stage.step (Is (if (!z119) = true then (.pointer (some ⟨w.heap.size, 8, none⟩)) else undef)) [false, false, false, false, false, false, false, false, false, false, false, false, false, false, false, false, false, false, false, false, false, false, true] (Is.keeps _) (by kernel_rfl)
    · intro w1 h1
      simp only [List.nil_append, List.cons_append, Given]
      rintro _ rfl
      all_goals cases z119
      all_goals go_wp2_with fail
      all_goals first | exact Post.isv (Ext.refl _) rfl rfl rfl | exact (undef_notM ‹some undef = some (Value.bool _)›).elim
    apply Stage.step (Is (if (!z119) = true then (.slice A3 An3 Ac3) else undef)) [false, false, false, false, false, false, false, false, false, false, false, false, false, false, false, false, false, false, false, false, false, false, true, true] (Is.keeps _) (by kernel_rfl)
    · intro w1 h1
      simp only [List.nil_append, List.cons_append, Given]
      rintro _ rfl
      rintro _ rfl
      have q0 := h1.cell x8
      all_goals cases z119
      all_goals go_wp2_with fail
      all_goals first | exact Post.isv (Ext.refl _) rfl rfl rfl | exact (undef_notM ‹some undef = some (Value.bool _)›).elim
    apply Stage.step (Is (if (!z119) = true then (.int .i64 (An3 : Int)) else undef)) [false, false, false, false, false, false, false, false, false, false, false, false, false, false, false, false, false, false, false, false, false, false, true, false, true] (Is.keeps _) (by kernel_rfl)
    · intro w1 h1
      simp only [List.nil_append, List.cons_append, Given]
      rintro _ rfl
      rintro _ rfl
      all_goals cases z119
      all_goals go_wp2_with fail
      all_goals first | exact Post.isv (Ext.refl _) rfl rfl rfl | exact (undef_notM ‹some undef = some (Value.bool _)›).elim
    apply Stage.step (Is (if (!z119) = true then (.bool c3) else undef)) [false, false, false, false, false, false, false, false, false, false, false, false, false, false, false, false, false, false, false, false, false, false, true, false, false, true] (Is.keeps _) (by kernel_rfl)
    · intro w1 h1
      simp only [List.nil_append, List.cons_append, Given]
      rintro _ rfl
      rintro _ rfl
      all_goals cases z119
      all_goals go_wp2_with fail
      all_goals first | exact Post.isv (Ext.refl _) rfl rfl rfl | exact (undef_notM ‹some undef = some (Value.bool _)›).elim
    apply Stage.step (Is (if (!z119) = true then (.bool c3) else undef)) [false, false, false, false, false, false, false, false, false, false, false, false, false, false, false, false, false, false, false, false, false, false, true, false, false, false, true] (Is.keeps _) (by kernel_rfl)
    · intro w1 h1
      simp only [List.nil_append, List.cons_append, Given]
      rintro _ rfl
      rintro _ rfl
      all_goals cases z119
      all_goals go_wp2_with fail
      all_goals first | exact Post.isv (Ext.refl _) rfl rfl rfl | exact (undef_notM ‹some undef = some (Value.bool _)›).elim
    apply Stage.step (Is (if (!z119 && c3) = true then (.int .i64 k) else undef)) [false, false, false, false, false, false, false, false, false, false, false, false, false, false, false, false, false, false, false, false, false, false, false, false, false, false, false, true] (Is.keeps _) (by kernel_rfl)
    · intro w1 h1
      simp only [List.nil_append, List.cons_append, Given]
      rintro _ rfl
      all_goals cases z119
      all_goals cases c3
      all_goals go_wp2_with fail
      all_goals first | exact Post.isv (Ext.refl _) rfl rfl rfl | exact (undef_notM ‹some undef = some (Value.bool _)›).elim
    apply Stage.step (Is (if (!z119 && c3) = true then (.bool e4) else undef)) [false, false, false, false, false, false, false, false, false, false, false, false, false, false, false, false, false, false, false, false, false, false, false, false, false, false, false, true, true] (Is.keeps _) (by kernel_rfl)
    · intro w1 h1
      simp only [List.nil_append, List.cons_append, Given]
      rintro _ rfl
      rintro _ rfl
      all_goals cases z119
      all_goals cases c3
      all_goals go_wp2_with fail
      all_goals first | exact Post.isv (Ext.refl _) rfl rfl rfl | exact (undef_notM ‹some undef = some (Value.bool _)›).elim
    apply Stage.step (Is (if (!z119) = true then (.bool z128) else undef)) [false, false, false, false, false, false, false, false, false, false, false, false, false, false, false, false, false, false, false, false, false, false, true, false, false, false, false, true, false, true] (Is.keeps _) (by kernel_rfl)
    · intro w1 h1
      simp only [List.nil_append, List.cons_append, Given]
      rintro _ rfl
      rintro _ rfl
      rintro _ rfl
      obtain rfl := hz128.out
      all_goals cases z119
      all_goals cases c3
      all_goals go_wp2_with fail
      all_goals first | exact Post.isv (Ext.refl _) rfl rfl rfl | exact (undef_notM ‹some undef = some (Value.bool _)›).elim
    apply Stage.step (Is (.bool z129)) [false, false, false, false, false, false, false, false, false, false, false, false, false, false, false, false, false, false, false, false, false, false, true, false, false, false, false, false, false, false, true] (Is.keeps _) (by kernel_rfl)
    · intro w1 h1
      simp only [List.nil_append, List.cons_append, Given]
      rintro _ rfl
      rintro _ rfl
      obtain rfl := hz129.out
      all_goals cases z119
      all_goals go_wp2_with fail
      all_goals first | exact Post.isv (Ext.refl _) rfl rfl rfl | exact (undef_notM ‹some undef = some (Value.bool _)›).elim
    apply Stage.step (Is (.bool z129)) [false, false, false, false, false, false, false, false, false, false, false, false, false, false, false, false, false, false, false, false, false, false, false, false, false, false, false, false, false, false, false, true] (Is.keeps _) (by kernel_rfl)
    · intro w1 h1
      simp only [List.nil_append, List.cons_append, Given]
      rintro _ rfl
      all_goals go_wp2_with fail
      all_goals first | exact Post.isv (Ext.refl _) rfl rfl rfl | exact (undef_notM ‹some undef = some (Value.bool _)›).elim
    apply Stage.step (Is (if (!z129) = true then (.pointer (some ⟨w.heap.size, 9, none⟩)) else undef)) [false, false, false, false, false, false, false, false, false, false, false, false, false, false, false, false, false, false, false, false, false, false, false, false, false, false, false, false, false, false, false, false, true] (Is.keeps _) (by kernel_rfl)
    · intro w1 h1
      simp only [List.nil_append, List.cons_append, Given]
      rintro _ rfl
      all_goals cases z129
      all_goals go_wp2_with fail
      all_goals first | exact Post.isv (Ext.refl _) rfl rfl rfl | exact (undef_notM ‹some undef = some (Value.bool _)›).elim
    apply Stage.step (Is (if (!z129) = true then (.slice A4 An4 Ac4) else undef)) [false, false, false, false, false, false, false, false, false, false, false, false, false, false, false, false, false, false, false, false, false, false, false, false, false, false, false, false, false, false, false, false, true, true] (Is.keeps _) (by kernel_rfl)
    · intro w1 h1
      simp only [List.nil_append, List.cons_append, Given]
      rintro _ rfl
      rintro _ rfl
      have q0 := h1.cell x9
      all_goals cases z129
      all_goals go_wp2_with fail
      all_goals first | exact Post.isv (Ext.refl _) rfl rfl rfl | exact (undef_notM ‹some undef = some (Value.bool _)›).elim
    apply Stage.step (Is (if (!z129) = true then (.int .i64 (An4 : Int)) else undef)) [false, false, false, false, false, false, false, false, false, false, false, false, false, false, false, false, false, false, false, false, false, false, false, false, false, false, false, false, false, false, false, false, true, false, true] (Is.keeps _) (by kernel_rfl)
    · intro w1 h1
      simp only [List.nil_append, List.cons_append, Given]
      rintro _ rfl
      rintro _ rfl
      all_goals cases z129
      all_goals go_wp2_with fail
      all_goals first | exact Post.isv (Ext.refl _) rfl rfl rfl | exact (undef_notM ‹some undef = some (Value.bool _)›).elim
    apply Stage.step (Is (if (!z129) = true then (.bool c4) else undef)) [false, false, false, false, false, false, false, false, false, false, false, false, false, false, false, false, false, false, false, false, false, false, false, false, false, false, false, false, false, false, false, false, true, false, false, true] (Is.keeps _) (by kernel_rfl)
    · intro w1 h1
      simp only [List.nil_append, List.cons_append, Given]
      rintro _ rfl
      rintro _ rfl
      all_goals cases z129
      all_goals go_wp2_with fail
      all_goals first | exact Post.isv (Ext.refl _) rfl rfl rfl | exact (undef_notM ‹some undef = some (Value.bool _)›).elim
    apply Stage.step (Is (if (!z129) = true then (.bool c4) else undef)) [false, false, false, false, false, false, false, false, false, false, false, false, false, false, false, false, false, false, false, false, false, false, false, false, false, false, false, false, false, false, false, false, true, false, false, false, true] (Is.keeps _) (by kernel_rfl)
    · intro w1 h1
      simp only [List.nil_append, List.cons_append, Given]
      rintro _ rfl
      rintro _ rfl
      all_goals cases z129
      all_goals go_wp2_with fail
      all_goals first | exact Post.isv (Ext.refl _) rfl rfl rfl | exact (undef_notM ‹some undef = some (Value.bool _)›).elim
    apply Stage.step (Is (if (!z129 && c4) = true then (.int .i64 k) else undef)) [false, false, false, false, false, false, false, false, false, false, false, false, false, false, false, false, false, false, false, false, false, false, false, false, false, false, false, false, false, false, false, false, false, false, false, false, false, true] (Is.keeps _) (by kernel_rfl)
    · intro w1 h1
      simp only [List.nil_append, List.cons_append, Given]
      rintro _ rfl
      all_goals cases z129
      all_goals cases c4
      all_goals go_wp2_with fail
      all_goals first | exact Post.isv (Ext.refl _) rfl rfl rfl | exact (undef_notM ‹some undef = some (Value.bool _)›).elim
    apply Stage.step (Is (if (!z129 && c4) = true then (.bool e6) else undef)) [false, false, false, false, false, false, false, false, false, false, false, false, false, false, false, false, false, false, false, false, false, false, false, false, false, false, false, false, false, false, false, false, false, false, false, false, false, true, true] (Is.keeps _) (by kernel_rfl)
    · intro w1 h1
      simp only [List.nil_append, List.cons_append, Given]
      rintro _ rfl
      rintro _ rfl
      all_goals cases z129
      all_goals cases c4
      all_goals go_wp2_with fail
      all_goals first | exact Post.isv (Ext.refl _) rfl rfl rfl | exact (undef_notM ‹some undef = some (Value.bool _)›).elim
    apply Stage.step (Is (if (!z129) = true then (.bool z138) else undef)) [false, false, false, false, false, false, false, false, false, false, false, false, false, false, false, false, false, false, false, false, false, false, false, false, false, false, false, false, false, false, false, false, true, false, false, false, false, true, false, true] (Is.keeps _) (by kernel_rfl)
    · intro w1 h1
      simp only [List.nil_append, List.cons_append, Given]
      rintro _ rfl
      rintro _ rfl
      rintro _ rfl
      obtain rfl := hz138.out
      all_goals cases z129
      all_goals cases c4
      all_goals go_wp2_with fail
      all_goals first | exact Post.isv (Ext.refl _) rfl rfl rfl | exact (undef_notM ‹some undef = some (Value.bool _)›).elim
    apply Stage.step (Is (.bool z139)) [false, false, false, false, false, false, false, false, false, false, false, false, false, false, false, false, false, false, false, false, false, false, false, false, false, false, false, false, false, false, false, false, true, false, false, false, false, false, false, false, true] (Is.keeps _) (by kernel_rfl)
    · intro w1 h1
      simp only [List.nil_append, List.cons_append, Given]
      rintro _ rfl
      rintro _ rfl
      obtain rfl := hz139.out
      all_goals cases z129
      all_goals go_wp2_with fail
      all_goals first | exact Post.isv (Ext.refl _) rfl rfl rfl | exact (undef_notM ‹some undef = some (Value.bool _)›).elim
    apply Stage.nil
    intro w1 h1
    simp only [List.nil_append, List.cons_append]
    refine Fin.is_ ?_
    refine Fin.is_ ?_
    refine Fin.is_ ?_
    refine Fin.is_ ?_
    refine Fin.is_ ?_
    refine Fin.is_ ?_
    refine Fin.is_ ?_
    refine Fin.is_ ?_
    refine Fin.is_ ?_
    refine Fin.is_ ?_
    refine Fin.is_ ?_
    refine Fin.is_ ?_
    refine Fin.is_ ?_
    refine Fin.is_ ?_
    refine Fin.is_ ?_
    refine Fin.is_ ?_
    refine Fin.is_ ?_
    refine Fin.is_ ?_
    refine Fin.is_ ?_
    refine Fin.is_ ?_
    refine Fin.is_ ?_
    refine Fin.is_ ?_
    refine Fin.is_ ?_
    refine Fin.is_ ?_
    refine Fin.is_ ?_
    refine Fin.is_ ?_
    refine Fin.is_ ?_
    refine Fin.is_ ?_
    refine Fin.is_ ?_
    refine Fin.is_ ?_
    refine Fin.is_ ?_
    refine Fin.is_ ?_
    refine Fin.is_ ?_
    refine Fin.is_ ?_
    refine Fin.is_ ?_
    refine Fin.is_ ?_
    refine Fin.is_ ?_
    refine Fin.is_ ?_
    refine Fin.is_ ?_
    refine Fin.is_ ?_
    refine Fin.is_ ?_
    refine Fin.is_ ?_
    refine Fin.nil_ ?_
    go_simp
    rename_i J' K'' hRR hKK
    refine hKK _ _ (Met.intro (hRR _ _ ?_))
    (repeat apply Exists.intro)
    exact ⟨⟨rfl, h1⟩, rfl⟩
  case rest =>
  obtain ⟨rfl, hxcz139⟩ := hcut
  replace gx := gx.trans hxcz139
  replace x0 := hxcz139.cell x0
  replace x1 := hxcz139.cell x1
  replace x2 := hxcz139.cell x2
  replace x3 := hxcz139.cell x3
  replace x4 := hxcz139.cell x4
  replace x5 := hxcz139.cell x5
  replace x6 := hxcz139.cell x6
  replace x7 := hxcz139.cell x7
  replace x8 := hxcz139.cell x8
  replace x9 := hxcz139.cell x9
  clear hxcz139
  cases z139 with
  | true =>
    obtain rfl := rightM_no hr (by intro hh; have hcc := (HBB.out HK.out).1 hh.2.1; first | exact Bool.noConfusion hcc.1 | exact Bool.noConfusion hcc.2)
    clear hr
    go_wp2_with fail
    go_ret
    exact ⟨rfl, gx⟩
  | false =>
  have HX := Lib.hid ((HBB.out HK.out).2 ⟨rfl, rfl⟩)
  have v2 := of_decide_eq_true H2.out
  have v3 := of_decide_eq_true H3.out
  have v4 := of_decide_eq_true H4.out
  have v5 := of_decide_eq_true H5.out
  have v6 := of_decide_eq_true H6.out
  have HV := Lib.hid (And.intro v2 (And.intro v3 (And.intro v4 (And.intro v5 v6))))
  clear HBB hc1 hc2 hc3 hc4 hd1 hd2 hd3 hd4 H1 H2 H3 H4 H5 H6 v2 v3 v4 v5 v6 he1 he2 he4 he5 he6 he9
  have hk4 : k = 2 ∨ k = 4 ∨ k = 6 ∨ k = 9 ∨ ¬ (k = 2 ∨ k = 4 ∨ k = 6 ∨ k = 9) := by omega
  rcases hk4 with hk4 | hk4 | hk4 | hk4 | hk4
  · subst hk4
    have hda : da = [] := (congrArg Ms.data HX.out).symm
    have hall := rightM_tail hr ⟨HK.out, HX.out, HV.out, by simp only; rw [hda]; exact Nat.zero_le _⟩
    rw [tail2] at hall
    have HA := Lib.hid hall
    clear hr hall hda
    go_wp2_with fail
    refine (ref_batchM (m := ⟨2, n, p, e', s, q, ch, en, mk, da⟩) (h.ext gx) hf HV.out.2.1.1 HV.out.2.1.2 HA).mono ?_
    rintro e w4 ⟨rfl, hx4⟩
    go_wp2_with fail
    go_ret
    exact ⟨rfl, gx.trans hx4⟩
  · subst hk4
    have hda : da = [] := (congrArg Ms.data HX.out).symm
    have hall := rightM_tail hr ⟨HK.out, HX.out, HV.out, by simp only; rw [hda]; exact Nat.zero_le _⟩
    rw [tail4] at hall
    have HA := Lib.hid hall
    clear hr hall hda
    go_wp2_with fail
    refine (ref_infoM (m := ⟨4, n, p, e', s, q, ch, en, mk, da⟩) (h.ext gx) hs HA).mono ?_
    rintro e w4 ⟨rfl, hx4⟩
    go_wp2_with fail
    go_ret
    exact ⟨rfl, gx.trans hx4⟩
  · subst hk4
    by_cases g6 : An4 ≤ 64
    · have hall := rightM_tail hr ⟨HK.out, HX.out, HV.out, by simp only; rw [HLEN.out]; exact g6⟩
      rw [tail0 (by decide)] at hall
      subst hall
      have d1 : decide ((An4 : Int) ≤ 64) = true := by simp; omega
      clear hr
      go_wp2_with fail
      go_ret
      exact ⟨rfl, gx⟩
    · obtain rfl := rightM_no hr (by intro hh; have e1 := hh.2.2.2; simp only at e1; rw [HLEN.out] at e1; exact g6 e1)
      have d1 : decide ((An4 : Int) ≤ 64) = false := by simp; omega
      have d2 : decide (An4 ≤ 64) = false := by simp; omega
      clear hr
      go_wp2_with fail
      go_ret
      exact ⟨rfl, gx⟩
  · subst hk4
    have hda : da = [] := (congrArg Ms.data HX.out).symm
    have hall := rightM_tail hr ⟨HK.out, HX.out, HV.out, by simp only; rw [hda]; exact Nat.zero_le _⟩
    rw [tail9] at hall
    have HA := Lib.hid hall
    clear hr hall hda
    go_wp2_with fail
    refine (ref_between _ _ _ _ HA).mono ?_
    rintro e _ ⟨rfl, rfl⟩
    go_wp2_with fail
    go_ret
    exact ⟨rfl, gx⟩
  · have hda : da = [] := by
      have := congrArg Ms.data HX.out
      simp only [bareM] at this
      rw [if_neg (by omega)] at this
      exact this.symm
    have hall := rightM_tail hr ⟨HK.out, HX.out, HV.out, by simp only; rw [hda]; exact Nat.zero_le _⟩
    rw [tail0 (by omega)] at hall
    subst hall
    have g2 : (k == 2) = false := by simp; omega
    have g4 : (k == 4) = false := by simp; omega
    have g6 : (k == 6) = false := by simp; omega
    have g9 : (k == 9) = false := by simp; omega
    clear hr hda hk4
    go_wp2_with fail
    go_ret
    exact ⟨rfl, gx⟩
end Go.Proofs.Ytoeknbogaclfdaa
