/-
  Marks: rows of them; contracts of the small functions: held, seen, named, hidden, MarkName, Shape.
-/
/-
  Slices of integers: they read as a list.
-/
/-
  Rows of elements that lead nowhere (integers, tags): append onto a row of the call's own.
-/
/-
  Records: contracts of Newest, Seen, Find of the program, and of the reference's Seen.
-/
/-
  Marks alike: contracts of the reference's SameMarks and of slices.Equal of marks.
-/
import Derived.Test.YtoeknbogaclfdaaZFromMkPlainToGet
import Derived.Test.YtoeknbogaclfdaaZCore
namespace Go.Proofs.Ytoeknbogaclfdaa
open Go.RowKit
set_option linter.unusedVariables false
set_option linter.unusedSimpArgs false
set_option linter.unnecessarySimpa false
set_option maxRecDepth 100000

theorem bytes_inj {a b : ByteArray} (h : a.toList = b.toList) : a = b := by
  rw [ByteArray.toList_eq, ByteArray.toList_eq] at h
  exact ByteArray.ext (Array.toList_inj.mp h)
def mkR (x : Mk) (cs : List Value) (w : World) : Prop := cs = [.int .i64 x.id, .string x.nm, .int .i64 x.sz, .bool x.gone]
theorem mk_rep : Rep 4 mkR where
  len := by rintro x cs w rfl; rfl
  one := by
    rintro x cs w rfl u hu
    simp at hu
    rcases hu with rfl | rfl | rfl | rfl <;> rfl
  keep := by
    rintro x cs w w' rfl hk
    rfl
  lt := by
    rintro x cs w rfl k ⟨ad, m, c', hm, _⟩
    simp at hm
theorem mk_nop {x : Mk} {cs : List Value} {w : World} (h : mkR x cs w) : ∀ k, ¬ Pts cs k := by
  rintro k ⟨ad, m, c', hm, _⟩
  rw [h] at hm
  simp at hm
abbrev TMk : TypeId := 48
theorem info_mk : (Try.prog.info? TMk).map (fun i => (i.zero, i.size, i.bytes)) = some (some (.agg #[.int .i64 0, .string ⟨#[]⟩, .int .i64 0, .bool false]), 4, 40) := by kernel_rfl
theorem under_mks : Try.prog.underlying 27 = some (.slice TMk) := by kernel_rfl
abbrev mkV (x : Mk) : Value := .agg #[.int .i64 x.id, .string x.nm, .int .i64 x.sz, .bool x.gone]

theorem tilde_nil {s : ByteArray} (h : ¬ 0 < s.size) : tildeB s = false := by
  unfold tildeB
  have : s.data.toList = [] := List.eq_nil_of_length_eq_zero (by rw [size_list]; omega)
  rw [this]
theorem tilde_at {s : ByteArray} (h : 0 < s.size) : tildeB s = decide ((s[0]).toNat = 126) := by
  unfold tildeB
  obtain ⟨⟨l⟩⟩ := s
  cases l with
  | nil => simp [ByteArray.size] at h
  | cons b l => rfl
theorem header_held (x : Mk) (w : World) (hs : x.nm.size ≤ 1000000) {t : Bool} (ht : Hid (tildeB x.nm = t)) :
    Calls Try.prog 92 #[mkV x] w fun e w' => e = .returned (.bool t) ∧ Ext w w' := by
  obtain ⟨i, s, z, g⟩ := x
  simp only at hs ht
  by_cases h0 : 0 < s.size
  · have h1 := tilde_at h0
    rw [ht.out] at h1
    cases t with
    | false =>
      have hb : (((s[0]).toNat : Int) == 126) = false := by
        have := h1.symm
        simp only [decide_eq_false_iff_not] at this
        simp
        omega
      clear h1 ht
      go_enter Try.func92, Try.ntmps92
      go_wp2_with fail
      go_ret
      exact ⟨rfl, Ext.alloc _ _⟩
    | true =>
      have hb : (((s[0]).toNat : Int) == 126) = true := by
        have := h1.symm
        simp only [decide_eq_true_eq] at this
        simp
        omega
      clear h1 ht
      go_enter Try.func92, Try.ntmps92
      go_wp2_with fail
      go_ret
      exact ⟨rfl, Ext.alloc _ _⟩
  · obtain rfl : false = t := by rw [← ht.out, tilde_nil h0]
    clear ht
    go_enter Try.func92, Try.ntmps92
    go_wp2_with fail
    go_ret
    exact ⟨rfl, Ext.alloc _ _⟩
theorem ref_hidden (s : ByteArray) (w : World) (hs : s.size ≤ 1000000) {t : Bool} (ht : Hid (tildeB s = t)) :
    Calls Try.prog 59 #[.string s] w fun e w' => e = .returned (.bool t) ∧ w = w' := by
  by_cases h0 : 0 < s.size
  · have h1 := tilde_at h0
    rw [ht.out] at h1
    cases t with
    | false =>
      have hb : (((s[0]).toNat : Int) == 126) = false := by
        have := h1.symm
        simp only [decide_eq_false_iff_not] at this
        simp
        omega
      clear h1 ht
      go_enter Try.func59, Try.ntmps59
      go_wp2_with fail
      go_ret
      exact ⟨rfl, rfl⟩
    | true =>
      have hb : (((s[0]).toNat : Int) == 126) = true := by
        have := h1.symm
        simp only [decide_eq_true_eq] at this
        simp
        omega
      clear h1 ht
      go_enter Try.func59, Try.ntmps59
      go_wp2_with fail
      go_ret
      exact ⟨rfl, rfl⟩
  · obtain rfl : false = t := by rw [← ht.out, tilde_nil h0]
    clear ht
    go_enter Try.func59, Try.ntmps59
    go_wp2_with fail
    go_ret
    exact ⟨rfl, rfl⟩
theorem header_seen (x : Mk) (w : World) (hs : x.nm.size ≤ 1000000) {t : Bool} (ht : Hid (seenM x = t)) :
    Calls Try.prog 61 #[mkV x] w fun e w' => e = .returned (.bool t) ∧ Ext w w' := by
  obtain ⟨q, hq⟩ : ∃ q, tildeB x.nm = q := ⟨_, rfl⟩
  have HQ := Lib.hid hq
  have h1 := ht.out
  unfold seenM at h1
  rw [hq] at h1
  obtain ⟨i, s, z, g⟩ := x
  simp only at hs ht h1 HQ
  subst h1
  clear ht hq
  cases g with
  | true =>
    go_enter Try.func61, Try.ntmps61
    go_wp2_with fail
    go_ret
    exact ⟨rfl, Ext.alloc _ _⟩
  | false =>
    go_enter Try.func61, Try.ntmps61
    go_wp2_with fail
    refine (header_held ⟨i, s, z, false⟩ _ hs HQ).mono ?_
    rintro e w1 ⟨rfl, hx1⟩
    cases q
    all_goals
      go_wp2_with fail
      go_ret
      exact ⟨rfl, (Ext.alloc _ _).trans hx1⟩
theorem tail_size {s : ByteArray} (hs : s.size ≤ 1000000) : (tailS s).size ≤ maxLen := by
  unfold tailS
  rw [ByteArray.size_extract]
  unfold maxLen
  omega
theorem header_named (x : Mk) (w : World) (hs : x.nm.size ≤ 1000000) {t : Bool} (ht : Hid (namedM x = t)) :
    Calls Try.prog 91 #[mkV x] w fun e w' => e = .returned (.bool t) ∧ Ext w w' := by
  obtain ⟨q, hq⟩ : ∃ q, tildeB x.nm = q := ⟨_, rfl⟩
  have HQ := Lib.hid hq
  have h1 := ht.out
  unfold namedM nameM at h1
  rw [hq] at h1
  obtain ⟨i, s, z, g⟩ := x
  simp only at hs ht h1 HQ hq
  have hm : s.size ≤ maxLen := by unfold maxLen; omega
  cases q with
  | false =>
    have hcl := fun w => event_Name s w hm
    obtain ⟨b, hb⟩ : ∃ b, nameB s = b := ⟨_, rfl⟩
    rw [hb] at hcl h1
    obtain rfl : b = t := by rw [← h1]; simp
    clear h1 ht hq hb
    go_enter Try.func91, Try.ntmps91
    go_wp2_with fail
    refine (header_held ⟨i, s, z, g⟩ _ hs HQ).mono ?_
    rintro e w1 ⟨rfl, hx1⟩
    have q1 := hx1.cell (cell_new w #[.int .i64 i, .string s, .int .i64 z, .bool g] TMk 1)
    have q3 := hx1.cell (cell_new w #[.int .i64 i, .string s, .int .i64 z, .bool g] TMk 3)
    go_wp2_with fail
    refine (hcl _).mono ?_
    rintro e _ ⟨rfl, rfl⟩
    go_wp2_with fail
    go_ret
    exact ⟨rfl, (Ext.alloc _ _).trans hx1⟩
  | true =>
    have h0 : 0 < s.size := by
      by_cases h : 0 < s.size
      · exact h
      · rw [tilde_nil h] at hq; cases hq
    have hcl := fun w => event_Name (tailS s) w (tail_size hs)
    unfold tailS at hcl h1
    obtain ⟨b, hb⟩ : ∃ b, nameB (s.extract 1 s.size) = b := ⟨_, rfl⟩
    rw [hb] at hcl h1
    obtain rfl : (b && !g) = t := by rw [← h1]; simp
    clear h1 ht hq hb
    go_enter Try.func91, Try.ntmps91
    go_wp2_with fail
    refine (header_held ⟨i, s, z, g⟩ _ hs HQ).mono ?_
    rintro e w1 ⟨rfl, hx1⟩
    have q1 := hx1.cell (cell_new w #[.int .i64 i, .string s, .int .i64 z, .bool g] TMk 1)
    have q3 := hx1.cell (cell_new w #[.int .i64 i, .string s, .int .i64 z, .bool g] TMk 3)
    go_wp2_with fail
    refine (hcl _).mono ?_
    rintro e _ ⟨rfl, rfl⟩
    cases b
    all_goals cases g
    all_goals
      go_wp2_with fail
      go_ret
      exact ⟨rfl, (Ext.alloc _ _).trans hx1⟩
theorem ref_MarkName (s : ByteArray) (w : World) (hs : s.size ≤ 1000000) {t : Bool} (ht : Hid (nameM s = t)) :
    Calls Try.prog 58 #[.string s] w fun e w' => e = .returned (.bool t) ∧ w = w' := by
  obtain ⟨q, hq⟩ : ∃ q, tildeB s = q := ⟨_, rfl⟩
  have HQ := Lib.hid hq
  have h1 := ht.out
  unfold nameM at h1
  rw [hq] at h1
  have hm : s.size ≤ maxLen := by unfold maxLen; omega
  cases q with
  | false =>
    have hcl := fun w => ref_Name s w hm
    obtain ⟨b, hb⟩ : ∃ b, nameB s = b := ⟨_, rfl⟩
    rw [hb] at hcl h1
    obtain rfl : b = t := by rw [← h1]; simp
    clear h1 ht hq hb
    go_enter Try.func58, Try.ntmps58
    go_wp2_with fail
    refine (ref_hidden s _ hs HQ).mono ?_
    rintro e _ ⟨rfl, rfl⟩
    go_wp2_with fail
    refine (hcl _).mono ?_
    rintro e _ ⟨rfl, rfl⟩
    go_wp2_with fail
    go_ret
    exact ⟨rfl, rfl⟩
  | true =>
    have h0 : 0 < s.size := by
      by_cases h : 0 < s.size
      · exact h
      · rw [tilde_nil h] at hq; cases hq
    have hcl := fun w => ref_Name (tailS s) w (tail_size hs)
    unfold tailS at hcl h1
    obtain ⟨b, hb⟩ : ∃ b, nameB (s.extract 1 s.size) = b := ⟨_, rfl⟩
    rw [hb] at hcl h1
    obtain rfl : b = t := by rw [← h1]; simp
    clear h1 ht hq hb
    go_enter Try.func58, Try.ntmps58
    go_wp2_with fail
    refine (ref_hidden s _ hs HQ).mono ?_
    rintro e _ ⟨rfl, rfl⟩
    go_wp2_with fail
    refine (hcl _).mono ?_
    rintro e _ ⟨rfl, rfl⟩
    go_wp2_with fail
    go_ret
    exact ⟨rfl, rfl⟩
abbrev layV (o u c : Int) : Value := .agg #[.int .i64 o, .int .i64 u, .int .i64 c]
theorem header_Shape (o u c : Int) (w : World) {t : Bool} (ht : Hid (shapeB o u c = t)) :
    Calls Try.prog 31 #[layV o u c] w fun e w' => e = .returned (.bool t) ∧ Ext w w' := by
  go_enter Try.func31, Try.ntmps31
  go_wp2_with fail
  all_goals
    go_ret
    refine ⟨congrArg (fun z => Ending.returned (.bool z)) ?_, Ext.alloc _ _⟩
    rw [← ht.out]
    unfold shapeB
    rw [Bool.eq_iff_iff]
    simp_all
    try omega
theorem ref_Shape (o u c : Int) (w : World) {t : Bool} (ht : Hid (shapeB o u c = t)) :
    Calls Try.prog 32 #[layV o u c] w fun e w' => e = .returned (.bool t) ∧ Ext w w' := by
  go_enter Try.func32, Try.ntmps32
  go_wp2_with fail
  all_goals
    go_ret
    refine ⟨congrArg (fun z => Ending.returned (.bool z)) ?_, Ext.alloc _ _⟩
    rw [← ht.out]
    unfold shapeB
    rw [Bool.eq_iff_iff]
    simp_all
    try omega
end Go.Proofs.Ytoeknbogaclfdaa

namespace Go.Proofs.Ytoeknbogaclfdaa
open Go.RowKit
set_option linter.unusedVariables false
set_option linter.unusedSimpArgs false
set_option linter.unnecessarySimpa false
set_option maxRecDepth 100000

abbrev INT : TypeId := 3
theorem info_int : (Try.prog.info? INT).map (fun i => (i.zero, i.size, i.bytes)) = some (some (.int .i64 0), 1, 8) := by kernel_rfl
theorem under_ints : Try.prog.underlying 22 = some (.slice INT) := by kernel_rfl
def intR (x : Int) (cs : List Value) (w : World) : Prop := cs = [.int .i64 x]
theorem int_rep : Rep 1 intR where
  len := by rintro x cs w rfl; rfl
  one := by
    rintro x cs w rfl u hu
    simp at hu
    subst hu
    rfl
  keep := by
    rintro x cs w w' rfl hk
    rfl
  lt := by
    rintro x cs w rfl k ⟨ad, m, c', hm, _⟩
    simp at hm
theorem Lst.atI {w : World} {A : Option Addr} {n c i : Nat} {xs : List Int} (h : Lst 1 intR w A n c xs) (hi : i < n) :
    ∃ (g o : Nat) (x : Int), A = some ⟨g, o, none⟩ ∧ xs[i]? = some x ∧ w.cell? ⟨g, o + i, none⟩ = some (.int .i64 x) := by
  obtain ⟨g, o, x, cs, e, hx, rfl, hc⟩ := h.at2 int_rep (by omega) hi
  refine ⟨g, o, x, e, hx, ?_⟩
  have := hc 0 _ rfl
  simpa using this
theorem drop_step {α : Type} {xs : List α} {k : Nat} {x : α} (hx : xs[k]? = some x) : xs.drop k = x :: xs.drop (k + 1) := by
  obtain ⟨h, rfl⟩ := List.getElem?_eq_some_iff.1 hx
  exact List.drop_eq_getElem_cons h
end Go.Proofs.Ytoeknbogaclfdaa

namespace Go.Proofs.Ytoeknbogaclfdaa
open Go.RowKit
set_option linter.unusedVariables false
set_option linter.unusedSimpArgs false
set_option linter.unnecessarySimpa false
set_option maxRecDepth 100000

theorem int_no_pts {x : Int} {cs : List Value} {w : World} (h : intR x cs w) : ∀ k, ¬ Pts cs k := by
  rintro k ⟨ad, m, c', hm, _⟩
  rw [h] at hm
  simp at hm
theorem All2.mem {α : Type} {R : α → List Value → World → Prop} {w : World} : ∀ {xs : List α} {css : List (List Value)}, All2 R w xs css → ∀ cs ∈ css, ∃ x, R x cs w
  | _, _, .nil, cs, h => by simp at h
  | _, _, @All2.cons _ _ _ y ds ys dss h t, cs, hm => by
    rcases List.mem_cons.1 hm with rfl | hm
    · exact ⟨_, h⟩
    · exact t.mem cs hm
theorem wpList_append_flat2 {P : Program} {α : Type} {size : Nat} {R : α → List Value → World → Prop} (hR : Rep size R) (hnp : ∀ (x : α) (cs : List Value) (w : World), R x cs w → ∀ k, ¬ Pts cs k)
    {ops : Array Oper} {rest : List Oper} {o : Oper} {a : Act} {Q : Exit → Act → World → Prop} {w w0 : World} (hgd : o.guard = none) (s y : Operand) (t tx : TypeId)
    (ho : o.op = .call { callee := .builtin .append, args := #[s, y], argTypes := #[t, tx] })
    (e e' : TypeId) (i : TypeInfo) (z : Value) (bytes : Nat) (ht : P.underlying t = some (.slice e)) (htx : P.underlying tx = some (.slice e')) (hi : P.info? e = some i) (hz : i.zero = some z)
    (hsize : i.size = size) (hby : i.bytes = bytes) (hzs : z.cells.size = size)
    (A : Option Addr) (n c : Nat) (xs : List α) (hsv : a.eval s = .slice A n c) (hown : OwnL e size R w w0.heap.size A n c xs) (A2 : Option Addr) (m c2 : Nat) (ys : List α) (hy : a.eval y = .slice A2 m c2) (hl : Lst size R w A2 m c2 ys)
    (N : Nat) (hN : n + m = N) (zs : List α) (hzs' : xs ++ ys = zs) (h63 : N ≤ maxLen) (hbytes : N * bytes ≤ 140737488355328) (hx : Ext w0 w)
    (h : ∀ A' c' w', OwnL e size R w' w0.heap.size A' N c' zs → Ext w0 w' → w.grownBy w' (rowOf A c) → wpList P ops Q rest (a.put o.dst (.slice A' N c')) w') : wpList P ops Q (o :: rest) a w := by
  subst hN hzs'
  obtain ⟨css, ha, ho1, hp⟩ := hown.own
  obtain ⟨dss, hb, hsrc⟩ := hl.src (P := P) hR htx
  refine wpList_append_mine _ hgd s y t tx ho w0.heap.size e i z size bytes ht hi hz hsize hby hzs A n c _ hsv ho1 _ hy m _ hsrc h63 hbytes hx.size ?_
  intro A3 c3 w3 hown3 hg3 hr3
  refine h A3 c3 w3 ?_ (below_grown hx ho1 hg3 hx.size) hg3
  refine OwnL.more hR hown.len hl.len ha hp hb (fun cs hcs k hk => ?_) hown3 hg3 hr3
  obtain ⟨x, hr⟩ := hb.mem cs hcs
  exact absurd hk (hnp _ _ _ hr k)
theorem wpList_append_flat {P : Program} {α : Type} {size : Nat} {R : α → List Value → World → Prop} (hR : Rep size R) (hnp : ∀ (x : α) (cs : List Value) (w : World), R x cs w → ∀ k, ¬ Pts cs k)
    {ops : Array Oper} {rest : List Oper} {o : Oper} {a : Act} {Q : Exit → Act → World → Prop} {w w0 : World} (hgd : o.guard = none) (s y : Operand) (t tx : TypeId)
    (ho : o.op = .call { callee := .builtin .append, args := #[s, y], argTypes := #[t, tx] })
    (e e' : TypeId) (i : TypeInfo) (z : Value) (bytes : Nat) (ht : P.underlying t = some (.slice e)) (htx : P.underlying tx = some (.slice e')) (hi : P.info? e = some i) (hz : i.zero = some z)
    (hsize : i.size = size) (hby : i.bytes = bytes) (hzs : z.cells.size = size)
    (A : Option Addr) (n c : Nat) (xs : List α) (hsv : a.eval s = .slice A n c) (hown : OwnL e size R w w0.heap.size A n c xs) (A2 : Option Addr) (m c2 : Nat) (ys : List α) (hy : a.eval y = .slice A2 m c2) (hl : Lst size R w A2 m c2 ys)
    (N : Nat) (hN : n + m = N) (zs : List α) (hzs' : xs ++ ys = zs) (h63 : N ≤ maxLen) (hbytes : N * bytes ≤ 140737488355328) (hx : Ext w0 w)
    (h : ∀ A' c' w', OwnL e size R w' w0.heap.size A' N c' zs → Ext w0 w' → wpList P ops Q rest (a.put o.dst (.slice A' N c')) w') : wpList P ops Q (o :: rest) a w :=
  wpList_append_flat2 hR hnp hgd s y t tx ho e e' i z bytes ht htx hi hz hsize hby hzs A n c xs hsv hown A2 m c2 ys hy hl N hN zs hzs' h63 hbytes hx fun A' c' w' h1 h2 _ => h A' c' w' h1 h2
end Go.Proofs.Ytoeknbogaclfdaa

namespace Go.Proofs.Ytoeknbogaclfdaa
open Go.RowKit
set_option linter.unusedVariables false
set_option linter.unusedSimpArgs false
set_option linter.unnecessarySimpa false
set_option maxRecDepth 100000

abbrev hdV (h : Hd) (A : Option Addr) (n c : Nat) : Value := .agg #[.int .i64 h.size, .int .i64 h.order, .int .i64 h.unit, .int .i64 h.count, .int .i64 h.next, .int .i64 h.seq, .slice A n c]
def newF (p : Bool × Int) (x : Mk) : Bool × Int := (true, if p.1 = false ∨ p.2 < x.id then x.id else p.2)
def newestI (l : List Mk) : Int := (l.foldl newF (false, 0)).2
theorem newF_fst : ∀ (l : List Mk) (p : Bool × Int), (l.foldl newF p).1 = (p.1 || decide (0 < l.length))
  | [], p => by simp
  | x :: l, p => by
    rw [List.foldl_cons, newF_fst l]
    simp [newF]
theorem newest_next {xs : List Mk} {k : Nat} {x : Mk} (h : xs[k]? = some x) : newestI (xs.take (k + 1)) = if k = 0 ∨ newestI (xs.take k) < x.id then x.id else newestI (xs.take k) := by
  have hl : (xs.take k).length = k := by rw [List.length_take]; have := (List.getElem?_eq_some_iff.1 h).1; omega
  have h1 := newF_fst (xs.take k) (false, 0)
  rw [hl] at h1
  unfold newestI
  rw [List.take_add_one, h]
  rw [List.foldl_append]
  generalize (xs.take k).foldl newF (false, 0) = p at h1 ⊢
  show (if p.1 = false ∨ p.2 < x.id then x.id else p.2) = _
  rw [h1]
  have e : ((false || decide (0 < k)) = false) = (k = 0) := by
    simp only [Bool.false_or, decide_eq_false_iff_not]
    exact propext (by omega)
  simp only [e]
theorem header_Newest (h : Hd) {A : Option Addr} {n c : Nat} {w : World} (hl : Lst 4 mkR w A n c h.marks) {r : Int} (hr : Hid (newestI h.marks = r)) :
    Calls Try.prog 27 #[hdV h A n c] w fun e w' => e = .returned (.int .i64 r) ∧ Ext w w' := by
  have h63 := hl.n63
  obtain ⟨h1, h2, h3, h4, h5, h6, xs⟩ := h
  simp only at hl hr
  go_enter Try.func27, Try.ntmps27
  go_wp2_with fail
  go_loopw [3, 9] (fun v i wr => ∃ (k : Nat) (d : Int), k ≤ n ∧ v = .int .i64 d ∧ i = .int .i64 k ∧ Hid (newestI (xs.take k) = d) ∧ Ext w wr) (fun _ i _ => n - (intOf i).toNat)
  case atStart => exact ⟨0, 0, by omega, rfl, rfl, rfl, Ext.alloc _ _⟩
  case round =>
    obtain ⟨k, d, hk, rfl, rfl, hd, hxr⟩ := hrel
    by_cases hlt : k < n
    · skip
      obtain ⟨ga, oa, x, cs, rfl, hx, rfl, ha⟩ := hl.at2 mk_rep (by omega) hlt
      have a0 : wr.cell? ⟨ga, oa + k * 4, none⟩ = _ := hxr.cell (ha 0 _ rfl)
      have a1 := hxr.cell (ha 1 _ rfl)
      have a2 := hxr.cell (ha 2 _ rfl)
      have a3 := hxr.cell (ha 3 _ rfl)
      clear ha
      have hn := newest_next hx
      rw [hd.out] at hn
      by_cases hc : k = 0 ∨ d < x.id
      · rw [if_pos hc] at hn
        have HN := Lib.hid hn
        clear hn hx hd
        obtain ⟨x1, x2, x3, x4⟩ := x
        simp only at a0 a1 a2 a3 hc HN
        by_cases hk0 : k = 0
        · have hkb : ((k : Int) == 0) = true := by simp; omega
          clear hc hk0
          go_wp2_with fail
          go_roundw
          case rel => exact ⟨k + 1, x1, by omega, rfl, by go_num, HN, hxr.allocs _⟩
          case measure => simp [intOf]; omega
        · have hkb : ((k : Int) == 0) = false := by simp; omega
          have hdx : d < x1 := by omega
          clear hc hk0
          go_wp2_with fail
          go_roundw
          case rel => exact ⟨k + 1, x1, by omega, rfl, by go_num, HN, hxr.allocs _⟩
          case measure => simp [intOf]; omega
      · rw [if_neg hc] at hn
        have HN := Lib.hid hn
        clear hn hx hd
        obtain ⟨x1, x2, x3, x4⟩ := x
        simp only at a0 a1 a2 a3 hc HN
        have hkb : ((k : Int) == 0) = false := by simp; omega
        have hdx : decide (d < x1) = false := by simp; omega
        clear hc
        go_wp2_with fail
        go_roundw
        case rel => exact ⟨k + 1, d, by omega, rfl, by go_num, HN, hxr.allocs _⟩
        case measure => simp [intOf]; omega
    · obtain rfl : k = n := by omega
      have e := hd.out
      rw [List.take_of_length_le (by rw [hl.len]; exact Nat.le_refl _), hr.out] at e
      subst e
      clear hd hr
      go_wp2_with fail
      go_ret
      exact ⟨rfl, hxr⟩
/-- a row of one mark, written down -/
theorem mk_lit (w : World) (x : Mk) : OwnL TMk 4 mkR (w.alloc (.cells #[.int .i64 x.id, .string x.nm, .int .i64 x.sz, .bool x.gone] TMk)) w.heap.size (some ⟨w.heap.size, 0, none⟩) 1 1 [x] :=
  ⟨rfl, [[.int .i64 x.id, .string x.nm, .int .i64 x.sz, .bool x.gone]], .cons rfl .nil, Own.made w w.heap.size TMk 4 #[.int .i64 x.id, .string x.nm, .int .i64 x.sz, .bool x.gone] 1 1 (Nat.le_refl _) (Nat.le_refl _) (by simp [maxLen]) rfl, fun cs hcs k hk => by simp at hcs; subst hcs; exact absurd hk (mk_nop (x := x) (w := w) rfl k)⟩
theorem seenL_next {xs : List Mk} {k : Nat} {x : Mk} (h : xs[k]? = some x) : seenL (xs.take (k + 1)) = if seenM x = true then seenL (xs.take k) ++ [x] else seenL (xs.take k) := by
  rw [List.take_add_one, h, seenL_app]
  show _ ++ seenL [x] = _
  unfold seenL
  split
  · rename_i e; rw [List.filter_cons_of_pos e, List.filter_nil]
  · rename_i e; rw [List.filter_cons_of_neg e, List.filter_nil, List.append_nil]
/-- names that are no longer than a row may be -/
def Shorts (l : List Mk) : Prop := ∀ x ∈ l, x.nm.size ≤ 1000
theorem Shorts.at_ {l : List Mk} (h : Shorts l) {k : Nat} {x : Mk} (hx : l[k]? = some x) : x.nm.size ≤ 1000 := h x (List.mem_of_getElem? hx)
set_option maxHeartbeats 1000000 in
theorem header_Seen (h : Hd) {A : Option Addr} {n c : Nat} {w : World} (hl : Lst 4 mkR w A n c h.marks) (hs : Hid (Shorts h.marks)) (hn : n ≤ 1000) {R : List Mk} (hr : Hid (seenL h.marks = R)) :
    Calls Try.prog 25 #[hdV h A n c] w fun e w' => ∃ A' n' c', e = .returned (.slice A' n' c') ∧ OwnL TMk 4 mkR w' w.heap.size A' n' c' R ∧ Ext w w' := by
  have h63 := hl.n63
  obtain ⟨i0, hi0, hz0, hz1, hz2⟩ := info_parts info_mk
  obtain ⟨h1, h2, h3, h4, h5, h6, xs⟩ := h
  simp only at hl hr hs
  go_enter Try.func25, Try.ntmps25
  go_wp2_with fail
  go_loopw [3, 9] (fun v i wr => ∃ (k : Nat) (Ao : Option Addr) (m co : Nat) (out : List Mk), k ≤ n ∧ m ≤ k ∧ v = .slice Ao m co ∧ i = .int .i64 k ∧ OwnL TMk 4 mkR wr w.heap.size Ao m co out ∧ Hid (seenL (xs.take k) = out) ∧ Ext w wr) (fun _ i _ => n - (intOf i).toNat)
  case atStart => exact ⟨0, none, 0, 0, [], by omega, by omega, rfl, rfl, OwnL.nil _ _ _ _, rfl, Ext.alloc _ _⟩
  case round =>
    obtain ⟨k, Ao, m, co, out, hk, hm, rfl, rfl, hown, hd, hxr⟩ := hrel
    by_cases hlt : k < n
    · skip
      obtain ⟨ga, oa, x, cs, rfl, hx, rfl, ha⟩ := hl.at2 mk_rep (by omega) hlt
      have a0 : wr.cell? ⟨ga, oa + k * 4, none⟩ = _ := hxr.cell (ha 0 _ rfl)
      have a1 := hxr.cell (ha 1 _ rfl)
      have a2 := hxr.cell (ha 2 _ rfl)
      have a3 := hxr.cell (ha 3 _ rfl)
      clear ha
      have hn := seenL_next hx
      rw [hd.out] at hn
      have hsz := hs.out.at_ hx
      obtain ⟨q, hq⟩ : ∃ q, seenM x = q := ⟨_, rfl⟩
      have HQ := Lib.hid hq
      rw [hq] at hn
      clear hx hd
      cases q with
      | false =>
        have HN : Hid (seenL (xs.take (k + 1)) = out) := by unfold Hid; rw [hn]; rfl
        clear hn hq
        obtain ⟨x1, x2, x3, x4⟩ := x
        simp only at a0 a1 a2 a3 hsz
        go_wp2_with fail
        refine (header_seen ⟨x1, x2, x3, x4⟩ _ (by simp only; omega) HQ).mono ?_
        rintro e w2 ⟨rfl, hx2⟩
        go_wp2_with fail
        go_roundw
        case rel => exact ⟨k + 1, Ao, m, co, out, by omega, by omega, rfl, by go_num, (hown.ext mk_rep (Ext.alloc _ _)).ext mk_rep hx2, HN, (hxr.allocs _).trans hx2⟩
        case measure => simp [intOf]; omega
      | true =>
        have HN : Hid (seenL (xs.take (k + 1)) = out ++ [x]) := by unfold Hid; rw [hn]; rfl
        clear hn hq
        obtain ⟨x1, x2, x3, x4⟩ := x
        simp only at a0 a1 a2 a3 hsz
        go_wp2_with fail
        refine (header_seen ⟨x1, x2, x3, x4⟩ _ (by simp only; omega) HQ).mono ?_
        rintro e w2 ⟨rfl, hx2⟩
        have c0 : w2.cell? ⟨wr.heap.size, 0, none⟩ = some (.int .i64 x1) := hx2.cell (cell_new wr #[.int .i64 x1, .string x2, .int .i64 x3, .bool x4] TMk 0)
        have c1 : w2.cell? ⟨wr.heap.size, 1, none⟩ = some (.string x2) := hx2.cell (cell_new wr #[.int .i64 x1, .string x2, .int .i64 x3, .bool x4] TMk 1)
        have c2 : w2.cell? ⟨wr.heap.size, 2, none⟩ = some (.int .i64 x3) := hx2.cell (cell_new wr #[.int .i64 x1, .string x2, .int .i64 x3, .bool x4] TMk 2)
        have c3 : w2.cell? ⟨wr.heap.size, 3, none⟩ = some (.bool x4) := hx2.cell (cell_new wr #[.int .i64 x1, .string x2, .int .i64 x3, .bool x4] TMk 3)
        have hown2 := (hown.ext mk_rep (Ext.alloc wr (.cells #[.int .i64 x1, .string x2, .int .i64 x3, .bool x4] TMk))).ext mk_rep hx2
        have hx3 := (hxr.allocs (.cells #[.int .i64 x1, .string x2, .int .i64 x3, .bool x4] TMk)).trans hx2
        have lit := (mk_lit w2 ⟨x1, x2, x3, x4⟩).lst
        clear hx2 a0 a1 a2 a3
        go_wp2_with (
          at_builtin
          refine wpList_append_flat (w0 := w) mk_rep (fun x cs w h => mk_nop h) rfl _ _ _ _ rfl TMk TMk i0 _ 40 under_mks under_mks hi0 hz0 hz1 hz2 rfl Ao m co out rfl (hown2.ext mk_rep (Ext.alloc _ _)) _ 1 1 [⟨x1, x2, x3, x4⟩] rfl lit (m + 1) rfl _ rfl (by simp only [maxLen]; omega) (by omega) (hx3.allocs _) ?_
          intro A3 c3 w3 hb3 hx4)
        go_wp2_with fail
        go_roundw
        case rel => exact ⟨k + 1, A3, m + 1, c3, _, by omega, by omega, rfl, by go_num, hb3, HN, hx4⟩
        case measure => simp [intOf]; omega
    · obtain rfl : k = n := by omega
      have e := hd.out
      rw [List.take_of_length_le (by rw [hl.len]; exact Nat.le_refl _), hr.out] at e
      subst e
      clear hd hr
      go_wp2_with fail
      go_ret
      exact ⟨_, _, _, rfl, hown, hxr⟩
end Go.Proofs.Ytoeknbogaclfdaa

namespace Go.Proofs.Ytoeknbogaclfdaa
open Go.RowKit
set_option linter.unusedVariables false
set_option linter.unusedSimpArgs false
set_option linter.unnecessarySimpa false
set_option maxRecDepth 100000

def sameMk (xs ys : List Mk) : Bool := decide (xs = ys)
theorem sameMk_no {xs ys : List Mk} {k : Nat} {x y : Mk} (hx : xs[k]? = some x) (hy : ys[k]? = some y) (e : x ≠ y) : sameMk xs ys = false := by
  unfold sameMk
  rw [decide_eq_false_iff_not]
  rintro rfl
  rw [hx] at hy
  injection hy with hy
  exact e hy
theorem takeMk_next {xs ys : List Mk} {k : Nat} {x : Mk} (h : xs.take k = ys.take k) (hx : xs[k]? = some x) (hy : ys[k]? = some x) : xs.take (k + 1) = ys.take (k + 1) := by
  rw [List.take_add_one, List.take_add_one, h, hx, hy]
set_option maxHeartbeats 1000000 in
theorem ref_SameMarks {A : Option Addr} {n c : Nat} {xs : List Mk} {A' : Option Addr} {n' c' : Nat} {ys : List Mk} {w : World} (l1 : Lst 4 mkR w A n c xs) (l2 : Lst 4 mkR w A' n' c' ys) {b : Bool} (hb : Hid (sameMk xs ys = b)) :
    Calls Try.prog 33 #[.slice A n c, .slice A' n' c'] w fun e w' => e = .returned (.bool b) ∧ Ext w w' := by
  have h63 := l1.n63
  have h63' := l2.n63
  by_cases hn : n = n'
  case neg =>
    have hne : b = false := by
      rw [← hb.out]
      unfold sameMk
      rw [decide_eq_false_iff_not]
      rintro rfl
      exact hn (l1.len.symm.trans l2.len)
    subst hne
    have hnn : ((n : Int) != (n' : Int)) = true := by simp; omega
    clear hn hb
    go_enter Try.func33, Try.ntmps33
    go_wp2_with fail
    go_ret
    exact ⟨rfl, Ext.refl _⟩
  subst hn
  go_enter Try.func33, Try.ntmps33
  go_wp2_with fail
  go_loopw [5] (fun i wr => ∃ k : Nat, k ≤ n ∧ i = .int .i64 k ∧ Hid (xs.take k = ys.take k) ∧ Ext w wr) (fun i _ => n - (intOf i).toNat)
  case atStart => exact ⟨0, by omega, rfl, rfl, Ext.refl _⟩
  case round =>
    obtain ⟨k, hk, rfl, hrk, hxr⟩ := hrel
    by_cases hlt : k < n
    · obtain ⟨ga, oa, x, cs, rfl, hx, rfl, ha⟩ := l1.at2 mk_rep (by omega) hlt
      obtain ⟨gb, ob, y, ds, rfl, hy, rfl, hd⟩ := l2.at2 mk_rep (by omega) hlt
      have a0 : wr.cell? ⟨ga, oa + k * 4, none⟩ = _ := hxr.cell (ha 0 _ rfl)
      have a1 := hxr.cell (ha 1 _ rfl)
      have a2 := hxr.cell (ha 2 _ rfl)
      have a3 := hxr.cell (ha 3 _ rfl)
      have b0 : wr.cell? ⟨gb, ob + k * 4, none⟩ = _ := hxr.cell (hd 0 _ rfl)
      have b1 := hxr.cell (hd 1 _ rfl)
      have b2 := hxr.cell (hd 2 _ rfl)
      have b3 := hxr.cell (hd 3 _ rfl)
      clear ha hd
      by_cases e : x = y
      · subst e
        have hn := Lib.hid (takeMk_next hrk.out hx hy)
        obtain ⟨x1, x2, x3, x4⟩ := x
        clear hx hy hrk
        go_wp2_with fail
        refine wp_region_typed Ext.steady rfl 26 rfl (by kernel_rfl) ?_
        -- 0: Op.move t0
        apply Stage.step (Is _) [] (Is.keeps _) (by kernel_rfl)
        · intro w1 h1
          simp only [Given]
          go_wp2_with fail
          exact Post.isv (Ext.refl _) rfl rfl rfl
        -- 1: Op.move t5
        apply Stage.step (Is _) [] (Is.keeps _) (by kernel_rfl)
        · intro w1 h1
          simp only [Given]
          go_wp2_with fail
          exact Post.isv (Ext.refl _) rfl rfl rfl
        -- 2: Op.indexAddr 27 t17 t18
        apply Stage.step (Is _) [true, true] (Is.keeps _) (by kernel_rfl)
        · intro w1 h1
          simp only [List.nil_append, List.cons_append, Given]
          rintro _ rfl
          rintro _ rfl
          go_wp2_with fail
          exact Post.isv (Ext.refl _) rfl rfl rfl
        -- 3: Op.load 48 t19
        apply Stage.step (Is _) [false, false, true] (Is.keeps _) (by kernel_rfl)
        · intro w1 h1
          simp only [List.nil_append, List.cons_append, Given]
          rintro _ rfl
          have q0 := h1.cell a0
          have q1 := h1.cell a1
          have q2 := h1.cell a2
          have q3 := h1.cell a3
          go_wp2_with fail
          exact Post.isv (Ext.refl _) rfl rfl rfl
        -- 4: Op.move t1
        apply Stage.step (Is _) [] (Is.keeps _) (by kernel_rfl)
        · intro w1 h1
          simp only [Given]
          go_wp2_with fail
          exact Post.isv (Ext.refl _) rfl rfl rfl
        -- 5: Op.move t5
        apply Stage.step (Is _) [] (Is.keeps _) (by kernel_rfl)
        · intro w1 h1
          simp only [Given]
          go_wp2_with fail
          exact Post.isv (Ext.refl _) rfl rfl rfl
        -- 6: Op.indexAddr 27 t21 t22
        apply Stage.step (Is _) [false, false, false, false, true, true] (Is.keeps _) (by kernel_rfl)
        · intro w1 h1
          simp only [List.nil_append, List.cons_append, Given]
          rintro _ rfl
          rintro _ rfl
          go_wp2_with fail
          exact Post.isv (Ext.refl _) rfl rfl rfl
        -- 7: Op.load 48 t23
        apply Stage.step (Is _) [false, false, false, false, false, false, true] (Is.keeps _) (by kernel_rfl)
        · intro w1 h1
          simp only [List.nil_append, List.cons_append, Given]
          rintro _ rfl
          have q0 := h1.cell b0
          have q1 := h1.cell b1
          have q2 := h1.cell b2
          have q3 := h1.cell b3
          go_wp2_with fail
          exact Post.isv (Ext.refl _) rfl rfl rfl
        -- 8: Op.binOp BinOp.neq 48 t20 t24 48
        apply Stage.step (Is (.bool false)) [false, false, false, true, false, false, false, true] (Is.keeps _) (by kernel_rfl)
        · intro w1 h1
          simp only [List.nil_append, List.cons_append, Given]
          rintro _ rfl
          rintro _ rfl
          go_wp2_with fail
          all_goals first | exact Post.isv (Ext.refl _) rfl rfl rfl | (exfalso; apply e; simp_all; done) | (exfalso; apply e; simp_all; exact e (bytes_inj ‹_›))
        apply Stage.nil
        intro w1 h1
        simp only [List.nil_append, List.cons_append]
        refine Fin.is_ ?_
        refine Fin.is_ ?_
        refine Fin.is_ ?_
        refine Fin.is_ ?_
        refine Fin.is_ ?_
        refine Fin.is_ ?_
        refine Fin.is_ ?_
        refine Fin.is_ ?_
        refine Fin.is_ ?_
        refine Fin.nil_ ?_
        go_simp
        go_wp2_with fail
        go_roundw
        case rel => exact ⟨k + 1, by omega, by go_num, hn, hxr.trans h1⟩
        case measure => simp [intOf]; omega
      · have hn := sameMk_no hx hy e
        rw [hb.out] at hn
        subst hn
        obtain ⟨x1, x2, x3, x4⟩ := x
        obtain ⟨y1, y2, y3, y4⟩ := y
        clear hx hy hrk hb
        go_wp2_with fail
        refine wp_region_typed Ext.steady rfl 26 rfl (by kernel_rfl) ?_
        -- 0: Op.move t0
        apply Stage.step (Is _) [] (Is.keeps _) (by kernel_rfl)
        · intro w1 h1
          simp only [Given]
          go_wp2_with fail
          exact Post.isv (Ext.refl _) rfl rfl rfl
        -- 1: Op.move t5
        apply Stage.step (Is _) [] (Is.keeps _) (by kernel_rfl)
        · intro w1 h1
          simp only [Given]
          go_wp2_with fail
          exact Post.isv (Ext.refl _) rfl rfl rfl
        -- 2: Op.indexAddr 27 t17 t18
        apply Stage.step (Is _) [true, true] (Is.keeps _) (by kernel_rfl)
        · intro w1 h1
          simp only [List.nil_append, List.cons_append, Given]
          rintro _ rfl
          rintro _ rfl
          go_wp2_with fail
          exact Post.isv (Ext.refl _) rfl rfl rfl
        -- 3: Op.load 48 t19
        apply Stage.step (Is _) [false, false, true] (Is.keeps _) (by kernel_rfl)
        · intro w1 h1
          simp only [List.nil_append, List.cons_append, Given]
          rintro _ rfl
          have q0 := h1.cell a0
          have q1 := h1.cell a1
          have q2 := h1.cell a2
          have q3 := h1.cell a3
          go_wp2_with fail
          exact Post.isv (Ext.refl _) rfl rfl rfl
        -- 4: Op.move t1
        apply Stage.step (Is _) [] (Is.keeps _) (by kernel_rfl)
        · intro w1 h1
          simp only [Given]
          go_wp2_with fail
          exact Post.isv (Ext.refl _) rfl rfl rfl
        -- 5: Op.move t5
        apply Stage.step (Is _) [] (Is.keeps _) (by kernel_rfl)
        · intro w1 h1
          simp only [Given]
          go_wp2_with fail
          exact Post.isv (Ext.refl _) rfl rfl rfl
        -- 6: Op.indexAddr 27 t21 t22
        apply Stage.step (Is _) [false, false, false, false, true, true] (Is.keeps _) (by kernel_rfl)
        · intro w1 h1
          simp only [List.nil_append, List.cons_append, Given]
          rintro _ rfl
          rintro _ rfl
          go_wp2_with fail
          exact Post.isv (Ext.refl _) rfl rfl rfl
        -- 7: Op.load 48 t23
        apply Stage.step (Is _) [false, false, false, false, false, false, true] (Is.keeps _) (by kernel_rfl)
        · intro w1 h1
          simp only [List.nil_append, List.cons_append, Given]
          rintro _ rfl
          have q0 := h1.cell b0
          have q1 := h1.cell b1
          have q2 := h1.cell b2
          have q3 := h1.cell b3
          go_wp2_with fail
          exact Post.isv (Ext.refl _) rfl rfl rfl
        -- 8: Op.binOp BinOp.neq 48 t20 t24 48
        apply Stage.step (Is (.bool true)) [false, false, false, true, false, false, false, true] (Is.keeps _) (by kernel_rfl)
        · intro w1 h1
          simp only [List.nil_append, List.cons_append, Given]
          rintro _ rfl
          rintro _ rfl
          go_wp2_with fail
          all_goals first | exact Post.isv (Ext.refl _) rfl rfl rfl | (exfalso; apply e; simp_all; done) | (exfalso; apply e; simp_all; exact e (bytes_inj ‹_›))
        apply Stage.nil
        intro w1 h1
        simp only [List.nil_append, List.cons_append]
        refine Fin.is_ ?_
        refine Fin.is_ ?_
        refine Fin.is_ ?_
        refine Fin.is_ ?_
        refine Fin.is_ ?_
        refine Fin.is_ ?_
        refine Fin.is_ ?_
        refine Fin.is_ ?_
        refine Fin.is_ ?_
        refine Fin.nil_ ?_
        go_simp
        go_wp2_with fail
        go_ret
        exact ⟨rfl, hxr.trans h1⟩
    · have hn : b = true := by
        rw [← hb.out]
        unfold sameMk
        rw [decide_eq_true_eq]
        have := hrk.out
        rwa [List.take_of_length_le (by rw [l1.len]; omega), List.take_of_length_le (by rw [l2.len]; omega)] at this
      subst hn
      clear hrk hb
      go_wp2_with fail
      go_ret
      exact ⟨rfl, hxr⟩
set_option maxHeartbeats 1000000 in
theorem equal_marks {A : Option Addr} {n c : Nat} {xs : List Mk} {A' : Option Addr} {n' c' : Nat} {ys : List Mk} {w : World} (l1 : Lst 4 mkR w A n c xs) (l2 : Lst 4 mkR w A' n' c' ys) {b : Bool} (hb : Hid (sameMk xs ys = b)) :
    Calls Try.prog 65 #[.slice A n c, .slice A' n' c'] w fun e w' => e = .returned (.bool b) ∧ Ext w w' := by
  have h63 := l1.n63
  have h63' := l2.n63
  by_cases hn : n = n'
  case neg =>
    have hne : b = false := by
      rw [← hb.out]
      unfold sameMk
      rw [decide_eq_false_iff_not]
      rintro rfl
      exact hn (l1.len.symm.trans l2.len)
    subst hne
    have hnn : ((n : Int) != (n' : Int)) = true := by simp; omega
    clear hn hb
    go_enter Try.func65, Try.ntmps65
    go_wp2_with fail
    go_ret
    exact ⟨rfl, Ext.refl _⟩
  subst hn
  go_enter Try.func65, Try.ntmps65
  go_wp2_with fail
  go_loopw [13] (fun i wr => ∃ k : Nat, k ≤ n ∧ i = .int .i64 k ∧ Hid (xs.take k = ys.take k) ∧ Ext w wr) (fun i _ => n - (intOf i).toNat)
  case atStart => exact ⟨0, by omega, rfl, rfl, Ext.refl _⟩
  case round =>
    obtain ⟨k, hk, rfl, hrk, hxr⟩ := hrel
    by_cases hlt : k < n
    · obtain ⟨ga, oa, x, cs, rfl, hx, rfl, ha⟩ := l1.at2 mk_rep (by omega) hlt
      obtain ⟨gb, ob, y, ds, rfl, hy, rfl, hd⟩ := l2.at2 mk_rep (by omega) hlt
      have a0 : wr.cell? ⟨ga, oa + k * 4, none⟩ = _ := hxr.cell (ha 0 _ rfl)
      have a1 := hxr.cell (ha 1 _ rfl)
      have a2 := hxr.cell (ha 2 _ rfl)
      have a3 := hxr.cell (ha 3 _ rfl)
      have b0 : wr.cell? ⟨gb, ob + k * 4, none⟩ = _ := hxr.cell (hd 0 _ rfl)
      have b1 := hxr.cell (hd 1 _ rfl)
      have b2 := hxr.cell (hd 2 _ rfl)
      have b3 := hxr.cell (hd 3 _ rfl)
      clear ha hd
      by_cases e : x = y
      · subst e
        have hn := Lib.hid (takeMk_next hrk.out hx hy)
        obtain ⟨x1, x2, x3, x4⟩ := x
        clear hx hy hrk
        go_wp2_with fail
        refine wp_region_typed Ext.steady rfl 26 rfl (by kernel_rfl) ?_
        -- 0: Op.move t0
        apply Stage.step (Is _) [] (Is.keeps _) (by kernel_rfl)
        · intro w1 h1
          simp only [Given]
          go_wp2_with fail
          exact Post.isv (Ext.refl _) rfl rfl rfl
        -- 1: Op.move t5
        apply Stage.step (Is _) [] (Is.keeps _) (by kernel_rfl)
        · intro w1 h1
          simp only [Given]
          go_wp2_with fail
          exact Post.isv (Ext.refl _) rfl rfl rfl
        -- 2: Op.indexAddr 27 t16 t17
        apply Stage.step (Is _) [true, true] (Is.keeps _) (by kernel_rfl)
        · intro w1 h1
          simp only [List.nil_append, List.cons_append, Given]
          rintro _ rfl
          rintro _ rfl
          go_wp2_with fail
          exact Post.isv (Ext.refl _) rfl rfl rfl
        -- 3: Op.load 48 t18
        apply Stage.step (Is _) [false, false, true] (Is.keeps _) (by kernel_rfl)
        · intro w1 h1
          simp only [List.nil_append, List.cons_append, Given]
          rintro _ rfl
          have q0 := h1.cell a0
          have q1 := h1.cell a1
          have q2 := h1.cell a2
          have q3 := h1.cell a3
          go_wp2_with fail
          exact Post.isv (Ext.refl _) rfl rfl rfl
        -- 4: Op.move t1
        apply Stage.step (Is _) [] (Is.keeps _) (by kernel_rfl)
        · intro w1 h1
          simp only [Given]
          go_wp2_with fail
          exact Post.isv (Ext.refl _) rfl rfl rfl
        -- 5: Op.move t5
        apply Stage.step (Is _) [] (Is.keeps _) (by kernel_rfl)
        · intro w1 h1
          simp only [Given]
          go_wp2_with fail
          exact Post.isv (Ext.refl _) rfl rfl rfl
        -- 6: Op.indexAddr 27 t20 t21
        apply Stage.step (Is _) [false, false, false, false, true, true] (Is.keeps _) (by kernel_rfl)
        · intro w1 h1
          simp only [List.nil_append, List.cons_append, Given]
          rintro _ rfl
          rintro _ rfl
          go_wp2_with fail
          exact Post.isv (Ext.refl _) rfl rfl rfl
        -- 7: Op.load 48 t22
        apply Stage.step (Is _) [false, false, false, false, false, false, true] (Is.keeps _) (by kernel_rfl)
        · intro w1 h1
          simp only [List.nil_append, List.cons_append, Given]
          rintro _ rfl
          have q0 := h1.cell b0
          have q1 := h1.cell b1
          have q2 := h1.cell b2
          have q3 := h1.cell b3
          go_wp2_with fail
          exact Post.isv (Ext.refl _) rfl rfl rfl
        -- 8: Op.binOp BinOp.neq 48 t19 t23 48
        apply Stage.step (Is (.bool false)) [false, false, false, true, false, false, false, true] (Is.keeps _) (by kernel_rfl)
        · intro w1 h1
          simp only [List.nil_append, List.cons_append, Given]
          rintro _ rfl
          rintro _ rfl
          go_wp2_with fail
          all_goals first | exact Post.isv (Ext.refl _) rfl rfl rfl | (exfalso; apply e; simp_all; done) | (exfalso; apply e; simp_all; exact e (bytes_inj ‹_›))
        apply Stage.nil
        intro w1 h1
        simp only [List.nil_append, List.cons_append]
        refine Fin.is_ ?_
        refine Fin.is_ ?_
        refine Fin.is_ ?_
        refine Fin.is_ ?_
        refine Fin.is_ ?_
        refine Fin.is_ ?_
        refine Fin.is_ ?_
        refine Fin.is_ ?_
        refine Fin.is_ ?_
        refine Fin.nil_ ?_
        go_simp
        go_wp2_with fail
        go_roundw
        case rel => exact ⟨k + 1, by omega, by go_num, hn, hxr.trans h1⟩
        case measure => simp [intOf]; omega
      · have hn := sameMk_no hx hy e
        rw [hb.out] at hn
        subst hn
        obtain ⟨x1, x2, x3, x4⟩ := x
        obtain ⟨y1, y2, y3, y4⟩ := y
        clear hx hy hrk hb
        go_wp2_with fail
        refine wp_region_typed Ext.steady rfl 26 rfl (by kernel_rfl) ?_
        -- 0: Op.move t0
        apply Stage.step (Is _) [] (Is.keeps _) (by kernel_rfl)
        · intro w1 h1
          simp only [Given]
          go_wp2_with fail
          exact Post.isv (Ext.refl _) rfl rfl rfl
        -- 1: Op.move t5
        apply Stage.step (Is _) [] (Is.keeps _) (by kernel_rfl)
        · intro w1 h1
          simp only [Given]
          go_wp2_with fail
          exact Post.isv (Ext.refl _) rfl rfl rfl
        -- 2: Op.indexAddr 27 t16 t17
        apply Stage.step (Is _) [true, true] (Is.keeps _) (by kernel_rfl)
        · intro w1 h1
          simp only [List.nil_append, List.cons_append, Given]
          rintro _ rfl
          rintro _ rfl
          go_wp2_with fail
          exact Post.isv (Ext.refl _) rfl rfl rfl
        -- 3: Op.load 48 t18
        apply Stage.step (Is _) [false, false, true] (Is.keeps _) (by kernel_rfl)
        · intro w1 h1
          simp only [List.nil_append, List.cons_append, Given]
          rintro _ rfl
          have q0 := h1.cell a0
          have q1 := h1.cell a1
          have q2 := h1.cell a2
          have q3 := h1.cell a3
          go_wp2_with fail
          exact Post.isv (Ext.refl _) rfl rfl rfl
        -- 4: Op.move t1
        apply Stage.step (Is _) [] (Is.keeps _) (by kernel_rfl)
        · intro w1 h1
          simp only [Given]
          go_wp2_with fail
          exact Post.isv (Ext.refl _) rfl rfl rfl
        -- 5: Op.move t5
        apply Stage.step (Is _) [] (Is.keeps _) (by kernel_rfl)
        · intro w1 h1
          simp only [Given]
          go_wp2_with fail
          exact Post.isv (Ext.refl _) rfl rfl rfl
        -- 6: Op.indexAddr 27 t20 t21
        apply Stage.step (Is _) [false, false, false, false, true, true] (Is.keeps _) (by kernel_rfl)
        · intro w1 h1
          simp only [List.nil_append, List.cons_append, Given]
          rintro _ rfl
          rintro _ rfl
          go_wp2_with fail
          exact Post.isv (Ext.refl _) rfl rfl rfl
        -- 7: Op.load 48 t22
        apply Stage.step (Is _) [false, false, false, false, false, false, true] (Is.keeps _) (by kernel_rfl)
        · intro w1 h1
          simp only [List.nil_append, List.cons_append, Given]
          rintro _ rfl
          have q0 := h1.cell b0
          have q1 := h1.cell b1
          have q2 := h1.cell b2
          have q3 := h1.cell b3
          go_wp2_with fail
          exact Post.isv (Ext.refl _) rfl rfl rfl
        -- 8: Op.binOp BinOp.neq 48 t19 t23 48
        apply Stage.step (Is (.bool true)) [false, false, false, true, false, false, false, true] (Is.keeps _) (by kernel_rfl)
        · intro w1 h1
          simp only [List.nil_append, List.cons_append, Given]
          rintro _ rfl
          rintro _ rfl
          go_wp2_with fail
          all_goals first | exact Post.isv (Ext.refl _) rfl rfl rfl | (exfalso; apply e; simp_all; done) | (exfalso; apply e; simp_all; exact e (bytes_inj ‹_›))
        apply Stage.nil
        intro w1 h1
        simp only [List.nil_append, List.cons_append]
        refine Fin.is_ ?_
        refine Fin.is_ ?_
        refine Fin.is_ ?_
        refine Fin.is_ ?_
        refine Fin.is_ ?_
        refine Fin.is_ ?_
        refine Fin.is_ ?_
        refine Fin.is_ ?_
        refine Fin.is_ ?_
        refine Fin.nil_ ?_
        go_simp
        go_wp2_with fail
        go_ret
        exact ⟨rfl, hxr.trans h1⟩
    · have hn : b = true := by
        rw [← hb.out]
        unfold sameMk
        rw [decide_eq_true_eq]
        have := hrk.out
        rwa [List.take_of_length_le (by rw [l1.len]; omega), List.take_of_length_le (by rw [l2.len]; omega)] at this
      subst hn
      clear hrk hb
      go_wp2_with fail
      go_ret
      exact ⟨rfl, hxr⟩
end Go.Proofs.Ytoeknbogaclfdaa
