/-
  Marks: rows of them; contracts of the small functions: held, seen, named, hidden, MarkName, Shape.
-/
import Derived.Test.YtoeknbogaclfdaaZMkPlain
import Derived.Test.YtoeknbogaclfdaaZCore
namespace Go.Proofs.Ytoeknbogaclfdaa
open Go.RowKit
set_option linter.unusedVariables false
set_option linter.unusedSimpArgs false
set_option linter.unnecessarySimpa false
set_option maxRecDepth 100000

theorem bytes_inj {a b : ByteArray} (h : a.toList = b.toList) : a = b := by
  rw [ByteArray.toList_eq, ByteArray.toList_eq] at h
  exact ByteArray.ext (Array.toList_inj.mp h)
def mkR (x : Mk) (cs : List Value) (w : World) : Prop := cs = [.int .i64 x.id, .string x.nm, .int .i64 x.sz, .bool x.gone]
theorem mk_rep : Rep 4 mkR where
  len := by rintro x cs w rfl; rfl
  one := by
    rintro x cs w rfl u hu
    simp at hu
    rcases hu with rfl | rfl | rfl | rfl <;> rfl
  keep := by
    rintro x cs w w' rfl hk
    rfl
  lt := by
    rintro x cs w rfl k ⟨ad, m, c', hm, _⟩
    simp at hm
theorem mk_nop {x : Mk} {cs : List Value} {w : World} (h : mkR x cs w) : ∀ k, ¬ Pts cs k := by
  rintro k ⟨ad, m, c', hm, _⟩
  rw [h] at hm
  simp at hm
abbrev TMk : TypeId := 48
theorem info_mk : (Try.prog.info? TMk).map (fun i => (i.zero, i.size, i.bytes)) = some (some (.agg #[.int .i64 0, .string ⟨#[]⟩, .int .i64 0, .bool false]), 4, 40) := by kernel_rfl
theorem under_mks : Try.prog.underlying 27 = some (.slice TMk) := by kernel_rfl
abbrev mkV (x : Mk) : Value := .agg #[.int .i64 x.id, .string x.nm, .int .i64 x.sz, .bool x.gone]

theorem tilde_nil {s : ByteArray} (h : ¬ 0 < s.size) : tildeB s = false := by
  unfold tildeB
  have : s.data.toList = [] := List.eq_nil_of_length_eq_zero (by rw [size_list]; omega)
  rw [this]
theorem tilde_at {s : ByteArray} (h : 0 < s.size) : tildeB s = decide ((s[0]).toNat = 126) := by
  unfold tildeB
  obtain ⟨⟨l⟩⟩ := s
  cases l with
  | nil => simp [ByteArray.size] at h
  | cons b l => rfl
theorem header_held (x : Mk) (w : World) (hs : x.nm.size ≤ 1000000) {t : Bool} (ht : Hid (tildeB x.nm = t)) :
    Calls Try.prog 92 #[mkV x] w fun e w' => e = .returned (.bool t) ∧ Ext w w' := by
  obtain ⟨i, s, z, g⟩ := x
  simp only at hs ht
  by_cases h0 : 0 < s.size
  · have h1 := tilde_at h0
    rw [ht.out] at h1
    cases t with
    | false =>
      have hb : (((s[0]).toNat : Int) == 126) = false := by
        have := h1.symm
        simp only [decide_eq_false_iff_not] at this
        simp
        omega
      clear h1 ht
      go_enter Try.func92, Try.ntmps92
      go_wp2_with fail
      go_ret
      exact ⟨rfl, Ext.alloc _ _⟩
    | true =>
      have hb : (((s[0]).toNat : Int) == 126) = true := by
        have := h1.symm
        simp only [decide_eq_true_eq] at this
        simp
        omega
      clear h1 ht
      go_enter Try.func92, Try.ntmps92
      go_wp2_with fail
      go_ret
      exact ⟨rfl, Ext.alloc _ _⟩
  · obtain rfl : false = t := by rw [← ht.out, tilde_nil h0]
    clear ht
    go_enter Try.func92, Try.ntmps92
    go_wp2_with fail
    go_ret
    exact ⟨rfl, Ext.alloc _ _⟩
theorem ref_hidden (s : ByteArray) (w : World) (hs : s.size ≤ 1000000) {t : Bool} (ht : Hid (tildeB s = t)) :
    Calls Try.prog 59 #[.string s] w fun e w' => e = .returned (.bool t) ∧ w = w' := by
  by_cases h0 : 0 < s.size
  · have h1 := tilde_at h0
    rw [ht.out] at h1
    cases t with
    | false =>
      have hb : (((s[0]).toNat : Int) == 126) = false := by
        have := h1.symm
        simp only [decide_eq_false_iff_not] at this
        simp
        omega
      clear h1 ht
      go_enter Try.func59, Try.ntmps59
      go_wp2_with fail
      go_ret
      exact ⟨rfl, rfl⟩
    | true =>
      have hb : (((s[0]).toNat : Int) == 126) = true := by
        have := h1.symm
        simp only [decide_eq_true_eq] at this
        simp
        omega
      clear h1 ht
      go_enter Try.func59, Try.ntmps59
      go_wp2_with fail
      go_ret
      exact ⟨rfl, rfl⟩
  · obtain rfl : false = t := by rw [← ht.out, tilde_nil h0]
    clear ht
    go_enter Try.func59, Try.ntmps59
    go_wp2_with fail
    go_ret
    exact ⟨rfl, rfl⟩
theorem header_seen (x : Mk) (w : World) (hs : x.nm.size ≤ 1000000) {t : Bool} (ht : Hid (seenM x = t)) :
    Calls Try.prog 61 #[mkV x] w fun e w' => e = .returned (.bool t) ∧ Ext w w' := by
  obtain ⟨q, hq⟩ : ∃ q, tildeB x.nm = q := ⟨_, rfl⟩
  have HQ := Lib.hid hq
  have h1 := ht.out
  unfold seenM at h1
  rw [hq] at h1
  obtain ⟨i, s, z, g⟩ := x
  simp only at hs ht h1 HQ
  subst h1
  clear ht hq
  cases g with
  | true =>
    go_enter Try.func61, Try.ntmps61
    go_wp2_with fail
    go_ret
    exact ⟨rfl, Ext.alloc _ _⟩
  | false =>
    go_enter Try.func61, Try.ntmps61
    go_wp2_with fail
    refine (header_held ⟨i, s, z, false⟩ _ hs HQ).mono ?_
    rintro e w1 ⟨rfl, hx1⟩
    cases q
    all_goals
      go_wp2_with fail
      go_ret
      exact ⟨rfl, (Ext.alloc _ _).trans hx1⟩
theorem tail_size {s : ByteArray} (hs : s.size ≤ 1000000) : (tailS s).size ≤ maxLen := by
  unfold tailS
  rw [ByteArray.size_extract]
  unfold maxLen
  omega
theorem header_named (x : Mk) (w : World) (hs : x.nm.size ≤ 1000000) {t : Bool} (ht : Hid (namedM x = t)) :
    Calls Try.prog 91 #[mkV x] w fun e w' => e = .returned (.bool t) ∧ Ext w w' := by
  obtain ⟨q, hq⟩ : ∃ q, tildeB x.nm = q := ⟨_, rfl⟩
  have HQ := Lib.hid hq
  have h1 := ht.out
  unfold namedM nameM at h1
  rw [hq] at h1
  obtain ⟨i, s, z, g⟩ := x
  simp only at hs ht h1 HQ hq
  have hm : s.size ≤ maxLen := by unfold maxLen; omega
  cases q with
  | false =>
    have hcl := fun w => event_Name s w hm
    obtain ⟨b, hb⟩ : ∃ b, nameB s = b := ⟨_, rfl⟩
    rw [hb] at hcl h1
    obtain rfl : b = t := by rw [← h1]; simp
    clear h1 ht hq hb
    go_enter Try.func91, Try.ntmps91
    go_wp2_with fail
    refine (header_held ⟨i, s, z, g⟩ _ hs HQ).mono ?_
    rintro e w1 ⟨rfl, hx1⟩
    have q1 := hx1.cell (cell_new w #[.int .i64 i, .string s, .int .i64 z, .bool g] TMk 1)
    have q3 := hx1.cell (cell_new w #[.int .i64 i, .string s, .int .i64 z, .bool g] TMk 3)
    go_wp2_with fail
    refine (hcl _).mono ?_
    rintro e _ ⟨rfl, rfl⟩
    go_wp2_with fail
    go_ret
    exact ⟨rfl, (Ext.alloc _ _).trans hx1⟩
  | true =>
    have h0 : 0 < s.size := by
      by_cases h : 0 < s.size
      · exact h
      · rw [tilde_nil h] at hq; cases hq
    have hcl := fun w => event_Name (tailS s) w (tail_size hs)
    unfold tailS at hcl h1
    obtain ⟨b, hb⟩ : ∃ b, nameB (s.extract 1 s.size) = b := ⟨_, rfl⟩
    rw [hb] at hcl h1
    obtain rfl : (b && !g) = t := by rw [← h1]; simp
    clear h1 ht hq hb
    go_enter Try.func91, Try.ntmps91
    go_wp2_with fail
    refine (header_held ⟨i, s, z, g⟩ _ hs HQ).mono ?_
    rintro e w1 ⟨rfl, hx1⟩
    have q1 := hx1.cell (cell_new w #[.int .i64 i, .string s, .int .i64 z, .bool g] TMk 1)
    have q3 := hx1.cell (cell_new w #[.int .i64 i, .string s, .int .i64 z, .bool g] TMk 3)
    go_wp2_with fail
    refine (hcl _).mono ?_
    rintro e _ ⟨rfl, rfl⟩
    cases b
    all_goals cases g
    all_goals
      go_wp2_with fail
      go_ret
      exact ⟨rfl, (Ext.alloc _ _).trans hx1⟩
theorem ref_MarkName (s : ByteArray) (w : World) (hs : s.size ≤ 1000000) {t : Bool} (ht : Hid (nameM s = t)) :
    Calls Try.prog 58 #[.string s] w fun e w' => e = .returned (.bool t) ∧ w = w' := by
  obtain ⟨q, hq⟩ : ∃ q, tildeB s = q := ⟨_, rfl⟩
  have HQ := Lib.hid hq
  have h1 := ht.out
  unfold nameM at h1
  rw [hq] at h1
  have hm : s.size ≤ maxLen := by unfold maxLen; omega
  cases q with
  | false =>
    have hcl := fun w => ref_Name s w hm
    obtain ⟨b, hb⟩ : ∃ b, nameB s = b := ⟨_, rfl⟩
    rw [hb] at hcl h1
    obtain rfl : b = t := by rw [← h1]; simp
    clear h1 ht hq hb
    go_enter Try.func58, Try.ntmps58
    go_wp2_with fail
    refine (ref_hidden s _ hs HQ).mono ?_
    rintro e _ ⟨rfl, rfl⟩
    go_wp2_with fail
    refine (hcl _).mono ?_
    rintro e _ ⟨rfl, rfl⟩
    go_wp2_with fail
    go_ret
    exact ⟨rfl, rfl⟩
  | true =>
    have h0 : 0 < s.size := by
      by_cases h : 0 < s.size
      · exact h
      · rw [tilde_nil h] at hq; cases hq
    have hcl := fun w => ref_Name (tailS s) w (tail_size hs)
    unfold tailS at hcl h1
    obtain ⟨b, hb⟩ : ∃ b, nameB (s.extract 1 s.size) = b := ⟨_, rfl⟩
    rw [hb] at hcl h1
    obtain rfl : b = t := by rw [← h1]; simp
    clear h1 ht hq hb
    go_enter Try.func58, Try.ntmps58
    go_wp2_with fail
    refine (ref_hidden s _ hs HQ).mono ?_
    rintro e _ ⟨rfl, rfl⟩
    go_wp2_with fail
    refine (hcl _).mono ?_
    rintro e _ ⟨rfl, rfl⟩
    go_wp2_with fail
    go_ret
    exact ⟨rfl, rfl⟩
abbrev layV (o u c : Int) : Value := .agg #[.int .i64 o, .int .i64 u, .int .i64 c]
theorem header_Shape (o u c : Int) (w : World) {t : Bool} (ht : Hid (shapeB o u c = t)) :
    Calls Try.prog 31 #[layV o u c] w fun e w' => e = .returned (.bool t) ∧ Ext w w' := by
  go_enter Try.func31, Try.ntmps31
  go_wp2_with fail
  all_goals
    go_ret
    refine ⟨congrArg (fun z => Ending.returned (.bool z)) ?_, Ext.alloc _ _⟩
    rw [← ht.out]
    unfold shapeB
    rw [Bool.eq_iff_iff]
    simp_all
    try omega
theorem ref_Shape (o u c : Int) (w : World) {t : Bool} (ht : Hid (shapeB o u c = t)) :
    Calls Try.prog 32 #[layV o u c] w fun e w' => e = .returned (.bool t) ∧ Ext w w' := by
  go_enter Try.func32, Try.ntmps32
  go_wp2_with fail
  all_goals
    go_ret
    refine ⟨congrArg (fun z => Ending.returned (.bool z)) ?_, Ext.alloc _ _⟩
    rw [← ht.out]
    unfold shapeB
    rw [Bool.eq_iff_iff]
    simp_all
    try omega
end Go.Proofs.Ytoeknbogaclfdaa
