/-
  Contracts of texts: Text, GetText, of the program and of the reference.
-/
import Derived.Test.YtoeknbogaclfdaaZVar
namespace Go.Proofs.Ytoeknbogaclfdaa
open Go.RowKit
set_option linter.unusedVariables false
set_option linter.unusedSimpArgs false
set_option linter.unnecessarySimpa false
set_option maxRecDepth 100000

theorem byteCells_bv (s : ByteArray) : byteCells s = s.data.toList.map bv := rfl
theorem size_list (s : ByteArray) : s.data.toList.length = s.size := by rw [Array.length_toList]; rfl

theorem bits_Text (A : Option Addr) (n c : Nat) (l : List UInt8) (s : ByteArray) (w : World) (h : Sl w A n c l) (hn : n ≤ 1000000) (hs : s.size ≤ 1000000) :
    Calls Try.prog 46 #[.slice A n c, .string s] w fun e w' => ∃ A' n' c', e = .returned (.slice A' n' c') ∧ Byt U8 w' w.heap.size A' n' c' (l ++ varl s.size ++ s.data.toList) ∧ Ext w w' := by
  obtain ⟨i0, hi0, hz0, hz1, hz2⟩ := info_parts info_u8
  go_enter Try.func46, Try.ntmps46
  go_wp2_with fail
  refine (bits_Var A n c l (s.size : Int) _ h hn (by omega)).mono ?_
  rintro e w1 ⟨A1, n1, c1, rfl, hb1, hx1⟩
  rw [Int.toNat_natCast] at hb1
  have hn1 : n1 ≤ 1000009 := by
    have h1 := hb1.len
    have h2 := varl_length s.size
    rw [List.length_append, h.len] at h1
    omega
  go_wp2_with (at_builtin; refine wpList_append_mine _ rfl _ _ _ _ rfl w.heap.size U8 i0 _ 1 1 under_bytes hi0 hz0 hz1 hz2 rfl A1 n1 c1 _ rfl hb1.own _ rfl s.size _ (Src.ofString _ under_str s) (by simp only [maxLen]; omega) (by omega) hx1.size ?_; intro A2 c2 w2 hown hg _)
  have hb2 : Byt U8 w2 w.heap.size A2 (n1 + s.size) c2 (l ++ varl s.size ++ s.data.toList) := Byt.more hb1.len (size_list s) hown (byteCells_bv s)
  have hx2 : Ext w w2 := below_grown hx1 hb1.own hg hx1.size
  go_ret
  exact ⟨_, _, _, rfl, hb2, hx2⟩

theorem ref_Text (A : Option Addr) (n c : Nat) (l : List UInt8) (s : ByteArray) (w : World) (h : Sl w A n c l) (hn : n ≤ 1000000) (hs : s.size ≤ 1000000) :
    Calls Try.prog 89 #[.slice A n c, .string s] w fun e w' => ∃ A' n' c', e = .returned (.slice A' n' c') ∧ Byt U8 w' w.heap.size A' n' c' (l ++ varl s.size ++ s.data.toList) ∧ Ext w w' := by
  obtain ⟨i0, hi0, hz0, hz1, hz2⟩ := info_parts info_u8
  go_enter Try.func89, Try.ntmps89
  go_wp2_with fail
  refine (ref_Var A n c l (s.size : Int) _ h hn (by omega)).mono ?_
  rintro e w1 ⟨A1, n1, c1, rfl, hb1, hx1⟩
  rw [Int.toNat_natCast] at hb1
  have hn1 : n1 ≤ 1000009 := by
    have h1 := hb1.len
    have h2 := varl_length s.size
    rw [List.length_append, h.len] at h1
    omega
  go_wp2_with (at_builtin; refine wpList_append_mine _ rfl _ _ _ _ rfl w.heap.size U8 i0 _ 1 1 under_bytes hi0 hz0 hz1 hz2 rfl A1 n1 c1 _ rfl hb1.own _ rfl s.size _ (Src.ofString _ under_str s) (by simp only [maxLen]; omega) (by omega) hx1.size ?_; intro A2 c2 w2 hown hg _)
  have hb2 : Byt U8 w2 w.heap.size A2 (n1 + s.size) c2 (l ++ varl s.size ++ s.data.toList) := Byt.more hb1.len (size_list s) hown (byteCells_bv s)
  have hx2 : Ext w w2 := below_grown hx1 hb1.own hg hx1.size
  go_ret
  exact ⟨_, _, _, rfl, hb2, hx2⟩

/-- a text out of bytes, and the place behind it -/
def gtO (l : List UInt8) (a most : Int) : Option (List UInt8 × Int) :=
  (gvN l a).bind fun p => if (p.1 : Int) ≤ most ∧ a.toNat + p.2 + p.1 ≤ l.length then some ((l.drop (a.toNat + p.2)).take p.1, a + p.2 + p.1) else none
def gtA (l : List UInt8) (a most : Int) : List UInt8 := match gtO l a most with | some p => p.1 | none => []
def gtB (l : List UInt8) (a most : Int) : Int := match gtO l a most with | some p => p.2 | none => 0
def gtC (l : List UInt8) (a most : Int) : Bool := (gtO l a most).isSome
theorem gvN_bounds {l : List UInt8} {a : Int} {p : Nat × Nat} (h : gvN l a = some p) : 0 ≤ a ∧ p.1 < 9223372036854775808 ∧ 1 ≤ p.2 ∧ p.2 ≤ 9 ∧ a.toNat + p.2 ≤ l.length := by
  unfold gvN at h
  split at h
  · have := gvF_lt 9 0 _ p h
    rw [List.length_drop] at this
    omega
  · cases h

theorem bits_GetVar' {A : Option Addr} {n c : Nat} {l : List UInt8} {a : Int} {w : World} (hs : Sl w A n c l) (hn6 : n ≤ 1000000) {ga gb : Int} {gc : Bool} (h : Hid (gvA l a = ga ∧ gvB l a = gb ∧ gvC l a = gc)) :
    Calls Try.prog 84 #[.slice A n c, .int .i64 a] w fun e w' => e = .returned (.tuple #[.int .i64 ga, .int .i64 gb, .bool gc]) ∧ w = w' := by
  have := bits_GetVar A n c l a w hs
  rwa [h.out.1, h.out.2.1, h.out.2.2] at this

theorem bits_GetText (A : Option Addr) (n c : Nat) (l : List UInt8) (a most : Int) (w : World) (hs : Sl w A n c l) (hn : n ≤ 1000000) :
    Calls Try.prog 108 #[.slice A n c, .int .i64 a, .int .i64 most] w fun e w' => e = .returned (.tuple #[.string ⟨(gtA l a most).toArray⟩, .int .i64 (gtB l a most), .bool (gtC l a most)]) ∧ w = w' := by
  have h63 := hs.n63
  have hlen : l.length = n := hs.len
  have hcap := hs.cap
  cases ho : gvN l a with
  | none =>
    have hg : Hid (gvA l a = 0 ∧ gvB l a = 0 ∧ gvC l a = false) := by
      unfold Hid gvA gvB gvC
      rw [ho]
      exact ⟨rfl, rfl, rfl⟩
    have hr : gtA l a most = [] ∧ gtB l a most = 0 ∧ gtC l a most = false := by
      unfold gtA gtB gtC gtO
      rw [ho]
      exact ⟨rfl, rfl, rfl⟩
    rw [hr.1, hr.2.1, hr.2.2]
    clear hr ho hlen
    go_enter Try.func108, Try.ntmps108
    go_wp2_with fail
    refine (bits_GetVar' hs hn hg).mono ?_
    rintro e w1 ⟨rfl, rfl⟩
    go_wp2_with fail
    go_ret3
    exact ⟨rfl, rfl⟩
  | some p =>
    obtain ⟨q, k⟩ := p
    have hb := gvN_bounds ho
    simp only at hb
    obtain ⟨h0a, hq63, hk1, hk9, hakl⟩ := hb
    obtain ⟨a, rfl⟩ := Int.eq_ofNat_of_zero_le h0a
    rw [Int.toNat_natCast, hlen] at hakl
    have hg : Hid (gvA l a = (q : Int) ∧ gvB l a = ((a + k : Nat) : Int) ∧ gvC l a = true) := by
      unfold Hid gvA gvB gvC
      rw [ho]
      exact ⟨rfl, by simp, rfl⟩
    obtain ⟨t, ht⟩ : ∃ t, a + k = t := ⟨_, rfl⟩
    rw [ht] at hg hakl
    by_cases hok : (q : Int) ≤ most ∧ t + q ≤ n
    · have hr : gtA l a most = (l.drop t).take q ∧ gtB l a most = (t : Int) + q ∧ gtC l a most = true := by
        unfold gtA gtB gtC gtO
        rw [ho]
        simp only [Option.bind_some, Int.toNat_natCast, ht, hlen]
        rw [if_pos hok]
        refine ⟨rfl, ?_, rfl⟩
        simp only
        omega
      rw [hr.1, hr.2.1, hr.2.2]
      obtain ⟨hm, htq⟩ := hok
      clear hr ho hlen ht
      have hle : (q : Int) ≤ (n : Int) - (t : Int) := by omega
      obtain ⟨B, hB⟩ : ∃ B, (if c = t then A else A.map (·.add (t * 1))) = B := ⟨_, rfl⟩
      have hcut := hs.cut (lo := t) (hi := t + q) (by omega) htq
      rw [hB, Nat.add_sub_cancel_left] at hcut
      have htx := run_text_u8 hcut
      have hsl : ∀ w : World, (Instr.slice 23 (.slice A n c) (some (.int .i64 t)) (some (.int .i64 ((t : Int) + (q : Int)))) none).run Try.prog w = .ok (.slice B q (c - t)) w := by
        intro w
        have h1 := run_cut w A n c t (t + q) (by omega) (by omega)
        rw [hB, Nat.add_sub_cancel_left, Int.natCast_add] at h1
        exact h1
      clear hcut hB
      go_enter Try.func108, Try.ntmps108
      go_wp2_with fail
      refine (bits_GetVar' hs hn hg).mono ?_
      rintro e w1 ⟨rfl, rfl⟩
      go_wp2_with fail
      go_ret3
      exact ⟨rfl, rfl⟩
    · have hr : gtA l a most = [] ∧ gtB l a most = 0 ∧ gtC l a most = false := by
        unfold gtA gtB gtC gtO
        rw [ho]
        simp only [Option.bind_some, Int.toNat_natCast, ht, hlen]
        rw [if_neg hok]
        exact ⟨rfl, rfl, rfl⟩
      rw [hr.1, hr.2.1, hr.2.2]
      clear hr ho hlen ht
      by_cases hm : most < (q : Int)
      · clear hok
        go_enter Try.func108, Try.ntmps108
        go_wp2_with fail
        refine (bits_GetVar' hs hn hg).mono ?_
        rintro e w1 ⟨rfl, rfl⟩
        go_wp2_with fail
        go_ret3
        exact ⟨rfl, rfl⟩
      · have hle : (n : Int) - (t : Int) < (q : Int) := by omega
        clear hok
        go_enter Try.func108, Try.ntmps108
        go_wp2_with fail
        refine (bits_GetVar' hs hn hg).mono ?_
        rintro e w1 ⟨rfl, rfl⟩
        go_wp2_with fail
        go_ret3
        exact ⟨rfl, rfl⟩

theorem ref_GetVar' {A : Option Addr} {n c : Nat} {l : List UInt8} {a : Int} {w : World} (hs : Sl w A n c l) (hn6 : n ≤ 1000000) {ga gb : Int} {gc : Bool} (h : Hid (gvA l a = ga ∧ gvB l a = gb ∧ gvC l a = gc)) :
    Calls Try.prog 96 #[.slice A n c, .int .i64 a] w fun e w' => e = .returned (.tuple #[.int .i64 ga, .int .i64 gb, .bool gc]) ∧ w = w' := by
  have := ref_GetVar A n c l a w hs hn6
  rwa [h.out.1, h.out.2.1, h.out.2.2] at this

theorem ref_GetText (A : Option Addr) (n c : Nat) (l : List UInt8) (a most : Int) (w : World) (hs : Sl w A n c l) (hn : n ≤ 1000000) :
    Calls Try.prog 97 #[.slice A n c, .int .i64 a, .int .i64 most] w fun e w' => e = .returned (.tuple #[.string ⟨(gtA l a most).toArray⟩, .int .i64 (gtB l a most), .bool (gtC l a most)]) ∧ w = w' := by
  have h63 := hs.n63
  have hlen : l.length = n := hs.len
  have hcap := hs.cap
  cases ho : gvN l a with
  | none =>
    have hg : Hid (gvA l a = 0 ∧ gvB l a = 0 ∧ gvC l a = false) := by
      unfold Hid gvA gvB gvC
      rw [ho]
      exact ⟨rfl, rfl, rfl⟩
    have hr : gtA l a most = [] ∧ gtB l a most = 0 ∧ gtC l a most = false := by
      unfold gtA gtB gtC gtO
      rw [ho]
      exact ⟨rfl, rfl, rfl⟩
    rw [hr.1, hr.2.1, hr.2.2]
    clear hr ho hlen
    go_enter Try.func97, Try.ntmps97
    go_wp2_with fail
    refine (ref_GetVar' hs hn hg).mono ?_
    rintro e w1 ⟨rfl, rfl⟩
    go_wp2_with fail
    go_ret3
    exact ⟨rfl, rfl⟩
  | some p =>
    obtain ⟨q, k⟩ := p
    have hb := gvN_bounds ho
    simp only at hb
    obtain ⟨h0a, hq63, hk1, hk9, hakl⟩ := hb
    obtain ⟨a, rfl⟩ := Int.eq_ofNat_of_zero_le h0a
    rw [Int.toNat_natCast, hlen] at hakl
    have hg : Hid (gvA l a = (q : Int) ∧ gvB l a = ((a + k : Nat) : Int) ∧ gvC l a = true) := by
      unfold Hid gvA gvB gvC
      rw [ho]
      exact ⟨rfl, by simp, rfl⟩
    obtain ⟨t, ht⟩ : ∃ t, a + k = t := ⟨_, rfl⟩
    rw [ht] at hg hakl
    by_cases hok : (q : Int) ≤ most ∧ t + q ≤ n
    · have hr : gtA l a most = (l.drop t).take q ∧ gtB l a most = (t : Int) + q ∧ gtC l a most = true := by
        unfold gtA gtB gtC gtO
        rw [ho]
        simp only [Option.bind_some, Int.toNat_natCast, ht, hlen]
        rw [if_pos hok]
        refine ⟨rfl, ?_, rfl⟩
        simp only
        omega
      rw [hr.1, hr.2.1, hr.2.2]
      obtain ⟨hm, htq⟩ := hok
      clear hr ho hlen ht
      have hle : (q : Int) ≤ (n : Int) - (t : Int) := by omega
      obtain ⟨B, hB⟩ : ∃ B, (if c = t then A else A.map (·.add (t * 1))) = B := ⟨_, rfl⟩
      have hcut := hs.cut (lo := t) (hi := t + q) (by omega) htq
      rw [hB, Nat.add_sub_cancel_left] at hcut
      have htx := run_text_u8 hcut
      have hsl : ∀ w : World, (Instr.slice 23 (.slice A n c) (some (.int .i64 t)) (some (.int .i64 ((t : Int) + (q : Int)))) none).run Try.prog w = .ok (.slice B q (c - t)) w := by
        intro w
        have h1 := run_cut w A n c t (t + q) (by omega) (by omega)
        rw [hB, Nat.add_sub_cancel_left, Int.natCast_add] at h1
        exact h1
      clear hcut hB
      go_enter Try.func97, Try.ntmps97
      go_wp2_with fail
      refine (ref_GetVar' hs hn hg).mono ?_
      rintro e w1 ⟨rfl, rfl⟩
      go_wp2_with fail
      go_ret3
      exact ⟨rfl, rfl⟩
    · have hr : gtA l a most = [] ∧ gtB l a most = 0 ∧ gtC l a most = false := by
        unfold gtA gtB gtC gtO
        rw [ho]
        simp only [Option.bind_some, Int.toNat_natCast, ht, hlen]
        rw [if_neg hok]
        exact ⟨rfl, rfl, rfl⟩
      rw [hr.1, hr.2.1, hr.2.2]
      clear hr ho hlen ht
      by_cases hm : most < (q : Int)
      · clear hok
        go_enter Try.func97, Try.ntmps97
        go_wp2_with fail
        refine (ref_GetVar' hs hn hg).mono ?_
        rintro e w1 ⟨rfl, rfl⟩
        go_wp2_with fail
        go_ret3
        exact ⟨rfl, rfl⟩
      · have hle : (n : Int) - (t : Int) < (q : Int) := by omega
        clear hok
        go_enter Try.func97, Try.ntmps97
        go_wp2_with fail
        refine (ref_GetVar' hs hn hg).mono ?_
        rintro e w1 ⟨rfl, rfl⟩
        go_wp2_with fail
        go_ret3
        exact ⟨rfl, rfl⟩

end Go.Proofs.Ytoeknbogaclfdaa
