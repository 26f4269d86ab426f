/-
  Events: contracts of both texts' Same.
-/
import Derived.Test.YtcklkjklepmabaaZEvRef
import Derived.Test.YtcklkjklepmabaaZEvSame
namespace Go.Proofs.Ytcklkjklepmabaa
open Go.RowKit
set_option linter.unusedVariables false
set_option linter.unusedSimpArgs false
set_option linter.unnecessarySimpa false
set_option maxRecDepth 100000

def sameE (k o m : Int) (l : List UInt8) (s : ByteArray) (k' o' m' : Int) (l' : List UInt8) (s' : ByteArray) : Bool :=
  decide (k = k') && decide (o = o') && decide (m = m') && (l == l') && (s.toList == s'.toList)


set_option maxHeartbeats 4000000 in
theorem ref_SameEvent (k o m : Int) (A : Option Addr) (n c : Nat) (l : List UInt8) (s : ByteArray) (k' o' m' : Int) (A' : Option Addr) (n' c' : Nat) (l' : List UInt8) (s' : ByteArray) (w : World) (h1 : Sl w A n c l) (h2 : Sl w A' n' c' l') :
    Calls Try.prog 37 #[evV k o m A n c s, evV k' o' m' A' n' c' s'] w fun e w' => e = .returned (.bool (sameE k o m l s k' o' m' l' s')) ∧ Ext w w' := by
  by_cases e1 : ¬ k = k'
  · have q : (k == k') = false := by simp [e1]
    have hl : Hid ((l == l') = (l == l')) := rfl
    have hx : Ext w ((w.alloc (.cells #[.int .i64 k, .int .i64 o, .int .i64 m, .slice A n c, .string s] 28)).alloc (.cells #[.int .i64 k', .int .i64 o', .int .i64 m', .slice A' n' c', .string s'] 28)) := (Ext.alloc w _).trans (Ext.alloc _ _)
    have t1 := run_text_u8 (h1.ext hx)
    have t2 := run_text_u8 (h2.ext hx)
    clear h1 h2
    go_enter Try.func37, Try.ntmps37
    go_wp2_with fail
    go_ret
    exact ⟨ret_bool (by simp [sameE, e1]), hx⟩
  rw [Decidable.not_not] at e1
  subst e1
  by_cases e2 : ¬ o = o'
  · have q : (o == o') = false := by simp [e2]
    have hl : Hid ((l == l') = (l == l')) := rfl
    have hx : Ext w ((w.alloc (.cells #[.int .i64 k, .int .i64 o, .int .i64 m, .slice A n c, .string s] 28)).alloc (.cells #[.int .i64 k, .int .i64 o', .int .i64 m', .slice A' n' c', .string s'] 28)) := (Ext.alloc w _).trans (Ext.alloc _ _)
    have t1 := run_text_u8 (h1.ext hx)
    have t2 := run_text_u8 (h2.ext hx)
    clear h1 h2
    go_enter Try.func37, Try.ntmps37
    go_wp2_with fail
    go_ret
    exact ⟨ret_bool (by simp [sameE, e2]), hx⟩
  rw [Decidable.not_not] at e2
  subst e2
  by_cases e3 : ¬ m = m'
  · have q : (m == m') = false := by simp [e3]
    have hl : Hid ((l == l') = (l == l')) := rfl
    have hx : Ext w ((w.alloc (.cells #[.int .i64 k, .int .i64 o, .int .i64 m, .slice A n c, .string s] 28)).alloc (.cells #[.int .i64 k, .int .i64 o, .int .i64 m', .slice A' n' c', .string s'] 28)) := (Ext.alloc w _).trans (Ext.alloc _ _)
    have t1 := run_text_u8 (h1.ext hx)
    have t2 := run_text_u8 (h2.ext hx)
    clear h1 h2
    go_enter Try.func37, Try.ntmps37
    go_wp2_with fail
    go_ret
    exact ⟨ret_bool (by simp [sameE, e3]), hx⟩
  rw [Decidable.not_not] at e3
  subst e3
  cases hl0 : (l == l') with
  | true =>
    have hl := Lib.hid hl0
    cases hs0 : (s.toList == s'.toList) with
    | true =>
      have hsn := Lib.hid hs0
      have hx : Ext w ((w.alloc (.cells #[.int .i64 k, .int .i64 o, .int .i64 m, .slice A n c, .string s] 28)).alloc (.cells #[.int .i64 k, .int .i64 o, .int .i64 m, .slice A' n' c', .string s'] 28)) := (Ext.alloc w _).trans (Ext.alloc _ _)
      have t1 := run_text_u8 (h1.ext hx)
      have t2 := run_text_u8 (h2.ext hx)
      clear h1 h2
      go_enter Try.func37, Try.ntmps37
      go_wp2_with fail
      go_ret
      exact ⟨ret_bool (by simp only [sameE, hl.out, hsn.out]; simp), hx⟩
    | false =>
      have hsn := Lib.hid hs0
      have hx : Ext w ((w.alloc (.cells #[.int .i64 k, .int .i64 o, .int .i64 m, .slice A n c, .string s] 28)).alloc (.cells #[.int .i64 k, .int .i64 o, .int .i64 m, .slice A' n' c', .string s'] 28)) := (Ext.alloc w _).trans (Ext.alloc _ _)
      have t1 := run_text_u8 (h1.ext hx)
      have t2 := run_text_u8 (h2.ext hx)
      clear h1 h2
      go_enter Try.func37, Try.ntmps37
      go_wp2_with fail
      go_ret
      exact ⟨ret_bool (by simp only [sameE, hl.out, hsn.out]; simp), hx⟩
  | false =>
    have hl := Lib.hid hl0
    cases hs0 : (s.toList == s'.toList) with
    | true =>
      have hsn := Lib.hid hs0
      have hx : Ext w ((w.alloc (.cells #[.int .i64 k, .int .i64 o, .int .i64 m, .slice A n c, .string s] 28)).alloc (.cells #[.int .i64 k, .int .i64 o, .int .i64 m, .slice A' n' c', .string s'] 28)) := (Ext.alloc w _).trans (Ext.alloc _ _)
      have t1 := run_text_u8 (h1.ext hx)
      have t2 := run_text_u8 (h2.ext hx)
      clear h1 h2
      go_enter Try.func37, Try.ntmps37
      go_wp2_with fail
      go_ret
      exact ⟨ret_bool (by simp only [sameE, hl.out, hsn.out]; simp), hx⟩
    | false =>
      have hsn := Lib.hid hs0
      have hx : Ext w ((w.alloc (.cells #[.int .i64 k, .int .i64 o, .int .i64 m, .slice A n c, .string s] 28)).alloc (.cells #[.int .i64 k, .int .i64 o, .int .i64 m, .slice A' n' c', .string s'] 28)) := (Ext.alloc w _).trans (Ext.alloc _ _)
      have t1 := run_text_u8 (h1.ext hx)
      have t2 := run_text_u8 (h2.ext hx)
      clear h1 h2
      go_enter Try.func37, Try.ntmps37
      go_wp2_with fail
      go_ret
      exact ⟨ret_bool (by simp only [sameE, hl.out, hsn.out]; simp), hx⟩
set_option maxHeartbeats 4000000 in
theorem event_Same (k o m : Int) (A : Option Addr) (n c : Nat) (l : List UInt8) (s : ByteArray) (k' o' m' : Int) (A' : Option Addr) (n' c' : Nat) (l' : List UInt8) (s' : ByteArray) (w : World) (h1 : Sl w A n c l) (h2 : Sl w A' n' c' l') :
    Calls Try.prog 38 #[evV k o m A n c s, evV k' o' m' A' n' c' s'] w fun e w' => e = .returned (.bool (sameE k o m l s k' o' m' l' s')) ∧ Ext w w' := by
  by_cases e1 : ¬ k = k'
  · have q : (k == k') = false := by simp [e1]
    have hl : Hid ((l == l') = (l == l')) := rfl
    have hx : Ext w ((w.alloc (.cells #[.int .i64 k, .int .i64 o, .int .i64 m, .slice A n c, .string s] 28)).alloc (.cells #[.int .i64 k', .int .i64 o', .int .i64 m', .slice A' n' c', .string s'] 28)) := (Ext.alloc w _).trans (Ext.alloc _ _)
    have s1 := h1.ext hx
    have s2 := h2.ext hx
    clear h1 h2
    go_enter Try.func38, Try.ntmps38
    go_wp2_with (go_at_call 68; refine (bytes_Equal _ _ _ _ _ _ _ _ _ s1 s2).mono ?_; rintro e w1 ⟨rfl, rfl⟩; rw [hl.out])
    go_ret
    exact ⟨ret_bool (by simp [sameE, e1]), hx⟩
  rw [Decidable.not_not] at e1
  subst e1
  by_cases e2 : ¬ o = o'
  · have q : (o == o') = false := by simp [e2]
    have hl : Hid ((l == l') = (l == l')) := rfl
    have hx : Ext w ((w.alloc (.cells #[.int .i64 k, .int .i64 o, .int .i64 m, .slice A n c, .string s] 28)).alloc (.cells #[.int .i64 k, .int .i64 o', .int .i64 m', .slice A' n' c', .string s'] 28)) := (Ext.alloc w _).trans (Ext.alloc _ _)
    have s1 := h1.ext hx
    have s2 := h2.ext hx
    clear h1 h2
    go_enter Try.func38, Try.ntmps38
    go_wp2_with (go_at_call 68; refine (bytes_Equal _ _ _ _ _ _ _ _ _ s1 s2).mono ?_; rintro e w1 ⟨rfl, rfl⟩; rw [hl.out])
    go_ret
    exact ⟨ret_bool (by simp [sameE, e2]), hx⟩
  rw [Decidable.not_not] at e2
  subst e2
  by_cases e3 : ¬ m = m'
  · have q : (m == m') = false := by simp [e3]
    have hl : Hid ((l == l') = (l == l')) := rfl
    have hx : Ext w ((w.alloc (.cells #[.int .i64 k, .int .i64 o, .int .i64 m, .slice A n c, .string s] 28)).alloc (.cells #[.int .i64 k, .int .i64 o, .int .i64 m', .slice A' n' c', .string s'] 28)) := (Ext.alloc w _).trans (Ext.alloc _ _)
    have s1 := h1.ext hx
    have s2 := h2.ext hx
    clear h1 h2
    go_enter Try.func38, Try.ntmps38
    go_wp2_with (go_at_call 68; refine (bytes_Equal _ _ _ _ _ _ _ _ _ s1 s2).mono ?_; rintro e w1 ⟨rfl, rfl⟩; rw [hl.out])
    go_ret
    exact ⟨ret_bool (by simp [sameE, e3]), hx⟩
  rw [Decidable.not_not] at e3
  subst e3
  cases hl0 : (l == l') with
  | true =>
    have hl := Lib.hid hl0
    clear hl0
    cases hs0 : (s.toList == s'.toList) with
    | true =>
      have hsn := Lib.hid hs0
      have hx : Ext w ((w.alloc (.cells #[.int .i64 k, .int .i64 o, .int .i64 m, .slice A n c, .string s] 28)).alloc (.cells #[.int .i64 k, .int .i64 o, .int .i64 m, .slice A' n' c', .string s'] 28)) := (Ext.alloc w _).trans (Ext.alloc _ _)
      have s1 := h1.ext hx
      have s2 := h2.ext hx
      clear h1 h2
      go_enter Try.func38, Try.ntmps38
      go_wp2_with (go_at_call 68; refine (bytes_Equal _ _ _ _ _ _ _ _ _ s1 s2).mono ?_; rintro e w1 ⟨rfl, rfl⟩; rw [hl.out])
      go_ret
      exact ⟨ret_bool (by simp only [sameE, hl.out, hsn.out]; simp), hx⟩
    | false =>
      have hsn := Lib.hid hs0
      have hx : Ext w ((w.alloc (.cells #[.int .i64 k, .int .i64 o, .int .i64 m, .slice A n c, .string s] 28)).alloc (.cells #[.int .i64 k, .int .i64 o, .int .i64 m, .slice A' n' c', .string s'] 28)) := (Ext.alloc w _).trans (Ext.alloc _ _)
      have s1 := h1.ext hx
      have s2 := h2.ext hx
      clear h1 h2
      go_enter Try.func38, Try.ntmps38
      go_wp2_with (go_at_call 68; refine (bytes_Equal _ _ _ _ _ _ _ _ _ s1 s2).mono ?_; rintro e w1 ⟨rfl, rfl⟩; rw [hl.out])
      go_ret
      exact ⟨ret_bool (by simp only [sameE, hl.out, hsn.out]; simp), hx⟩
  | false =>
    have hl := Lib.hid hl0
    clear hl0
    cases hs0 : (s.toList == s'.toList) with
    | true =>
      have hsn := Lib.hid hs0
      have hx : Ext w ((w.alloc (.cells #[.int .i64 k, .int .i64 o, .int .i64 m, .slice A n c, .string s] 28)).alloc (.cells #[.int .i64 k, .int .i64 o, .int .i64 m, .slice A' n' c', .string s'] 28)) := (Ext.alloc w _).trans (Ext.alloc _ _)
      have s1 := h1.ext hx
      have s2 := h2.ext hx
      clear h1 h2
      go_enter Try.func38, Try.ntmps38
      go_wp2_with (go_at_call 68; refine (bytes_Equal _ _ _ _ _ _ _ _ _ s1 s2).mono ?_; rintro e w1 ⟨rfl, rfl⟩; rw [hl.out])
      go_ret
      exact ⟨ret_bool (by simp only [sameE, hl.out, hsn.out]; simp), hx⟩
    | false =>
      have hsn := Lib.hid hs0
      have hx : Ext w ((w.alloc (.cells #[.int .i64 k, .int .i64 o, .int .i64 m, .slice A n c, .string s] 28)).alloc (.cells #[.int .i64 k, .int .i64 o, .int .i64 m, .slice A' n' c', .string s'] 28)) := (Ext.alloc w _).trans (Ext.alloc _ _)
      have s1 := h1.ext hx
      have s2 := h2.ext hx
      clear h1 h2
      go_enter Try.func38, Try.ntmps38
      go_wp2_with (go_at_call 68; refine (bytes_Equal _ _ _ _ _ _ _ _ _ s1 s2).mono ?_; rintro e w1 ⟨rfl, rfl⟩; rw [hl.out])
      go_ret
      exact ⟨ret_bool (by simp only [sameE, hl.out, hsn.out]; simp), hx⟩
end Go.Proofs.Ytcklkjklepmabaa
