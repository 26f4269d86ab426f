/-
  Records alike: contracts of the program's Same and of the reference's SameHead.
-/
import Derived.Test.YtoeknbogaclfdaaZHd2
namespace Go.Proofs.Ytoeknbogaclfdaa
open Go.RowKit
set_option linter.unusedVariables false
set_option linter.unusedSimpArgs false
set_option linter.unnecessarySimpa false
set_option maxRecDepth 100000

def sameHd (a b : Hd) : Bool := decide (a = b)
set_option maxHeartbeats 1000000 in
theorem header_Same (a b : Hd) {A : Option Addr} {n c : Nat} {A' : Option Addr} {n' c' : Nat} {w : World} (l1 : Lst 4 mkR w A n c a.marks) (l2 : Lst 4 mkR w A' n' c' b.marks) {t : Bool} (ht : Hid (sameHd a b = t)) :
    Calls Try.prog 34 #[hdV a A n c, hdV b A' n' c'] w fun e w' => e = .returned (.bool t) ∧ Ext w w' := by
  have h63 := l1.n63
  have h63' := l2.n63
  obtain ⟨s1, o1, u1, c1, n1, q1, m1⟩ := a
  obtain ⟨s2, o2, u2, c2, n2, q2, m2⟩ := b
  simp only at l1 l2
  by_cases e : s1 = s2
  case neg =>
    skip
    obtain rfl : t = false := by rw [← ht.out]; unfold sameHd; simp [e]
    have q : (s1 == s2) = false := by simpa using e
    clear ht
    go_enter Try.func34, Try.ntmps34
    go_wp2_with fail
    go_ret
    refine ⟨rfl, ?_⟩
    (repeat (first | (with_reducible exact Ext.refl _) | (with_reducible assumption) | (with_reducible refine Ext.draws ?_) | (with_reducible refine Ext.allocs ?_ _) | (with_reducible refine Ext.sets ?_ ?_ _) | (with_reducible exact Nat.le_refl _) | (exact (by simp)) | (exact (by simp; omega))))
  subst e
  by_cases e : o1 = o2
  case neg =>
    skip
    obtain rfl : t = false := by rw [← ht.out]; unfold sameHd; simp [e]
    have q : (o1 == o2) = false := by simpa using e
    clear ht
    go_enter Try.func34, Try.ntmps34
    go_wp2_with fail
    go_ret
    refine ⟨rfl, ?_⟩
    (repeat (first | (with_reducible exact Ext.refl _) | (with_reducible assumption) | (with_reducible refine Ext.draws ?_) | (with_reducible refine Ext.allocs ?_ _) | (with_reducible refine Ext.sets ?_ ?_ _) | (with_reducible exact Nat.le_refl _) | (exact (by simp)) | (exact (by simp; omega))))
  subst e
  by_cases e : u1 = u2
  case neg =>
    skip
    obtain rfl : t = false := by rw [← ht.out]; unfold sameHd; simp [e]
    have q : (u1 == u2) = false := by simpa using e
    clear ht
    go_enter Try.func34, Try.ntmps34
    go_wp2_with fail
    go_ret
    refine ⟨rfl, ?_⟩
    (repeat (first | (with_reducible exact Ext.refl _) | (with_reducible assumption) | (with_reducible refine Ext.draws ?_) | (with_reducible refine Ext.allocs ?_ _) | (with_reducible refine Ext.sets ?_ ?_ _) | (with_reducible exact Nat.le_refl _) | (exact (by simp)) | (exact (by simp; omega))))
  subst e
  by_cases e : c1 = c2
  case neg =>
    skip
    obtain rfl : t = false := by rw [← ht.out]; unfold sameHd; simp [e]
    have q : (c1 == c2) = false := by simpa using e
    clear ht
    go_enter Try.func34, Try.ntmps34
    go_wp2_with fail
    go_ret
    refine ⟨rfl, ?_⟩
    (repeat (first | (with_reducible exact Ext.refl _) | (with_reducible assumption) | (with_reducible refine Ext.draws ?_) | (with_reducible refine Ext.allocs ?_ _) | (with_reducible refine Ext.sets ?_ ?_ _) | (with_reducible exact Nat.le_refl _) | (exact (by simp)) | (exact (by simp; omega))))
  subst e
  by_cases e : n1 = n2
  case neg =>
    skip
    obtain rfl : t = false := by rw [← ht.out]; unfold sameHd; simp [e]
    have q : (n1 == n2) = false := by simpa using e
    clear ht
    go_enter Try.func34, Try.ntmps34
    go_wp2_with fail
    go_ret
    refine ⟨rfl, ?_⟩
    (repeat (first | (with_reducible exact Ext.refl _) | (with_reducible assumption) | (with_reducible refine Ext.draws ?_) | (with_reducible refine Ext.allocs ?_ _) | (with_reducible refine Ext.sets ?_ ?_ _) | (with_reducible exact Nat.le_refl _) | (exact (by simp)) | (exact (by simp; omega))))
  subst e
  by_cases e : q1 = q2
  case neg =>
    skip
    obtain rfl : t = false := by rw [← ht.out]; unfold sameHd; simp [e]
    have q : (q1 == q2) = false := by simpa using e
    clear ht
    go_enter Try.func34, Try.ntmps34
    go_wp2_with fail
    go_ret
    refine ⟨rfl, ?_⟩
    (repeat (first | (with_reducible exact Ext.refl _) | (with_reducible assumption) | (with_reducible refine Ext.draws ?_) | (with_reducible refine Ext.allocs ?_ _) | (with_reducible refine Ext.sets ?_ ?_ _) | (with_reducible exact Nat.le_refl _) | (exact (by simp)) | (exact (by simp; omega))))
  subst e
  have hb : Hid (sameMk m1 m2 = t) := by
    unfold Hid
    rw [← ht.out]
    unfold sameMk sameHd
    simp
  clear ht
  have gx : Ext w ((w.alloc (.cells #[.int .i64 s1, .int .i64 o1, .int .i64 u1, .int .i64 c1, .int .i64 n1, .int .i64 q1, .slice A n c] THd)).alloc (.cells #[.int .i64 s1, .int .i64 o1, .int .i64 u1, .int .i64 c1, .int .i64 n1, .int .i64 q1, .slice A' n' c'] THd)) := (Ext.alloc _ _).allocs _
  go_enter Try.func34, Try.ntmps34
  go_wp2_with fail
  refine (equal_marks (l1.ext mk_rep gx) (l2.ext mk_rep gx) hb).mono ?_
  rintro e w1 ⟨rfl, hx1⟩
  go_wp2_with fail
  go_ret
  exact ⟨rfl, gx.trans hx1⟩
set_option maxHeartbeats 1000000 in
theorem ref_SameHead (a b : Hd) {A : Option Addr} {n c : Nat} {A' : Option Addr} {n' c' : Nat} {w : World} (l1 : Lst 4 mkR w A n c a.marks) (l2 : Lst 4 mkR w A' n' c' b.marks) {t : Bool} (ht : Hid (sameHd a b = t)) :
    Calls Try.prog 24 #[hdV a A n c, hdV b A' n' c'] w fun e w' => e = .returned (.bool t) ∧ Ext w w' := by
  have h63 := l1.n63
  have h63' := l2.n63
  obtain ⟨s1, o1, u1, c1, n1, q1, m1⟩ := a
  obtain ⟨s2, o2, u2, c2, n2, q2, m2⟩ := b
  simp only at l1 l2
  by_cases e : s1 = s2
  case neg =>
    skip
    obtain rfl : t = false := by rw [← ht.out]; unfold sameHd; simp [e]
    have q : (s1 == s2) = false := by simpa using e
    clear ht
    go_enter Try.func24, Try.ntmps24
    go_wp2_with fail
    go_ret
    refine ⟨rfl, ?_⟩
    (repeat (first | (with_reducible exact Ext.refl _) | (with_reducible assumption) | (with_reducible refine Ext.draws ?_) | (with_reducible refine Ext.allocs ?_ _) | (with_reducible refine Ext.sets ?_ ?_ _) | (with_reducible exact Nat.le_refl _) | (exact (by simp)) | (exact (by simp; omega))))
  subst e
  by_cases e : o1 = o2
  case neg =>
    skip
    obtain rfl : t = false := by rw [← ht.out]; unfold sameHd; simp [e]
    have q : (o1 == o2) = false := by simpa using e
    clear ht
    go_enter Try.func24, Try.ntmps24
    go_wp2_with fail
    go_ret
    refine ⟨rfl, ?_⟩
    (repeat (first | (with_reducible exact Ext.refl _) | (with_reducible assumption) | (with_reducible refine Ext.draws ?_) | (with_reducible refine Ext.allocs ?_ _) | (with_reducible refine Ext.sets ?_ ?_ _) | (with_reducible exact Nat.le_refl _) | (exact (by simp)) | (exact (by simp; omega))))
  subst e
  by_cases e : u1 = u2
  case neg =>
    skip
    obtain rfl : t = false := by rw [← ht.out]; unfold sameHd; simp [e]
    have q : (u1 == u2) = false := by simpa using e
    clear ht
    go_enter Try.func24, Try.ntmps24
    go_wp2_with fail
    go_ret
    refine ⟨rfl, ?_⟩
    (repeat (first | (with_reducible exact Ext.refl _) | (with_reducible assumption) | (with_reducible refine Ext.draws ?_) | (with_reducible refine Ext.allocs ?_ _) | (with_reducible refine Ext.sets ?_ ?_ _) | (with_reducible exact Nat.le_refl _) | (exact (by simp)) | (exact (by simp; omega))))
  subst e
  by_cases e : c1 = c2
  case neg =>
    skip
    obtain rfl : t = false := by rw [← ht.out]; unfold sameHd; simp [e]
    have q : (c1 == c2) = false := by simpa using e
    clear ht
    go_enter Try.func24, Try.ntmps24
    go_wp2_with fail
    go_ret
    refine ⟨rfl, ?_⟩
    (repeat (first | (with_reducible exact Ext.refl _) | (with_reducible assumption) | (with_reducible refine Ext.draws ?_) | (with_reducible refine Ext.allocs ?_ _) | (with_reducible refine Ext.sets ?_ ?_ _) | (with_reducible exact Nat.le_refl _) | (exact (by simp)) | (exact (by simp; omega))))
  subst e
  by_cases e : n1 = n2
  case neg =>
    skip
    obtain rfl : t = false := by rw [← ht.out]; unfold sameHd; simp [e]
    have q : (n1 == n2) = false := by simpa using e
    clear ht
    go_enter Try.func24, Try.ntmps24
    go_wp2_with fail
    go_ret
    refine ⟨rfl, ?_⟩
    (repeat (first | (with_reducible exact Ext.refl _) | (with_reducible assumption) | (with_reducible refine Ext.draws ?_) | (with_reducible refine Ext.allocs ?_ _) | (with_reducible refine Ext.sets ?_ ?_ _) | (with_reducible exact Nat.le_refl _) | (exact (by simp)) | (exact (by simp; omega))))
  subst e
  by_cases e : q1 = q2
  case neg =>
    skip
    obtain rfl : t = false := by rw [← ht.out]; unfold sameHd; simp [e]
    have q : (q1 == q2) = false := by simpa using e
    clear ht
    go_enter Try.func24, Try.ntmps24
    go_wp2_with fail
    go_ret
    refine ⟨rfl, ?_⟩
    (repeat (first | (with_reducible exact Ext.refl _) | (with_reducible assumption) | (with_reducible refine Ext.draws ?_) | (with_reducible refine Ext.allocs ?_ _) | (with_reducible refine Ext.sets ?_ ?_ _) | (with_reducible exact Nat.le_refl _) | (exact (by simp)) | (exact (by simp; omega))))
  subst e
  have hb : Hid (sameMk m1 m2 = t) := by
    unfold Hid
    rw [← ht.out]
    unfold sameMk sameHd
    simp
  clear ht
  have gx : Ext w ((w.alloc (.cells #[.int .i64 s1, .int .i64 o1, .int .i64 u1, .int .i64 c1, .int .i64 n1, .int .i64 q1, .slice A n c] THd)).alloc (.cells #[.int .i64 s1, .int .i64 o1, .int .i64 u1, .int .i64 c1, .int .i64 n1, .int .i64 q1, .slice A' n' c'] THd)) := (Ext.alloc _ _).allocs _
  go_enter Try.func24, Try.ntmps24
  go_wp2_with fail
  refine (ref_SameMarks (l1.ext mk_rep gx) (l2.ext mk_rep gx) hb).mono ?_
  rintro e w1 ⟨rfl, hx1⟩
  go_wp2_with fail
  go_ret
  exact ⟨rfl, gx.trans hx1⟩
end Go.Proofs.Ytoeknbogaclfdaa
