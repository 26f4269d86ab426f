/-
  Events: contracts of the reference's RightEvent, Plain, Span.
-/
import Derived.Test.YtcklkjklepmabaaZCore
namespace Go.Proofs.Ytcklkjklepmabaa
open Go.RowKit
set_option linter.unusedVariables false
set_option linter.unusedSimpArgs false
set_option linter.unnecessarySimpa false
set_option maxRecDepth 100000

abbrev evV (k o m : Int) (A : Option Addr) (n c : Nat) (s : ByteArray) : Value := .agg #[.int .i64 k, .int .i64 o, .int .i64 m, .slice A n c, .string s]

def rightE (k o m : Int) (n : Nat) (s : ByteArray) : Bool :=
  if k = 1 then decide (n ≤ 64) && within o n && decide (m = 0) && s.toList.isEmpty
  else if k = 2 ∨ k = 3 then decide (n = 0) && within o m && s.toList.isEmpty
  else if k = 4 then decide (n = 0) && decide (o = 0) && decide (0 ≤ m) && decide (m ≤ 512) && s.toList.isEmpty
  else if k = 5 ∨ k = 6 ∨ k = 7 then decide (n = 0) && decide (o = 0) && decide (m = 0) && nameB s
  else if k = 8 then decide (n = 0) && decide (o = 0) && decide (m = 0) && s.toList.isEmpty
  else false

set_option maxHeartbeats 4000000 in
theorem ref_RightEvent (k o m : Int) (A : Option Addr) (n c : Nat) (s : ByteArray) (w : World) (hn : n ≤ 9223372036854775807) (hs : s.size ≤ maxLen) :
    Calls Try.prog 39 #[evV k o m A n c s] w fun e w' => e = .returned (.bool (rightE k o m n s)) ∧ Ext w w' := by
  by_cases k1 : k = 1
  · subst k1
    go_enter Try.func39, Try.ntmps39
    go_wp2_with (first | (go_at_call 69; refine (ref_within _ _ _).mono ?_; rintro e w1 ⟨rfl, rfl⟩) | (go_at_call 46; refine (ref_Name _ _ hs).mono ?_; rintro e w1 ⟨rfl, rfl⟩))
    all_goals (go_ret; refine ⟨ret_bool ?_, Ext.alloc _ _⟩; ((repeat (rename_i x; first | (have _t := fun (a : Act) (w : World) => x a w; clear _t x) | (have _t := fun (e : Exit) (a : Act) (w : World) => x e a w; clear _t x) | revert x)); intros); simp [rightE, *] <;> omega)
  by_cases k2 : k = 2
  · subst k2
    go_enter Try.func39, Try.ntmps39
    go_wp2_with (first | (go_at_call 69; refine (ref_within _ _ _).mono ?_; rintro e w1 ⟨rfl, rfl⟩) | (go_at_call 46; refine (ref_Name _ _ hs).mono ?_; rintro e w1 ⟨rfl, rfl⟩))
    all_goals (go_ret; refine ⟨ret_bool ?_, Ext.alloc _ _⟩; ((repeat (rename_i x; first | (have _t := fun (a : Act) (w : World) => x a w; clear _t x) | (have _t := fun (e : Exit) (a : Act) (w : World) => x e a w; clear _t x) | revert x)); intros); simp [rightE, *] <;> omega)
  by_cases k3 : k = 3
  · subst k3
    go_enter Try.func39, Try.ntmps39
    go_wp2_with (first | (go_at_call 69; refine (ref_within _ _ _).mono ?_; rintro e w1 ⟨rfl, rfl⟩) | (go_at_call 46; refine (ref_Name _ _ hs).mono ?_; rintro e w1 ⟨rfl, rfl⟩))
    all_goals (go_ret; refine ⟨ret_bool ?_, Ext.alloc _ _⟩; ((repeat (rename_i x; first | (have _t := fun (a : Act) (w : World) => x a w; clear _t x) | (have _t := fun (e : Exit) (a : Act) (w : World) => x e a w; clear _t x) | revert x)); intros); simp [rightE, *] <;> omega)
  by_cases k4 : k = 4
  · subst k4
    go_enter Try.func39, Try.ntmps39
    go_wp2_with (first | (go_at_call 69; refine (ref_within _ _ _).mono ?_; rintro e w1 ⟨rfl, rfl⟩) | (go_at_call 46; refine (ref_Name _ _ hs).mono ?_; rintro e w1 ⟨rfl, rfl⟩))
    all_goals (go_ret; refine ⟨ret_bool ?_, Ext.alloc _ _⟩; ((repeat (rename_i x; first | (have _t := fun (a : Act) (w : World) => x a w; clear _t x) | (have _t := fun (e : Exit) (a : Act) (w : World) => x e a w; clear _t x) | revert x)); intros); simp [rightE, *] <;> omega)
  by_cases k5 : k = 5
  · subst k5
    go_enter Try.func39, Try.ntmps39
    go_wp2_with (first | (go_at_call 69; refine (ref_within _ _ _).mono ?_; rintro e w1 ⟨rfl, rfl⟩) | (go_at_call 46; refine (ref_Name _ _ hs).mono ?_; rintro e w1 ⟨rfl, rfl⟩))
    all_goals (go_ret; refine ⟨ret_bool ?_, Ext.alloc _ _⟩; ((repeat (rename_i x; first | (have _t := fun (a : Act) (w : World) => x a w; clear _t x) | (have _t := fun (e : Exit) (a : Act) (w : World) => x e a w; clear _t x) | revert x)); intros); simp [rightE, *] <;> omega)
  by_cases k6 : k = 6
  · subst k6
    go_enter Try.func39, Try.ntmps39
    go_wp2_with (first | (go_at_call 69; refine (ref_within _ _ _).mono ?_; rintro e w1 ⟨rfl, rfl⟩) | (go_at_call 46; refine (ref_Name _ _ hs).mono ?_; rintro e w1 ⟨rfl, rfl⟩))
    all_goals (go_ret; refine ⟨ret_bool ?_, Ext.alloc _ _⟩; ((repeat (rename_i x; first | (have _t := fun (a : Act) (w : World) => x a w; clear _t x) | (have _t := fun (e : Exit) (a : Act) (w : World) => x e a w; clear _t x) | revert x)); intros); simp [rightE, *] <;> omega)
  by_cases k7 : k = 7
  · subst k7
    go_enter Try.func39, Try.ntmps39
    go_wp2_with (first | (go_at_call 69; refine (ref_within _ _ _).mono ?_; rintro e w1 ⟨rfl, rfl⟩) | (go_at_call 46; refine (ref_Name _ _ hs).mono ?_; rintro e w1 ⟨rfl, rfl⟩))
    all_goals (go_ret; refine ⟨ret_bool ?_, Ext.alloc _ _⟩; ((repeat (rename_i x; first | (have _t := fun (a : Act) (w : World) => x a w; clear _t x) | (have _t := fun (e : Exit) (a : Act) (w : World) => x e a w; clear _t x) | revert x)); intros); simp [rightE, *] <;> omega)
  by_cases k8 : k = 8
  · subst k8
    go_enter Try.func39, Try.ntmps39
    go_wp2_with (first | (go_at_call 69; refine (ref_within _ _ _).mono ?_; rintro e w1 ⟨rfl, rfl⟩) | (go_at_call 46; refine (ref_Name _ _ hs).mono ?_; rintro e w1 ⟨rfl, rfl⟩))
    all_goals (go_ret; refine ⟨ret_bool ?_, Ext.alloc _ _⟩; ((repeat (rename_i x; first | (have _t := fun (a : Act) (w : World) => x a w; clear _t x) | (have _t := fun (e : Exit) (a : Act) (w : World) => x e a w; clear _t x) | revert x)); intros); simp [rightE, *] <;> omega)
  have q1 : (k == 1) = false := by simp; omega
  have q2 : (k == 2) = false := by simp; omega
  have q3 : (k == 3) = false := by simp; omega
  have q4 : (k == 4) = false := by simp; omega
  have q5 : (k == 5) = false := by simp; omega
  have q6 : (k == 6) = false := by simp; omega
  have q7 : (k == 7) = false := by simp; omega
  have q8 : (k == 8) = false := by simp; omega
  go_enter Try.func39, Try.ntmps39
  go_wp2_with (first | (go_at_call 69; refine (ref_within _ _ _).mono ?_; rintro e w1 ⟨rfl, rfl⟩) | (go_at_call 46; refine (ref_Name _ _ hs).mono ?_; rintro e w1 ⟨rfl, rfl⟩))
  all_goals (go_ret; refine ⟨ret_bool ?_, Ext.alloc _ _⟩; ((repeat (rename_i x; first | (have _t := fun (a : Act) (w : World) => x a w; clear _t x) | (have _t := fun (e : Exit) (a : Act) (w : World) => x e a w; clear _t x) | revert x)); intros); simp [rightE, *] <;> omega)
end Go.Proofs.Ytcklkjklepmabaa
