/-
  A state that isn't long: contract of chapter 14's may.
-/
import Derived.Test.YtcklkjklepmabaaZSt
namespace Go.Proofs.Ytcklkjklepmabaa
open Go.RowKit
set_option linter.unusedVariables false
set_option linter.unusedSimpArgs false
set_option linter.unnecessarySimpa false
set_option maxRecDepth 100000

set_option maxHeartbeats 4000000 in
theorem law14_may {A : Option Addr} {n c : Nat} {A2 : Option Addr} {n2 c2 : Nat} {s : St} {w : World} (h : StR w A n c A2 n2 c2 s) :
    Calls Try.prog 60 #[stV A n c A2 n2 c2] w fun e w' => ∃ b, e = .returned (.bool b) ∧ Ext w w' := by
  have h63 := h.1.n63
  have h63a := h.2.n63
  obtain ⟨h1d, h1s⟩ := h
  obtain ⟨W, hW⟩ : ∃ W, w.alloc (.cells #[.slice A n c, .slice A2 n2 c2] TSt) = W := ⟨_, rfl⟩
  have gW : Ext w W := by rw [← hW]; exact Ext.alloc _ _
  have s0 : W.cell? ⟨w.heap.size, 0, none⟩ = some (.slice A n c) := by rw [← hW]; exact cell_new w _ _ 0
  have s1 : W.cell? ⟨w.heap.size, 1, none⟩ = some (.slice A2 n2 c2) := by rw [← hW]; exact cell_new w _ _ 1
  go_enter Try.func60, Try.ntmps60
  go_wp2_with fail
  clear hW
  go_loopw [3] (fun i wr => ∃ k : Nat, k ≤ n2 ∧ i = .int .i64 k ∧ Ext W wr) (fun i _ => n2 - (intOf i).toNat)
  case atStart => exact ⟨0, by omega, rfl, Ext.refl _⟩
  case round =>
    obtain ⟨k, hk, rfl, hxr⟩ := hrel
    replace s0 := hxr.cell s0
    replace s1 := hxr.cell s1
    have gx := gW.trans hxr
    by_cases hlt : k < n2
    · have k1 : decide ((k : Int) < (n2 : Int)) = true := by simp; omega
      by_cases h20 : k < 20
      · have k2 : decide ((k : Int) < 20) = true := by simp; omega
        obtain ⟨ga, oa, x, cs, rfl, hx, ⟨Aa, na, ca, rfl, sa0, hs⟩, ha⟩ := h1s.at2 ol_rep (by omega) hlt
        have a0 := gx.cell (ha 0 _ rfl)
        rw [Nat.add_zero] at a0
        have a1 := gx.cell (ha 1 _ rfl)
        have ba := sa0.n63
        obtain ⟨xn, xd⟩ := x
        simp only at a0 a1 hs
        have hs' : xn.size ≤ 9223372036854775807 := by simp only [maxLen] at hs; omega
        clear ha hx sa0 hs
        by_cases h6 : 600 < na
        · 
          have k3 : decide ((na : Int) > 600) = true := by simp; omega
          have k3' : decide (600 < (na : Int)) = true := by simp; omega
          go_wp2_with fail
          go_ret
          exact ⟨_, rfl, gx⟩
        · 
          have k3 : decide ((na : Int) > 600) = false := by simp; omega
          have k3' : decide (600 < (na : Int)) = false := by simp; omega
          by_cases h4 : 40 < xn.size
          · 
            have k4 : decide ((xn.size : Int) > 40) = true := by simp; omega
            have k4' : decide (40 < (xn.size : Int)) = true := by simp; omega
            go_wp2_with fail
            go_ret
            exact ⟨_, rfl, gx⟩
          · 
            have k4 : decide ((xn.size : Int) > 40) = false := by simp; omega
            have k4' : decide (40 < (xn.size : Int)) = false := by simp; omega
            go_wp2_with fail
            go_roundw
            case rel => exact ⟨k + 1, by omega, by go_num, hxr⟩
            case measure => simp [intOf]; omega
      · have k2 : decide ((k : Int) < 20) = false := by simp; omega
        by_cases h6 : n ≤ 600
        · 
          have k3 : decide ((n : Int) ≤ 600) = true := by simp; omega
          have k4 : decide ((n2 : Int) ≤ 12) = false := by simp; omega
          go_wp2_with fail
          go_ret
          exact ⟨_, rfl, gx⟩
        · 
          have k3 : decide ((n : Int) ≤ 600) = false := by simp; omega
          go_wp2_with fail
          go_ret
          exact ⟨_, rfl, gx⟩
    · have k1 : decide ((k : Int) < (n2 : Int)) = false := by simp; omega
      by_cases h6 : n ≤ 600
      · 
        have k3 : decide ((n : Int) ≤ 600) = true := by simp; omega
        by_cases h7 : n2 ≤ 12
        · 
          have k4 : decide ((n2 : Int) ≤ 12) = true := by simp; omega
          go_wp2_with fail
          go_ret
          exact ⟨_, rfl, gx⟩
        · 
          have k4 : decide ((n2 : Int) ≤ 12) = false := by simp; omega
          go_wp2_with fail
          go_ret
          exact ⟨_, rfl, gx⟩
      · 
        have k3 : decide ((n : Int) ≤ 600) = false := by simp; omega
        go_wp2_with fail
        go_ret
        exact ⟨_, rfl, gx⟩
end Go.Proofs.Ytcklkjklepmabaa
