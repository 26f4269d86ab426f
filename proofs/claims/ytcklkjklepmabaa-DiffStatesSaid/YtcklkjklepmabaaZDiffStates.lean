/-
  The walk of one statement of chapter 15: the way between any two states.
-/
import Derived.Test.YtcklkjklepmabaaZWayRef
import Derived.Test.YtcklkjklepmabaaZDiffKnown
import Derived.Test.YtcklkjklepmabaaZEvsSame
import Derived.Test.YtcklkjklepmabaaZOpenSt
namespace Go.Proofs.Ytcklkjklepmabaa
open Go.RowKit
set_option linter.unusedVariables false
set_option linter.unusedSimpArgs false
set_option linter.unnecessarySimpa false
set_option maxRecDepth 100000

def EvsT (l : List Ev) : Ty := fun v w => ∃ A n c, v = .slice A n c ∧ Lst 5 evR w A n c l
theorem EvsT.keeps (l : List Ev) : Keeps Ext (EvsT l) := fun _ _ _ hx ⟨A, n, c, e, h⟩ => ⟨A, n, c, e, h.ext ev_rep hx⟩
set_option maxHeartbeats 8000000 in
theorem law_DiffStates (A : Option Addr) (n c : Nat) (A2 : Option Addr) (n2 c2 : Nat) (s : St) (B : Option Addr) (m d : Nat) (B2 : Option Addr) (m2 d2 : Nat) (t : St) (w : World) (h1 : StR w A n c A2 n2 c2 s) (h2 : StR w B m d B2 m2 d2 t) :
    Calls Try.prog 5 #[stV A n c A2 n2 c2, stV B m d B2 m2 d2] w fun e w' => e = .returned (.bool true) ∧ Ext w w' := by
  have h63 := h1.1.n63
  have h63a := h1.2.n63
  have h63b := h2.1.n63
  have h63c := h2.2.n63
  obtain ⟨h1d, h1s⟩ := h1
  obtain ⟨h2d, h2s⟩ := h2
  obtain ⟨R, hR⟩ : ∃ R, wayS s t = R := ⟨_, rfl⟩
  have HR := Lib.hid hR
  clear hR
  obtain ⟨W, hW⟩ : ∃ W, (w.alloc (.cells #[.slice A n c, .slice A2 n2 c2] TSt)).alloc (.cells #[.slice B m d, .slice B2 m2 d2] TSt) = W := ⟨_, rfl⟩
  have gW : Ext w W := by rw [← hW]; exact (Ext.alloc _ _).trans (Ext.alloc _ _)
  have s0 : W.cell? ⟨w.heap.size, 0, none⟩ = some (.slice A n c) := by rw [← hW]; exact (Ext.alloc _ _).cell (cell_new w _ _ 0)
  have s1 : W.cell? ⟨w.heap.size, 1, none⟩ = some (.slice A2 n2 c2) := by rw [← hW]; exact (Ext.alloc _ _).cell (cell_new w _ _ 1)
  have u0 : W.cell? ⟨w.heap.size + 1, 0, none⟩ = some (.slice B m d) := by rw [← hW]; have := cell_new (w.alloc (.cells #[.slice A n c, .slice A2 n2 c2] TSt)) #[.slice B m d, .slice B2 m2 d2] TSt 0; simpa using this
  have u1 : W.cell? ⟨w.heap.size + 1, 1, none⟩ = some (.slice B2 m2 d2) := by rw [← hW]; have := cell_new (w.alloc (.cells #[.slice A n c, .slice A2 n2 c2] TSt)) #[.slice B m d, .slice B2 m2 d2] TSt 1; simpa using this
  go_enter Try.func5, Try.ntmps5
  go_wp2_with fail
  clear hW
  go_loopw [5] (fun i wr => ∃ k : Nat, k ≤ n2 ∧ i = .int .i64 k ∧ Ext W wr) (fun i _ => n2 - (intOf i).toNat)
  case atStart => exact ⟨0, by omega, rfl, Ext.refl _⟩
  case round =>
    obtain ⟨k, hk, rfl, hxr⟩ := hrel
    have s0 := hxr.cell s0
    have s1 := hxr.cell s1
    have u0 := hxr.cell u0
    have u1 := hxr.cell u1
    have gx := gW.trans hxr
    by_cases hlt : k < n2
    · have k1 : decide ((k : Int) < (n2 : Int)) = true := by simp; omega
      by_cases h20 : k < 20
      · have k2 : decide ((k : Int) < 20) = true := by simp; omega
        obtain ⟨ga, oa, x, cs, he, hx, ⟨Aa, na, ca, rfl, sa0, hs⟩, ha⟩ := h1s.at2 ol_rep (by omega) hlt
        cases he
        have a0 := gx.cell (ha 0 _ rfl)
        rw [Nat.add_zero] at a0
        have a1 := gx.cell (ha 1 _ rfl)
        have ba := sa0.n63
        obtain ⟨xn, xd⟩ := x
        simp only at a0 a1 hs
        have hs' : xn.size ≤ 9223372036854775807 := by simp only [maxLen] at hs; omega
        clear ha hx sa0 hs
        by_cases h6 : 600 < na
        · 
          have k3 : decide ((na : Int) > 600) = true := by simp; omega
          have k3' : decide (600 < (na : Int)) = true := by simp; omega
          go_wp2_with fail
          refine (law15_known _).mono ?_
          rintro e w9 ⟨rfl, hx1⟩
          go_wp2_with fail
          go_ret
          exact ⟨rfl, gx.trans hx1⟩
        · 
          have k3 : decide ((na : Int) > 600) = false := by simp; omega
          have k3' : decide (600 < (na : Int)) = false := by simp; omega
          by_cases h4 : 40 < xn.size
          · 
            have k4 : decide ((xn.size : Int) > 40) = true := by simp; omega
            have k4' : decide (40 < (xn.size : Int)) = true := by simp; omega
            go_wp2_with fail
            refine (law15_known _).mono ?_
            rintro e w9 ⟨rfl, hx1⟩
            go_wp2_with fail
            go_ret
            exact ⟨rfl, gx.trans hx1⟩
          · 
            have k4 : decide ((xn.size : Int) > 40) = false := by simp; omega
            have k4' : decide (40 < (xn.size : Int)) = false := by simp; omega
            go_wp2_with fail
            go_roundw
            case rel => exact ⟨k + 1, by omega, by go_num, hxr⟩
            case measure => simp [intOf]; omega
      · have k2 : decide ((k : Int) < 20) = false := by simp; omega
        go_wp2_with fail
        obtain ⟨W2, rfl⟩ : ∃ q, q = wr := ⟨_, rfl⟩
        have gW := gx
        clear hxr hk
        have hn20 : 20 ≤ n2 := by omega
        clear hlt h20 k1 k2
        go_loopw [6] (fun i wr => ∃ k : Nat, k ≤ m2 ∧ i = .int .i64 k ∧ Ext W2 wr) (fun i _ => m2 - (intOf i).toNat)
        case atStart => exact ⟨0, by omega, rfl, Ext.refl _⟩
        case round =>
          obtain ⟨k, hk, rfl, hxr⟩ := hrel
          have s0 := hxr.cell s0
          have s1 := hxr.cell s1
          have u0 := hxr.cell u0
          have u1 := hxr.cell u1
          have gx := gW.trans hxr
          by_cases hlt : k < m2
          · have k1 : decide ((k : Int) < (m2 : Int)) = true := by simp; omega
            by_cases h20 : k < 20
            · have k2 : decide ((k : Int) < 20) = true := by simp; omega
              obtain ⟨ga, oa, x, cs, he, hx, ⟨Aa, na, ca, rfl, sa0, hs⟩, ha⟩ := h2s.at2 ol_rep (by omega) hlt
              cases he
              have a0 := gx.cell (ha 0 _ rfl)
              rw [Nat.add_zero] at a0
              have a1 := gx.cell (ha 1 _ rfl)
              have ba := sa0.n63
              obtain ⟨xn, xd⟩ := x
              simp only at a0 a1 hs
              have hs' : xn.size ≤ 9223372036854775807 := by simp only [maxLen] at hs; omega
              clear ha hx sa0 hs
              by_cases h6 : 600 < na
              · 
                have k3 : decide ((na : Int) > 600) = true := by simp; omega
                have k3' : decide (600 < (na : Int)) = true := by simp; omega
                go_wp2_with fail
                refine (law15_known _).mono ?_
                rintro e w9 ⟨rfl, hx1⟩
                go_wp2_with fail
                go_ret
                exact ⟨rfl, gx.trans hx1⟩
              · 
                have k3 : decide ((na : Int) > 600) = false := by simp; omega
                have k3' : decide (600 < (na : Int)) = false := by simp; omega
                by_cases h4 : 40 < xn.size
                · 
                  have k4 : decide ((xn.size : Int) > 40) = true := by simp; omega
                  have k4' : decide (40 < (xn.size : Int)) = true := by simp; omega
                  go_wp2_with fail
                  refine (law15_known _).mono ?_
                  rintro e w9 ⟨rfl, hx1⟩
                  go_wp2_with fail
                  go_ret
                  exact ⟨rfl, gx.trans hx1⟩
                · 
                  have k4 : decide ((xn.size : Int) > 40) = false := by simp; omega
                  have k4' : decide (40 < (xn.size : Int)) = false := by simp; omega
                  go_wp2_with fail
                  go_roundw
                  case rel => exact ⟨k + 1, by omega, by go_num, hxr⟩
                  case measure => simp [intOf]; omega
            · have k2 : decide ((k : Int) < 20) = false := by simp; omega
              have hbig : 12 < n2 := by omega
              by_cases g1 : 600 < n
              · 
                have q1 : decide ((n : Int) > 600) = true := by simp; omega
                have q1' : decide (600 < (n : Int)) = true := by simp; omega
                go_wp2_with fail
                refine (law15_known _).mono ?_
                rintro e w9 ⟨rfl, hx1⟩
                go_wp2_with fail
                go_ret
                exact ⟨rfl, gx.trans hx1⟩
              have q1 : decide ((n : Int) > 600) = false := by simp; omega
              have q1' : decide (600 < (n : Int)) = false := by simp; omega
              by_cases g2 : 600 < m
              · 
                have q2 : decide ((m : Int) > 600) = true := by simp; omega
                have q2' : decide (600 < (m : Int)) = true := by simp; omega
                go_wp2_with fail
                refine (law15_known _).mono ?_
                rintro e w9 ⟨rfl, hx1⟩
                go_wp2_with fail
                go_ret
                exact ⟨rfl, gx.trans hx1⟩
              have q2 : decide ((m : Int) > 600) = false := by simp; omega
              have q2' : decide (600 < (m : Int)) = false := by simp; omega
              have q3 : decide ((n2 : Int) > 12) = true := by simp; omega
              have q3' : decide (12 < (n2 : Int)) = true := by simp; omega
              go_wp2_with fail
              refine (law15_known _).mono ?_
              rintro e w9 ⟨rfl, hx1⟩
              go_wp2_with fail
              go_ret
              exact ⟨rfl, gx.trans hx1⟩
          · have k1 : decide ((k : Int) < (m2 : Int)) = false := by simp; omega
            have hbig : 12 < n2 := by omega
            by_cases g1 : 600 < n
            · 
              have q1 : decide ((n : Int) > 600) = true := by simp; omega
              have q1' : decide (600 < (n : Int)) = true := by simp; omega
              go_wp2_with fail
              refine (law15_known _).mono ?_
              rintro e w9 ⟨rfl, hx1⟩
              go_wp2_with fail
              go_ret
              exact ⟨rfl, gx.trans hx1⟩
            have q1 : decide ((n : Int) > 600) = false := by simp; omega
            have q1' : decide (600 < (n : Int)) = false := by simp; omega
            by_cases g2 : 600 < m
            · 
              have q2 : decide ((m : Int) > 600) = true := by simp; omega
              have q2' : decide (600 < (m : Int)) = true := by simp; omega
              go_wp2_with fail
              refine (law15_known _).mono ?_
              rintro e w9 ⟨rfl, hx1⟩
              go_wp2_with fail
              go_ret
              exact ⟨rfl, gx.trans hx1⟩
            have q2 : decide ((m : Int) > 600) = false := by simp; omega
            have q2' : decide (600 < (m : Int)) = false := by simp; omega
            have q3 : decide ((n2 : Int) > 12) = true := by simp; omega
            have q3' : decide (12 < (n2 : Int)) = true := by simp; omega
            go_wp2_with fail
            refine (law15_known _).mono ?_
            rintro e w9 ⟨rfl, hx1⟩
            go_wp2_with fail
            go_ret
            exact ⟨rfl, gx.trans hx1⟩
    · have k1 : decide ((k : Int) < (n2 : Int)) = false := by simp; omega
      go_wp2_with fail
      obtain ⟨W2, rfl⟩ : ∃ q, q = wr := ⟨_, rfl⟩
      have gW := gx
      clear hxr hk
      go_loopw [6] (fun i wr => ∃ k : Nat, k ≤ m2 ∧ i = .int .i64 k ∧ Ext W2 wr) (fun i _ => m2 - (intOf i).toNat)
      case atStart => exact ⟨0, by omega, rfl, Ext.refl _⟩
      case round =>
        obtain ⟨k, hk, rfl, hxr⟩ := hrel
        have s0 := hxr.cell s0
        have s1 := hxr.cell s1
        have u0 := hxr.cell u0
        have u1 := hxr.cell u1
        have gx := gW.trans hxr
        by_cases hlt : k < m2
        · have k1 : decide ((k : Int) < (m2 : Int)) = true := by simp; omega
          by_cases h20 : k < 20
          · have k2 : decide ((k : Int) < 20) = true := by simp; omega
            obtain ⟨ga, oa, x, cs, he, hx, ⟨Aa, na, ca, rfl, sa0, hs⟩, ha⟩ := h2s.at2 ol_rep (by omega) hlt
            cases he
            have a0 := gx.cell (ha 0 _ rfl)
            rw [Nat.add_zero] at a0
            have a1 := gx.cell (ha 1 _ rfl)
            have ba := sa0.n63
            obtain ⟨xn, xd⟩ := x
            simp only at a0 a1 hs
            have hs' : xn.size ≤ 9223372036854775807 := by simp only [maxLen] at hs; omega
            clear ha hx sa0 hs
            by_cases h6 : 600 < na
            · 
              have k3 : decide ((na : Int) > 600) = true := by simp; omega
              have k3' : decide (600 < (na : Int)) = true := by simp; omega
              go_wp2_with fail
              refine (law15_known _).mono ?_
              rintro e w9 ⟨rfl, hx1⟩
              go_wp2_with fail
              go_ret
              exact ⟨rfl, gx.trans hx1⟩
            · 
              have k3 : decide ((na : Int) > 600) = false := by simp; omega
              have k3' : decide (600 < (na : Int)) = false := by simp; omega
              by_cases h4 : 40 < xn.size
              · 
                have k4 : decide ((xn.size : Int) > 40) = true := by simp; omega
                have k4' : decide (40 < (xn.size : Int)) = true := by simp; omega
                go_wp2_with fail
                refine (law15_known _).mono ?_
                rintro e w9 ⟨rfl, hx1⟩
                go_wp2_with fail
                go_ret
                exact ⟨rfl, gx.trans hx1⟩
              · 
                have k4 : decide ((xn.size : Int) > 40) = false := by simp; omega
                have k4' : decide (40 < (xn.size : Int)) = false := by simp; omega
                go_wp2_with fail
                go_roundw
                case rel => exact ⟨k + 1, by omega, by go_num, hxr⟩
                case measure => simp [intOf]; omega
          · have k2 : decide ((k : Int) < 20) = false := by simp; omega
            have hbig : 12 < m2 := by omega
            by_cases g1 : 600 < n
            · 
              have q1 : decide ((n : Int) > 600) = true := by simp; omega
              have q1' : decide (600 < (n : Int)) = true := by simp; omega
              go_wp2_with fail
              refine (law15_known _).mono ?_
              rintro e w9 ⟨rfl, hx1⟩
              go_wp2_with fail
              go_ret
              exact ⟨rfl, gx.trans hx1⟩
            have q1 : decide ((n : Int) > 600) = false := by simp; omega
            have q1' : decide (600 < (n : Int)) = false := by simp; omega
            by_cases g2 : 600 < m
            · 
              have q2 : decide ((m : Int) > 600) = true := by simp; omega
              have q2' : decide (600 < (m : Int)) = true := by simp; omega
              go_wp2_with fail
              refine (law15_known _).mono ?_
              rintro e w9 ⟨rfl, hx1⟩
              go_wp2_with fail
              go_ret
              exact ⟨rfl, gx.trans hx1⟩
            have q2 : decide ((m : Int) > 600) = false := by simp; omega
            have q2' : decide (600 < (m : Int)) = false := by simp; omega
            by_cases g3 : 12 < n2
            · 
              have q3 : decide ((n2 : Int) > 12) = true := by simp; omega
              have q3' : decide (12 < (n2 : Int)) = true := by simp; omega
              go_wp2_with fail
              refine (law15_known _).mono ?_
              rintro e w9 ⟨rfl, hx1⟩
              go_wp2_with fail
              go_ret
              exact ⟨rfl, gx.trans hx1⟩
            have q3 : decide ((n2 : Int) > 12) = false := by simp; omega
            have q3' : decide (12 < (n2 : Int)) = false := by simp; omega
            have q4 : decide ((m2 : Int) > 12) = true := by simp; omega
            have q4' : decide (12 < (m2 : Int)) = true := by simp; omega
            go_wp2_with fail
            refine (law15_known _).mono ?_
            rintro e w9 ⟨rfl, hx1⟩
            go_wp2_with fail
            go_ret
            exact ⟨rfl, gx.trans hx1⟩
        · have k1 : decide ((k : Int) < (m2 : Int)) = false := by simp; omega
          by_cases g1 : 600 < n
          · 
            have q1 : decide ((n : Int) > 600) = true := by simp; omega
            have q1' : decide (600 < (n : Int)) = true := by simp; omega
            go_wp2_with fail
            refine (law15_known _).mono ?_
            rintro e w9 ⟨rfl, hx1⟩
            go_wp2_with fail
            go_ret
            exact ⟨rfl, gx.trans hx1⟩
          have q1 : decide ((n : Int) > 600) = false := by simp; omega
          have q1' : decide (600 < (n : Int)) = false := by simp; omega
          by_cases g2 : 600 < m
          · 
            have q2 : decide ((m : Int) > 600) = true := by simp; omega
            have q2' : decide (600 < (m : Int)) = true := by simp; omega
            go_wp2_with fail
            refine (law15_known _).mono ?_
            rintro e w9 ⟨rfl, hx1⟩
            go_wp2_with fail
            go_ret
            exact ⟨rfl, gx.trans hx1⟩
          have q2 : decide ((m : Int) > 600) = false := by simp; omega
          have q2' : decide (600 < (m : Int)) = false := by simp; omega
          by_cases g3 : 12 < n2
          · 
            have q3 : decide ((n2 : Int) > 12) = true := by simp; omega
            have q3' : decide (12 < (n2 : Int)) = true := by simp; omega
            go_wp2_with fail
            refine (law15_known _).mono ?_
            rintro e w9 ⟨rfl, hx1⟩
            go_wp2_with fail
            go_ret
            exact ⟨rfl, gx.trans hx1⟩
          have q3 : decide ((n2 : Int) > 12) = false := by simp; omega
          have q3' : decide (12 < (n2 : Int)) = false := by simp; omega
          by_cases g4 : 12 < m2
          · 
            have q4 : decide ((m2 : Int) > 12) = true := by simp; omega
            have q4' : decide (12 < (m2 : Int)) = true := by simp; omega
            go_wp2_with fail
            refine (law15_known _).mono ?_
            rintro e w9 ⟨rfl, hx1⟩
            go_wp2_with fail
            go_ret
            exact ⟨rfl, gx.trans hx1⟩
          have q4 : decide ((m2 : Int) > 12) = false := by simp; omega
          have q4' : decide (12 < (m2 : Int)) = false := by simp; omega
          clear g1 g2 g3 g4
          go_wp2_with fail
          refine wp_region_typed Ext.steady rfl 100 rfl (by kernel_rfl) ?_
          -- 0: Op.load 35 t2
          apply Stage.step (Is _) [] (Is.keeps _) (by kernel_rfl)
          · intro w1 h1
            simp only [Given]
            have hq := h1.cell s0
            have hq2 := h1.cell s1
            go_wp2_with fail
            exact Post.isv (Ext.refl _) rfl rfl rfl
          -- 1: Op.load 35 t3
          apply Stage.step (Is _) [] (Is.keeps _) (by kernel_rfl)
          · intro w1 h1
            simp only [Given]
            have hq := h1.cell u0
            have hq2 := h1.cell u1
            go_wp2_with fail
            exact Post.isv (Ext.refl _) rfl rfl rfl
          -- 2: Op.call { value (Operand.func 28), args := #[t90, t91], argTypes := #[35, 35] }
          apply Stage.step (EvsT R) [true, true] (EvsT.keeps _) (by kernel_rfl)
          · intro w1 h1
            simp only [List.nil_append, List.cons_append, Given]
            rintro _ rfl
            rintro _ rfl
            go_wp2_with fail
            refine (diff_Way (StR.ext ⟨h1d, h1s⟩ (gx.trans h1)) (StR.ext ⟨h2d, h2s⟩ (gx.trans h1)) HR).mono ?_
            rintro e w30 ⟨Al, nl, cl, rfl, hl, gq⟩
            go_wp2_with fail
            exact ⟨rfl, rfl, gq, _, _, _, rfl, hl⟩
          -- 3: Op.load 35 t2
          apply Stage.step (Is _) [] (Is.keeps _) (by kernel_rfl)
          · intro w1 h1
            simp only [Given]
            have hq := h1.cell s0
            have hq2 := h1.cell s1
            go_wp2_with fail
            exact Post.isv (Ext.refl _) rfl rfl rfl
          -- 4: Op.load 35 t3
          apply Stage.step (Is _) [] (Is.keeps _) (by kernel_rfl)
          · intro w1 h1
            simp only [Given]
            have hq := h1.cell u0
            have hq2 := h1.cell u1
            go_wp2_with fail
            exact Post.isv (Ext.refl _) rfl rfl rfl
          -- 5: Op.call { value (Operand.func 29), args := #[t93, t94], argTypes := #[35, 35] }
          apply Stage.step (EvsT R) [false, false, false, true, true] (EvsT.keeps _) (by kernel_rfl)
          · intro w1 h1
            simp only [List.nil_append, List.cons_append, Given]
            rintro _ rfl
            rintro _ rfl
            go_wp2_with fail
            refine (ref_Way (StR.ext ⟨h1d, h1s⟩ (gx.trans h1)) (StR.ext ⟨h2d, h2s⟩ (gx.trans h1)) HR).mono ?_
            rintro e w30 ⟨Al, nl, cl, rfl, hl, gq⟩
            go_wp2_with fail
            exact ⟨rfl, rfl, gq, _, _, _, rfl, hl⟩
          -- 6: Op.call { value (Operand.func 27), args := #[t92, t95], argTypes := #[23, 23] }
          apply Stage.step (Is (.bool true)) [false, false, true, false, false, true] (Is.keeps _) (by kernel_rfl)
          · intro w1 h1
            simp only [List.nil_append, List.cons_append, Given]
            rintro _ ⟨Al2, nl2, cl2, rfl, hl2⟩
            rintro _ ⟨Al5, nl5, cl5, rfl, hl5⟩
            have bl2 := hl2.n63
            have bl5 := hl5.n63
            go_wp2_with fail
            refine (ref_SameEvents hl2 hl5).mono ?_
            rintro e w30 ⟨rfl, gq⟩
            rw [show sameEv R R = true by simp [sameEv]]
            go_wp2_with fail
            exact Post.isv gq rfl rfl rfl
          -- 7: Op.move t96
          apply Stage.step (Is _) [false, false, false, false, false, false, true] (Is.keeps _) (by kernel_rfl)
          · intro w1 h1
            simp only [List.nil_append, List.cons_append, Given]
            rintro _ rfl
            go_wp2_with fail
            exact Post.isv (Ext.refl _) rfl rfl rfl
          -- 8: Op.call { value (Operand.func 21), args := #[], argTypes := #[] }   [guarded: some (7, true)]
          apply Stage.step (Is (.bool true)) [false, false, false, false, false, false, false, true] (Is.keeps _) (by kernel_rfl)
          · intro w1 h1
            simp only [List.nil_append, List.cons_append, Given]
            rintro _ rfl
            go_wp2_with fail
            refine (law15_known _).mono ?_
            rintro e w30 ⟨rfl, gq⟩
            go_wp2_with fail
            exact Post.isv gq rfl rfl rfl
          -- 9: Op.pick t97 t98 (const (Value.bool false))
          apply Stage.step (Is _) [false, false, false, false, false, false, false, true, true] (Is.keeps _) (by kernel_rfl)
          · intro w1 h1
            simp only [List.nil_append, List.cons_append, Given]
            rintro _ rfl
            rintro _ rfl
            go_wp2_with fail
            exact Post.isv (Ext.refl _) rfl rfl rfl
          -- 10: Op.assign t99
          apply Stage.step (Is _) [false, false, false, false, false, false, false, false, false, true] (Is.keeps _) (by kernel_rfl)
          · intro w1 h1
            simp only [List.nil_append, List.cons_append, Given]
            rintro _ rfl
            go_wp2_with fail
            exact Post.isv (Ext.refl _) rfl rfl rfl
          apply Stage.nil
          intro w1 h1
          simp only [List.nil_append, List.cons_append]
          refine Fin.is_ ?_
          refine Fin.is_ ?_
          refine Fin.step_ ?_
          rintro _ ⟨Al2, nl2, cl2, rfl, hl2⟩
          refine Fin.is_ ?_
          refine Fin.is_ ?_
          refine Fin.step_ ?_
          rintro _ ⟨Al5, nl5, cl5, rfl, hl5⟩
          refine Fin.is_ ?_
          refine Fin.is_ ?_
          refine Fin.is_ ?_
          refine Fin.is_ ?_
          refine Fin.is_ ?_
          refine Fin.nil_ ?_
          go_simp
          go_wp2_with fail
          go_ret
          exact ⟨rfl, gx.trans h1⟩
end Go.Proofs.Ytcklkjklepmabaa
