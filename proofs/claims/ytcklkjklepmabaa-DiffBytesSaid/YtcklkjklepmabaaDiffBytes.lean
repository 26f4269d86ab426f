/-
  The walk of one statement of chapter 15.
-/
import Derived.Test.YtcklkjklepmabaaDiffRef
import Derived.Test.YtcklkjklepmabaaDiffKnown
import Derived.Test.YtcklkjklepmabaaDiffLong
import Derived.Test.YtcklkjklepmabaaOpenEvs
namespace Go.Proofs.Ytcklkjklepmabaa
open Go.RowKit
set_option linter.unusedVariables false
set_option linter.unusedSimpArgs false
set_option linter.unnecessarySimpa false
set_option maxRecDepth 100000

theorem small_len {xs : List Ev} {m : Nat} (h : smallB xs m = true) : xs.length ≤ m := (of_decide_eq_true h).2
set_option maxHeartbeats 2000000 in
theorem law_DiffBytes (A : Option Addr) (n c : Nat) (a : List UInt8) (A' : Option Addr) (n' c' : Nat) (b : List UInt8) (A2 : Option Addr) (n2 c2 : Nat) (l : List Ev) (w : World) (h : Sl w A n c a) (h' : Sl w A' n' c' b) (h2 : Lst 5 evR w A2 n2 c2 l) :
    Calls Try.prog 6 #[.slice A n c, .slice A' n' c', .slice A2 n2 c2] w fun e w' => e = .returned (.bool true) ∧ Ext w w' := by
  have h63 := h.n63
  have h63' := h'.n63
  by_cases t1 : 600 < n
  · 
    go_enter Try.func6, Try.ntmps6
    go_wp2_with fail
    refine (law15_known _).mono ?_
    rintro e w2 ⟨rfl, hx1⟩
    go_wp2_with fail
    go_ret
    exact ⟨rfl, hx1⟩
  by_cases t2 : 600 < n'
  · 
    go_enter Try.func6, Try.ntmps6
    go_wp2_with fail
    refine (law15_known _).mono ?_
    rintro e w2 ⟨rfl, hx1⟩
    go_wp2_with fail
    go_ret
    exact ⟨rfl, hx1⟩
  obtain ⟨f, hf⟩ : ∃ q, smallB l 60 = q := ⟨_, rfl⟩
  have HF := Lib.hid hf
  cases f with
  | false =>
    clear hf
    go_enter Try.func6, Try.ntmps6
    go_wp2_with fail
    refine (keep_Small h2 (m := 60) (by decide) HF).mono ?_
    rintro e w1 ⟨rfl, g1⟩
    go_wp2_with fail
    refine (law15_known _).mono ?_
    rintro e w2 ⟨rfl, hx1⟩
    go_wp2_with fail
    go_ret
    exact ⟨rfl, g1.trans hx1⟩
  | true =>
    have hn2 := small_len hf
    rw [h2.len] at hn2
    obtain ⟨R, hR⟩ : ∃ R, bytesL a b = R := ⟨_, rfl⟩
    obtain ⟨N, hN⟩ : ∃ N, longN l = N := ⟨_, rfl⟩
    have HR := Lib.hid hR
    have HN := Lib.hid hN
    clear hf hR hN
    go_enter Try.func6, Try.ntmps6
    go_wp2_with fail
    refine (keep_Small h2 (m := 60) (by decide) HF).mono ?_
    rintro e w1 ⟨rfl, g1⟩
    go_wp2_with fail
    refine (diff_Bytes (h.ext g1) (h'.ext g1) (by omega) (by omega) HR).mono ?_
    rintro e w1 ⟨Ba, na, ca, rfl, la, g2⟩
    replace g1 := g1.trans g2
    clear g2
    go_wp2_with fail
    refine (ref_Bytes (h.ext g1) (h'.ext g1) (by omega) (by omega) HR).mono ?_
    rintro e w1 ⟨Bb, nb, cb, rfl, lb, g2⟩
    replace g1 := g1.trans g2
    have la2 := la.lst.ext ev_rep g2
    clear g2
    go_wp2_with fail
    refine (ref_SameEvents la2 lb.lst).mono ?_
    rintro e w1 ⟨rfl, g2⟩
    rw [show sameEv R R = true by simp [sameEv]]
    replace g1 := g1.trans g2
    clear g2
    go_wp2_with fail
    refine (diff_Long (h2.ext ev_rep g1) (by omega) HN).mono ?_
    rintro e w1 ⟨rfl, g2⟩
    replace g1 := g1.trans g2
    clear g2
    go_wp2_with fail
    refine (ref14_Long (h2.ext ev_rep g1) (by omega) HN).mono ?_
    rintro e w1 ⟨rfl, g2⟩
    replace g1 := g1.trans g2
    clear g2
    go_wp2_with fail
    refine (law15_known _).mono ?_
    rintro e w2 ⟨rfl, hx1⟩
    go_wp2_with fail
    go_ret
    exact ⟨rfl, g1.trans hx1⟩
end Go.Proofs.Ytcklkjklepmabaa
