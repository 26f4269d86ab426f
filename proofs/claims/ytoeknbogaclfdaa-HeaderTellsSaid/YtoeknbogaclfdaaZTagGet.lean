/-
  Chains out of bytes: contract of the program's Get.
-/
import Derived.Test.YtoeknbogaclfdaaZTagParse
namespace Go.Proofs.Ytoeknbogaclfdaa
open Go.RowKit
set_option linter.unusedVariables false
set_option linter.unusedSimpArgs false
set_option linter.unnecessarySimpa false
set_option maxRecDepth 100000

theorem get_none {b : List UInt8} (h : parseL b = none) : getL b = none := by unfold getL; rw [h]
theorem get_wrong {b : List UInt8} {l : List Tg} (h : parseL b = some l) (hr : rightL l = false) : getL b = none := by
  unfold getL
  rw [h]
  simp [hr]
theorem get_other {b : List UInt8} {l : List Tg} (h : parseL b = some l) (hr : (putL l == b) = false) : getL b = none := by
  unfold getL
  rw [h]
  simp only
  rw [if_neg]
  rintro ⟨_, e⟩
  rw [e] at hr
  simp at hr
theorem get_yes {b : List UInt8} {l : List Tg} (h : parseL b = some l) (hr : rightL l = true) (he : (putL l == b) = true) : getL b = some l := by
  unfold getL
  rw [h]
  have he := eq_of_beq he
  simp [hr, he]
set_option maxHeartbeats 1000000 in
theorem chain_Get {A : Option Addr} {n c : Nat} {b : List UInt8} {w : World} (hb : Sl w A n c b) {o : Option (List Tg)} (ho : Hid (getL b = o)) :
    Calls Try.prog 106 #[.slice A n c] w fun e w' => ∃ A' n' c', e = .returned (.tuple #[.slice A' n' c', .int .i64 (if o.isSome then 0 else 2)]) ∧ OwnL TTg 4 tgR w' w.heap.size A' n' c' (o.getD []) ∧ Ext w w' := by
  obtain ⟨q, hq⟩ : ∃ q, parseL b = q := ⟨_, rfl⟩
  have HQ := Lib.hid hq
  have ho1 := ho.out
  clear ho
  cases q with
  | none =>
    rw [get_none hq] at ho1
    subst ho1
    clear hq
    go_enter Try.func106, Try.ntmps106
    go_wp2_with fail
    refine (chain_parse hb HQ).mono ?_
    rintro e w1 ⟨A1, n1, c1, rfl, h1, hx1⟩
    go_wp2_with fail
    go_ret2
    exact ⟨_, _, _, rfl, OwnL.nil _ _ _ _, hx1⟩
  | some l =>
    obtain ⟨r, hr⟩ : ∃ r, rightL l = r := ⟨_, rfl⟩
    have HR := Lib.hid hr
    obtain ⟨L, hL⟩ : ∃ L, putR l r = L := ⟨_, rfl⟩
    have HL := Lib.hid hL
    cases r with
    | false =>
      rw [get_wrong hq hr] at ho1
      subst ho1
      clear hq hr hL
      go_enter Try.func106, Try.ntmps106
      go_wp2_with fail
      refine (chain_parse hb HQ).mono ?_
      rintro e w1 ⟨A1, n1, c1, rfl, h1, hx1⟩
      go_wp2_with fail
      refine (chain_Put h1.lst HR HL).mono ?_
      rintro e w2 ⟨A2, n2, c2, rfl, h2, hx2⟩
      rw [show (if false = true then (0 : Int) else 1) = 1 from rfl]
      go_wp2_with fail
      go_ret2
      exact ⟨_, _, _, rfl, OwnL.nil _ _ _ _, hx1.trans hx2⟩
    | true =>
      obtain rfl : putL l = L := hL
      obtain ⟨z, hz⟩ : ∃ z, (putL l == b) = z := ⟨_, rfl⟩
      have HZ := Lib.hid hz
      cases z with
      | false =>
        rw [get_other hq hz] at ho1
        subst ho1
        clear hq hr hz
        go_enter Try.func106, Try.ntmps106
        go_wp2_with fail
        refine (chain_parse hb HQ).mono ?_
        rintro e w1 ⟨A1, n1, c1, rfl, h1, hx1⟩
        go_wp2_with fail
        refine (chain_Put h1.lst HR HL).mono ?_
        rintro e w2 ⟨A2, n2, c2, rfl, h2, hx2⟩
        rw [show (if true = true then (0 : Int) else 1) = 0 from rfl]
        go_wp2_with fail
        refine (bytes_Equal A2 n2 c2 _ A n c b _ h2.sl (hb.ext (hx1.trans hx2))).mono ?_
        rintro e w3 ⟨rfl, rfl⟩
        rw [HZ.out]
        go_wp2_with fail
        go_ret2
        exact ⟨_, _, _, rfl, OwnL.nil _ _ _ _, hx1.trans hx2⟩
      | true =>
        rw [get_yes hq hr hz] at ho1
        subst ho1
        clear hq hr hz
        go_enter Try.func106, Try.ntmps106
        go_wp2_with fail
        refine (chain_parse hb HQ).mono ?_
        rintro e w1 ⟨A1, n1, c1, rfl, h1, hx1⟩
        go_wp2_with fail
        refine (chain_Put h1.lst HR HL).mono ?_
        rintro e w2 ⟨A2, n2, c2, rfl, h2, hx2⟩
        rw [show (if true = true then (0 : Int) else 1) = 0 from rfl]
        go_wp2_with fail
        refine (bytes_Equal A2 n2 c2 _ A n c b _ h2.sl (hb.ext (hx1.trans hx2))).mono ?_
        rintro e w3 ⟨rfl, rfl⟩
        rw [HZ.out]
        go_wp2_with fail
        go_ret2
        exact ⟨_, _, _, rfl, h1.ext tg_rep hx2, hx1.trans hx2⟩
end Go.Proofs.Ytoeknbogaclfdaa
