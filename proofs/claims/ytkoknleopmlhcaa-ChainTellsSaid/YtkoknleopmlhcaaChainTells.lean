/-
  The walk of one statement of chapter 6.
-/
import Derived.Test.YtkoknleopmlhcaaTagKnown
import Derived.Test.YtkoknleopmlhcaaTagGetRef
import Derived.Test.YtkoknleopmlhcaaTagCut
import Derived.Test.YtkoknleopmlhcaaTagEq
import Derived.Test.YtkoknleopmlhcaaTagFork
namespace Go.Proofs.Ytkoknleopmlhcaa
open Go.RowKit
set_option linter.unusedVariables false
set_option linter.unusedSimpArgs false
set_option linter.unnecessarySimpa false
set_option maxRecDepth 100000

theorem sameT_refl (xs : List Tg) : sameT xs xs = true := by simp [sameT]
set_option maxHeartbeats 4000000 in
theorem law_ChainTells (A : Option Addr) (n c : Nat) (xs : List Tg) (A' : Option Addr) (n' c' : Nat) (ys : List Tg) (ae be s si : Int) (Ap : Option Addr) (np cp : Nat) (p : List UInt8) (w : World) (h : Lst 4 tgR w A n c xs) (h' : Lst 4 tgR w A' n' c' ys) (hp : Sl w Ap np cp p) :
    Calls Try.prog 12 #[.slice A n c, .slice A' n' c', .int .i64 ae, .int .i64 be, .int .i64 s, .int .i64 si, .slice Ap np cp] w fun e w' => e = .returned (.bool true) ∧ Ext w w' := by
  have h63 := h.n63
  have h63' := h'.n63
  have h63p := hp.n63
  by_cases t1 : 50 < n
  · skip
    go_enter Try.func12, Try.ntmps12
    go_wp2_with fail
    refine (law6_known _).mono ?_
    rintro e w2 ⟨rfl, hx1⟩
    go_wp2_with fail
    go_ret
    exact ⟨rfl, hx1⟩
  by_cases t2 : 50 < n'
  · skip
    go_enter Try.func12, Try.ntmps12
    go_wp2_with fail
    refine (law6_known _).mono ?_
    rintro e w2 ⟨rfl, hx1⟩
    go_wp2_with fail
    go_ret
    exact ⟨rfl, hx1⟩
  by_cases t3 : 300 < np
  · skip
    go_enter Try.func12, Try.ntmps12
    go_wp2_with fail
    refine (law6_known _).mono ?_
    rintro e w2 ⟨rfl, hx1⟩
    go_wp2_with fail
    go_ret
    exact ⟨rfl, hx1⟩
  obtain ⟨r, hr⟩ : ∃ q, rightL xs = q := ⟨_, rfl⟩
  obtain ⟨L, hL⟩ : ∃ q, putR xs r = q := ⟨_, rfl⟩
  obtain ⟨o, ho⟩ : ∃ q, getL p = q := ⟨_, rfl⟩
  obtain ⟨v, hv⟩ : ∃ q, (if r = true then (0 : Int) else 1) = q := ⟨_, rfl⟩
  obtain ⟨u, hu⟩ : ∃ q, (if o.isSome = true then (0 : Int) else 2) = q := ⟨_, rfl⟩
  obtain ⟨G, hG⟩ : ∃ q, o.getD [] = q := ⟨_, rfl⟩
  obtain ⟨nx, hnx⟩ : ∃ q, nextI xs si = q := ⟨_, rfl⟩
  obtain ⟨f, hf⟩ : ∃ q, ofI xs s 0 = q := ⟨_, rfl⟩
  obtain ⟨C, hC⟩ : ∃ q, cutL xs s = q := ⟨_, rfl⟩
  obtain ⟨b, hb⟩ : ∃ q, beginsB xs ae ys be = q := ⟨_, rfl⟩
  obtain ⟨k, hk⟩ : ∃ q, compareI xs ae ys be = q := ⟨_, rfl⟩
  obtain ⟨z, hz⟩ : ∃ q, forkI xs ae ys be = q := ⟨_, rfl⟩
  obtain ⟨m, hm⟩ : ∃ q, sameT xs ys = q := ⟨_, rfl⟩
  have HR := Lib.hid hr
  have HL := Lib.hid hL
  have HO := Lib.hid ho
  have HV := Lib.hid hv
  have HU := Lib.hid hu
  have HG := Lib.hid hG
  have HN := Lib.hid hnx
  have HF := Lib.hid hf
  have HC := Lib.hid hC
  have HB := Lib.hid hb
  have HK := Lib.hid hk
  have HZ := Lib.hid hz
  have HM := Lib.hid hm
  have HGG := Lib.hid (sameT_refl G)
  have HCC := Lib.hid (sameT_refl C)
  have HXX := Lib.hid (sameT_refl xs)
  clear hr hL ho hv hu hG hnx hf hC hb hk hz hm
  have g1 : Ext w w := Ext.refl w
  go_enter Try.func12, Try.ntmps12
  go_wp2_with fail
  refine (chain_Put h HR HL).mono ?_
  rintro e w1 ⟨A1, n1, c1, rfl, h1, g2⟩
  rw [HV.out]
  replace g1 := g1.trans g2
  clear g2
  go_wp2_with fail
  refine (ref_PutChain (h.ext tg_rep g1) HR HL).mono ?_
  rintro e w2 ⟨A2, n2, c2, rfl, h2, g2⟩
  rw [HV.out]
  replace h1 := h1.ext g2
  replace g1 := g1.trans g2
  clear g2
  go_wp2_with fail
  refine (chain_Get (hp.ext g1) HO).mono ?_
  rintro e w3 ⟨A3, n3, c3, rfl, h3, g2⟩
  rw [HU.out]
  rw [HG.out] at h3
  replace h1 := h1.ext g2
  replace h2 := h2.ext g2
  replace g1 := g1.trans g2
  clear g2
  go_wp2_with fail
  refine (ref_GetChain (hp.ext g1) (by omega) HO).mono ?_
  rintro e w4 ⟨A4, n4, c4, rfl, h4, g2⟩
  rw [HU.out]
  rw [HG.out] at h4
  replace h1 := h1.ext g2
  replace h2 := h2.ext g2
  replace h3 := h3.ext tg_rep g2
  replace g1 := g1.trans g2
  clear g2
  have x1 := run_text_u8 h1.sl
  have x2 := run_text_u8 h2.sl
  go_wp2_with fail
  refine (ref_SameTags h3.lst h4.lst HGG).mono ?_
  rintro e wn ⟨rfl, g2⟩
  replace g1 := g1.trans g2
  clear g2 x1 x2 h1 h2 h3 h4
  go_wp2_with fail
  refine (chain_Right (h.ext tg_rep g1) HR).mono ?_
  rintro e wn ⟨rfl, g2⟩
  replace g1 := g1.trans g2
  clear g2
  go_wp2_with fail
  refine (ref_RightChain (h.ext tg_rep g1) HR).mono ?_
  rintro e wn ⟨rfl, g2⟩
  replace g1 := g1.trans g2
  clear g2
  go_wp2_with fail
  refine (chain_Next (h.ext tg_rep g1) HN).mono ?_
  rintro e wn ⟨rfl, g2⟩
  replace g1 := g1.trans g2
  clear g2
  go_wp2_with fail
  refine (ref_NextID (h.ext tg_rep g1) HN).mono ?_
  rintro e wn ⟨rfl, g2⟩
  replace g1 := g1.trans g2
  clear g2
  go_wp2_with fail
  refine (chain_Of (h.ext tg_rep g1) HF).mono ?_
  rintro e wn ⟨rfl, g2⟩
  replace g1 := g1.trans g2
  clear g2
  go_wp2_with fail
  refine (ref_TagOf (h.ext tg_rep g1) HF).mono ?_
  rintro e wn ⟨rfl, g2⟩
  replace g1 := g1.trans g2
  clear g2
  go_wp2_with fail
  refine (chain_Cut (h.ext tg_rep g1) (by omega) HC).mono ?_
  rintro e w1 ⟨A1, n1, c1, rfl, h1, g2⟩
  replace g1 := g1.trans g2
  clear g2
  go_wp2_with fail
  refine (ref_CutChain (h.ext tg_rep g1) (by omega) HC).mono ?_
  rintro e w2 ⟨A2, n2, c2, rfl, h2, g2⟩
  replace h1 := h1.ext tg_rep g2
  replace g1 := g1.trans g2
  clear g2
  go_wp2_with fail
  refine (ref_SameTags h1.lst h2.lst HCC).mono ?_
  rintro e wn ⟨rfl, g2⟩
  replace g1 := g1.trans g2
  clear g2
  go_wp2_with fail
  clear h1 h2
  refine (chain_Begins (h.ext tg_rep g1) (h'.ext tg_rep g1) HB).mono ?_
  rintro e wn ⟨rfl, g2⟩
  replace g1 := g1.trans g2
  clear g2
  go_wp2_with fail
  refine (ref_Begins (h.ext tg_rep g1) (h'.ext tg_rep g1) HB).mono ?_
  rintro e wn ⟨rfl, g2⟩
  replace g1 := g1.trans g2
  clear g2
  go_wp2_with fail
  refine (chain_Compare (h.ext tg_rep g1) (h'.ext tg_rep g1) HK).mono ?_
  rintro e wn ⟨rfl, g2⟩
  replace g1 := g1.trans g2
  clear g2
  go_wp2_with fail
  refine (ref_Compare (h.ext tg_rep g1) (h'.ext tg_rep g1) HK).mono ?_
  rintro e wn ⟨rfl, g2⟩
  replace g1 := g1.trans g2
  clear g2
  go_wp2_with fail
  refine (chain_Fork (h.ext tg_rep g1) (h'.ext tg_rep g1) HZ).mono ?_
  rintro e wn ⟨rfl, g2⟩
  replace g1 := g1.trans g2
  clear g2
  go_wp2_with fail
  refine (ref_Fork (h.ext tg_rep g1) (h'.ext tg_rep g1) HZ).mono ?_
  rintro e wn ⟨rfl, g2⟩
  replace g1 := g1.trans g2
  clear g2
  go_wp2_with fail
  refine (chain_Same (h.ext tg_rep g1) (h'.ext tg_rep g1) HM).mono ?_
  rintro e wn ⟨rfl, g2⟩
  replace g1 := g1.trans g2
  clear g2
  go_wp2_with fail
  refine (ref_SameTags (h.ext tg_rep g1) (h'.ext tg_rep g1) HM).mono ?_
  rintro e wn ⟨rfl, g2⟩
  replace g1 := g1.trans g2
  clear g2
  go_wp2_with fail
  refine (chain_Same (h.ext tg_rep g1) (h.ext tg_rep g1) HXX).mono ?_
  rintro e wn ⟨rfl, g2⟩
  replace g1 := g1.trans g2
  clear g2
  go_wp2_with fail
  refine (law6_known _).mono ?_
  rintro e wn ⟨rfl, g2⟩
  replace g1 := g1.trans g2
  clear g2
  go_wp2_with fail
  go_ret
  exact ⟨rfl, g1⟩
end Go.Proofs.Ytkoknleopmlhcaa
