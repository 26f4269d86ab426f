/-
  The walk of one statement of chapter 23.
-/
import Derived.Test.YtkoknleopmlhcaaJudge
import Derived.Test.YtkoknleopmlhcaaMore
import Derived.Test.YtkoknleopmlhcaaSameEn
import Derived.Test.YtkoknleopmlhcaaOpenI
namespace Go.Proofs.Ytkoknleopmlhcaa
open Go.RowKit
set_option linter.unusedVariables false
set_option linter.unusedSimpArgs false
set_option linter.unnecessarySimpa false
set_option maxRecDepth 100000

def fewB (xs : List En) : Bool := decide ((∀ x ∈ xs, x.d.length ≤ 120) ∧ xs.length ≤ 40)
theorem few_no {xs : List En} {k : Nat} {x : En} (hx : xs[k]? = some x) (h : ¬ x.d.length ≤ 120) : fewB xs = false := by
  unfold fewB
  rw [decide_eq_false_iff_not]
  intro hc
  exact h (hc.1 x (List.mem_of_getElem? hx))
theorem few_step {xs : List En} {k : Nat} {x : En} (hx : xs[k]? = some x) (h : x.d.length ≤ 120) (ht : ∀ y ∈ xs.take k, y.d.length ≤ 120) : ∀ y ∈ xs.take (k + 1), y.d.length ≤ 120 := by
  intro y hy
  rw [List.take_add_one, hx] at hy
  rcases List.mem_append.1 hy with hy | hy
  · exact ht y hy
  · simp at hy; subst hy; exact h
set_option maxHeartbeats 1000000 in
theorem law23_few {A : Option Addr} {n c : Nat} {xs : List En} {w : World} (l1 : Lst 3 enR w A n c xs) {r : Bool} (hr : Hid (fewB xs = r)) :
    Calls Try.prog 44 #[.slice A n c] w fun e w' => e = .returned (.bool r) ∧ Ext w w' := by
  have h63 := l1.n63
  go_enter Try.func44, Try.ntmps44
  go_wp2_with fail
  go_loopw [3] (fun i wr => ∃ k : Nat, k ≤ n ∧ i = .int .i64 k ∧ Hid (∀ y ∈ xs.take k, y.d.length ≤ 120) ∧ Ext w wr) (fun i _ => n - (intOf i).toNat)
  case atStart => exact ⟨0, by omega, rfl, (by unfold Hid; simp), Ext.refl _⟩
  case round =>
    obtain ⟨k, hk, rfl, hrk, hxr⟩ := hrel
    by_cases hlt : k < n
    · obtain ⟨ga, oa, x, cs, rfl, hx, ⟨Aa, na, ca, rfl, sa0⟩, ha⟩ := l1.at2 en_rep (by omega) hlt
      have a2 := hxr.cell (ha 2 _ rfl)
      have hna := sa0.len
      have hn63 := sa0.n63
      by_cases hd : na ≤ 120
      · have HN := Lib.hid (few_step hx (by rw [hna]; exact hd) hrk.out)
        clear ha hx hrk hna sa0
        go_wp2_with fail
        go_roundw
        case rel => exact ⟨k + 1, by omega, by go_num, HN, hxr⟩
        case measure => simp [intOf]; omega
      · obtain rfl : r = false := by rw [← hr.out]; exact few_no hx (by rw [hna]; exact hd)
        clear ha hx hrk hna sa0
        go_wp2_with fail
        go_ret
        exact ⟨rfl, hxr⟩
    · have hall := hrk.out
      rw [List.take_of_length_le (by rw [l1.len]; omega)] at hall
      obtain ⟨q, hq⟩ : ∃ q, decide (n ≤ 40) = q := ⟨_, rfl⟩
      have hrq : r = q := by
        rw [← hr.out, ← hq]
        unfold fewB
        rw [decide_eq_decide, l1.len]
        exact ⟨fun h => h.2, fun h => ⟨hall, h⟩⟩
      subst hrq
      clear hr hrk hall
      by_cases h40 : n ≤ 40
      · obtain rfl : r = true := by rw [← hq]; simpa using h40
        clear hq
        have q40 : decide ((n : Int) ≤ 40) = true := by simp; omega
        go_wp2_with fail
        go_ret
        exact ⟨rfl, hxr⟩
      · obtain rfl : r = false := by rw [← hq]; simpa using h40
        clear hq
        have q40 : decide ((n : Int) ≤ 40) = false := by simp; omega
        go_wp2_with fail
        go_ret
        exact ⟨rfl, hxr⟩
set_option maxHeartbeats 2000000 in
theorem law_VerdictTells (A : Option Addr) (n c : Nat) (xs : List Tg) (A' : Option Addr) (n' c' : Nat) (ys : List Tg) (en to : Int) (A2 : Option Addr) (n2 c2 : Nat) (bs : List En) (A3 : Option Addr) (n3 c3 : Nat) (ls : List En) (w : World) (h : Lst 4 tgR w A n c xs) (h' : Lst 4 tgR w A' n' c' ys) (he : Hid (-9223372036854775808 ≤ en ∧ en ≤ 9223372036854775807)) (h2 : Lst 3 enR w A2 n2 c2 bs) (h3 : Lst 3 enR w A3 n3 c3 ls) (hlb : ∀ x ∈ ls, enB x) :
    Calls Try.prog 13 #[.slice A n c, .slice A' n' c', .int .i64 en, .int .i64 to, .slice A2 n2 c2, .slice A3 n3 c3] w fun e w' => e = .returned (.bool true) ∧ Ext w w' := by
  have h63 := h.n63
  have h63' := h'.n63
  by_cases t1 : 50 < n
  · 
    go_enter Try.func13, Try.ntmps13
    go_wp2_with fail
    refine (law23_known _).mono ?_
    rintro e w2 ⟨rfl, hx1⟩
    go_wp2_with fail
    go_ret
    exact ⟨rfl, hx1⟩
  by_cases t2 : 50 < n'
  · 
    go_enter Try.func13, Try.ntmps13
    go_wp2_with fail
    refine (law23_known _).mono ?_
    rintro e w2 ⟨rfl, hx1⟩
    go_wp2_with fail
    go_ret
    exact ⟨rfl, hx1⟩
  obtain ⟨f1, hf1⟩ : ∃ q, fewB bs = q := ⟨_, rfl⟩
  obtain ⟨f2, hf2⟩ : ∃ q, fewB ls = q := ⟨_, rfl⟩
  have HF1 := Lib.hid hf1
  have HF2 := Lib.hid hf2
  cases f1 with
  | false =>
    clear hf1 hf2
    go_enter Try.func13, Try.ntmps13
    go_wp2_with fail
    refine (law23_few (h2) HF1).mono ?_
    rintro e w1 ⟨rfl, g1⟩
    go_wp2_with fail
    refine (law23_known _).mono ?_
    rintro e w2 ⟨rfl, hx1⟩
    go_wp2_with fail
    go_ret
    exact ⟨rfl, g1.trans hx1⟩
  | true =>
    cases f2 with
    | false =>
      clear hf1 hf2
      go_enter Try.func13, Try.ntmps13
      go_wp2_with fail
      refine (law23_few (h2) HF1).mono ?_
      rintro e w1 ⟨rfl, g1⟩
      go_wp2_with fail
      refine (law23_few (h3.ext en_rep g1) HF2).mono ?_
      rintro e w1 ⟨rfl, g2⟩
      go_wp2_with fail
      refine (law23_known _).mono ?_
      rintro e w2 ⟨rfl, hx1⟩
      go_wp2_with fail
      go_ret
      exact ⟨rfl, (g1.trans g2).trans hx1⟩
    | true =>
      have b2 := of_decide_eq_true hf1
      have b3 := of_decide_eq_true hf2
      rw [h2.len] at b2
      rw [h3.len] at b3
      have hn2 : n2 ≤ 40 := b2.2
      have hn3 : n3 ≤ 40 := b3.2
      have hb2 : ∀ x ∈ bs, x.d.length ≤ 1000 := fun x hx => Nat.le_trans (b2.1 x hx) (by decide)
      have hb3 : ∀ x ∈ ls, x.d.length ≤ 1000 := fun x hx => Nat.le_trans (b3.1 x hx) (by decide)
      obtain ⟨j, hj⟩ : ∃ q, judgeI xs en ys to = q := ⟨_, rfl⟩
      obtain ⟨R, hR⟩ : ∃ q, moreF ys en to bs ls = q := ⟨_, rfl⟩
      obtain ⟨rp, hrp⟩ : ∃ q, ripeL bs = q := ⟨_, rfl⟩
      have HJ := Lib.hid hj
      have HR := Lib.hid hR
      have HP := Lib.hid hrp
      clear hf1 hf2 hj hR hrp b2 b3
      go_enter Try.func13, Try.ntmps13
      go_wp2_with fail
      refine (law23_few (h2) HF1).mono ?_
      rintro e w1 ⟨rfl, g1⟩
      go_wp2_with fail
      refine (law23_few (h3.ext en_rep g1) HF2).mono ?_
      rintro e w1 ⟨rfl, g2⟩
      go_wp2_with fail
      replace g1 := g1.trans g2
      clear g2
      refine (verdict_Judge (h.ext tg_rep g1) (h'.ext tg_rep g1) HJ).mono ?_
      rintro e w1 ⟨rfl, g2⟩
      replace g1 := g1.trans g2
      clear g2
      go_wp2_with fail
      refine (ref_Judge (h.ext tg_rep g1) (h'.ext tg_rep g1) HJ).mono ?_
      rintro e w1 ⟨rfl, g2⟩
      replace g1 := g1.trans g2
      clear g2
      go_wp2_with fail
      refine (verdict_More (h2.ext en_rep g1) (h3.ext en_rep g1) (h'.ext tg_rep g1) (by omega) (by omega) hb2 hb3 hlb he HR).mono ?_
      rintro e w1 ⟨Ba, na, ca, rfl, la, g2⟩
      replace g1 := g1.trans g2
      clear g2
      go_wp2_with fail
      refine (ref_More (h2.ext en_rep g1) (h3.ext en_rep g1) (h'.ext tg_rep g1) (by omega) (by omega) hb3 HR).mono ?_
      rintro e w1 ⟨Bb, nb, cb, rfl, lb, g2⟩
      replace g1 := g1.trans g2
      have la2 := la.lst.ext en_rep g2
      clear g2
      go_wp2_with fail
      refine (ref_SameEntries la2 lb.lst).mono ?_
      rintro e w1 ⟨rfl, g2⟩
      rw [show sameEn R R = true by simp [sameEn]]
      replace g1 := g1.trans g2
      clear g2
      go_wp2_with fail
      refine (verdict_Ripe (h2.ext en_rep g1) (by omega) hb2 HP).mono ?_
      rintro e w1 ⟨rfl, g2⟩
      replace g1 := g1.trans g2
      clear g2
      go_wp2_with fail
      refine (ref_Ripe (h2.ext en_rep g1) (by omega) hb2 HP).mono ?_
      rintro e w1 ⟨rfl, g2⟩
      replace g1 := g1.trans g2
      clear g2
      go_wp2_with fail
      refine (law23_known _).mono ?_
      rintro e w2 ⟨rfl, hx1⟩
      go_wp2_with fail
      go_ret
      exact ⟨rfl, g1.trans hx1⟩
end Go.Proofs.Ytkoknleopmlhcaa
