/-
  Chapter 23: which entries go on behind others, and how many are ripe: plain functions. Nothing here names a program.
-/
import Derived.Test.YtkoknleopmlhcaaTagOf
import Derived.Test.YtkoknleopmlhcaaRightN
import Derived.Test.YtkoknleopmlhcaaEvPlain
import Derived.Test.YtkoknleopmlhcaaInts
namespace Go.Proofs.Ytkoknleopmlhcaa
open Go.RowKit
set_option linter.unusedVariables false

/-- may an entry be the one of a number -/
def goB (tags : List Tg) (to s : Int) (x : En) : Bool := decide (x.s = s ∧ rightN x.t x.s x.d.length = true ∧ s ≤ to ∧ x.t = ofI tags s 0 ∧ evOk x.d = true)
theorem goB_iff {tags : List Tg} {to s : Int} {x : En} : goB tags to s x = true ↔ x.s = s ∧ rightN x.t x.s x.d.length = true ∧ s ≤ to ∧ x.t = ofI tags s 0 ∧ evOk x.d = true := by unfold goB; simp
def moreF (tags : List Tg) (e to : Int) : List En → List En → List En
  | out, [] => out
  | out, x :: xs => if out.length < 18 ∧ goB tags to (e + out.length + 1) x = true then moreF tags e to (out ++ [x]) xs else out
theorem more_yes {tags : List Tg} {e to : Int} {out xs R : List En} {k : Nat} {x : En} (h : moreF tags e to out (xs.drop k) = R) (hx : xs[k]? = some x) (h18 : out.length < 18) (hg : goB tags to (e + out.length + 1) x = true) : moreF tags e to (out ++ [x]) (xs.drop (k + 1)) = R := by
  rw [drop_step hx, moreF, if_pos ⟨h18, hg⟩] at h
  exact h
theorem more_full {tags : List Tg} {e to : Int} {out xs R : List En} {k : Nat} (h : moreF tags e to out (xs.drop k) = R) (h18 : ¬ out.length < 18) : R = out := by
  cases hd : xs.drop k with
  | nil => rw [hd, moreF] at h; exact h.symm
  | cons x r => rw [hd, moreF, if_neg (fun hc => h18 hc.1)] at h; exact h.symm
theorem more_no {tags : List Tg} {e to : Int} {out xs R : List En} {k : Nat} {x : En} (h : moreF tags e to out (xs.drop k) = R) (hx : xs[k]? = some x) (hg : goB tags to (e + out.length + 1) x = false) : R = out := by
  rw [drop_step hx, moreF, if_neg (fun hc => by rw [hg] at hc; cases hc.2)] at h
  exact h.symm
theorem more_end {tags : List Tg} {e to : Int} {out xs R : List En} {k : Nat} (h : moreF tags e to out (xs.drop k) = R) (hk : xs.length ≤ k) : R = out := by
  rw [List.drop_of_length_le hk, moreF] at h
  exact h.symm
/-- a flush -/
def isF (x : En) : Bool := evOk x.d && decide (parK x.d = 8)
def ripeF : List En → Nat → Nat → Nat
  | [], _, n => n
  | x :: xs, k, n => ripeF xs (k + 1) (if isF x then k + 1 else n)
def ripeL (xs : List En) : Nat := ripeF xs 0 0
theorem ripe_yes {xs : List En} {k n r : Nat} {x : En} (h : ripeF (xs.drop k) k n = r) (hx : xs[k]? = some x) (hf : isF x = true) : ripeF (xs.drop (k + 1)) (k + 1) (k + 1) = r := by
  rw [drop_step hx, ripeF, if_pos hf] at h
  exact h
theorem ripe_no {xs : List En} {k n r : Nat} {x : En} (h : ripeF (xs.drop k) k n = r) (hx : xs[k]? = some x) (hf : isF x = false) : ripeF (xs.drop (k + 1)) (k + 1) n = r := by
  rw [drop_step hx, ripeF, if_neg (by rw [hf]; simp)] at h
  exact h
theorem ripe_end {xs : List En} {k n r : Nat} (h : ripeF (xs.drop k) k n = r) (hk : xs.length ≤ k) : n = r := by
  rw [List.drop_of_length_le hk, ripeF] at h
  exact h
theorem goB_tag {x : En} {tags : List Tg} {to s : Int} (h1 : x.s = s) (h2 : rightN x.t x.s x.d.length = true) (h3 : s ≤ to) (h4 : x.t = ofI tags s 0) {r : Bool} (hr : evOk x.d = r) : goB tags to s x = r := by
  cases r with
  | true => exact goB_iff.2 ⟨h1, h2, h3, h4, hr⟩
  | false =>
    cases hg : goB tags to s x with
    | false => rfl
    | true => have := (goB_iff.1 hg).2.2.2.2; rw [hr] at this; cases this
theorem goB_no {x : En} {tags : List Tg} {to s : Int} (h : ¬ (x.s = s ∧ rightN x.t x.s x.d.length = true ∧ s ≤ to ∧ x.t = ofI tags s 0)) : goB tags to s x = false := by
  cases hg : goB tags to s x with
  | false => rfl
  | true =>
    obtain ⟨h1, h2, h3, h4, _⟩ := goB_iff.1 hg
    exact absurd ⟨h1, h2, h3, h4⟩ h
end Go.Proofs.Ytkoknleopmlhcaa
