/-
  Frames one behind the other, cut off: what is taken. Plain.
-/
import Derived.Test.YtcchlkialgjamaaFrameRows
namespace Go.Proofs.Ytcchlkialgjamaa
open Go.RowKit
set_option linter.unusedVariables false
set_option maxRecDepth 100000

def enOk (x : En) : Bool := rightN x.t x.s x.d.length
def endAt (xs : List En) (j : Nat) : Nat := (rowL (xs.take j)).length
theorem layOf_eq {x : En} (h : enOk x = true) : layOf x = layE x.t.toNat x.s.toNat x.d := by
  unfold layOf layL
  unfold enOk at h
  rw [if_pos h]
theorem rowL_cons (x : En) (xs : List En) : rowL (x :: xs) = layOf x ++ rowL xs := rfl
theorem endAt_zero (xs : List En) : endAt xs 0 = 0 := rfl
theorem endAt_succ (x : En) (xs : List En) (j : Nat) : endAt (x :: xs) (j + 1) = (layOf x).length + endAt xs j := by
  unfold endAt
  rw [List.take_succ_cons, rowL_cons, List.length_append]
theorem tkN_cut {r : List UInt8} {k : Nat} (h : 18 ≤ k) : tkN (r.take k) = tkN r := by
  unfold tkN
  rw [List.drop_take, List.take_take]
  congr 2
  omega
/-- a frame that is cut off isn't taken -/
theorem cut_frame {t s : Nat} {l r : List UInt8} (h : rightN t s l.length = true) {k : Nat} (hk : k < (layE t s l).length) : tkE ((layE t s l ++ r).take k) ≠ 0 := by
  intro e
  have h1 := (tkE_ok.1 e).1
  have h2 := (lay_take e).2.2.2
  rw [List.length_take] at h1 h2
  rw [tkN_cut (by omega), (take_lay t s l r h).2.2.2.1] at h2
  rw [layE_length] at hk
  omega
theorem all_cut : ∀ (xs : List En) (k j : Nat), (∀ x ∈ xs, enOk x = true) → j ≤ xs.length → endAt xs j ≤ k → (j < xs.length → k < endAt xs (j + 1)) →
    enL (allL ((rowL xs).take k)).1 = xs.take j ∧ (allL ((rowL xs).take k)).2 = endAt xs j
  | [], k, j, _, hj, _, _ => by
    obtain rfl : j = 0 := by simpa using hj
    simp [rowL, endAt, allL_nil, enL]
  | x :: xs, k, 0, hr, _, _, hlt => by
    have h1 := hlt (by simp)
    have hx := hr x (by simp)
    rw [endAt_succ, endAt_zero, layOf_eq hx] at h1
    have hx' : rightN x.t.toNat x.s.toNat x.d.length = true := by
      have := rightN_iff.1 hx
      exact rightN_iff.2 (by omega)
    have := cut_frame (r := rowL xs) hx' (k := k) (by omega)
    rw [rowL_cons, layOf_eq hx, allL_no this]
    simp [enL, endAt_zero]
  | x :: xs, k, j + 1, hr, hj, hle, hlt => by
    have hx := hr x (by simp)
    have hrx := rightN_iff.1 hx
    have hx' : rightN x.t.toNat x.s.toNat x.d.length = true := rightN_iff.2 (by omega)
    rw [endAt_succ] at hle
    have ih := all_cut xs (k - (layOf x).length) j (fun y hy => hr y (by simp [hy])) (by simpa using hj) (by omega) (fun h => by
      have := hlt (by simpa using h)
      rw [endAt_succ] at this
      omega)
    have hL := layOf_eq hx
    rw [hL] at ih hle
    have e : (rowL (x :: xs)).take k = layE x.t.toNat x.s.toNat x.d ++ (rowL xs).take (k - (layE x.t.toNat x.s.toNat x.d).length) := by
      rw [rowL_cons, hL, List.take_append, List.take_of_length_le (by omega)]
    rw [e]
    have ht := take_lay x.t.toNat x.s.toNat x.d ((rowL xs).take (k - (layE x.t.toNat x.s.toNat x.d).length)) hx'
    have hd : (layE x.t.toNat x.s.toNat x.d ++ (rowL xs).take (k - (layE x.t.toNat x.s.toNat x.d).length)).drop (x.d.length + 22) = (rowL xs).take (k - (layE x.t.toNat x.s.toNat x.d).length) := by
      rw [show x.d.length + 22 = (layE x.t.toNat x.s.toNat x.d).length by rw [layE_length]; omega, List.drop_left]
    rw [allL_yes ht.1, ht.2.2.2.1, hd]
    refine ⟨?_, ?_⟩
    · rw [List.take_succ_cons, ← ih.1]
      unfold enL
      rw [List.map_cons]
      congr 1
      unfold frOf
      rw [ht.2.1, ht.2.2.1, ht.2.2.2.2]
      obtain ⟨t, s, d⟩ := x
      simp only at hrx
      simp
      omega
    · have h2 := ih.2
      have h3 := layE_length x.t.toNat x.s.toNat x.d
      rw [endAt_succ, hL]
      simp only [h2]
      omega
end Go.Proofs.Ytcchlkialgjamaa
