/-
  Chapter 8: the bytes of a record: how many, and what turning one of them does. Plain lists, no program in sight.
-/
import Derived.Test.YtoeknbogaclfdaaZMkPlain
import Derived.Test.YtoeknbogaclfdaaZHdPut
import Derived.Test.YtoeknbogaclfdaaZHdGet
namespace Go.Proofs.Ytoeknbogaclfdaa
set_option linter.unusedVariables false

theorem varsL_lenB : ∀ l : List Int, l.length ≤ (varsL l).length ∧ (varsL l).length ≤ 9 * l.length
  | [] => by simp [varsL]
  | x :: xs => by
    have h1 := varsL_lenB xs
    have h2 := varl_length x.toNat
    have e : varsL (x :: xs) = varl x.toNat ++ varsL xs := by simp [varsL]
    rw [e, List.length_append, List.length_cons]
    omega
theorem mkBs_lenB {x : Mk} (h : fitM x) : (mkBs x).length ≤ 60 := by
  have h1 := varsL_lenB (mkNs x)
  have h2 := varl_length x.nm.size
  have h3 := h.2.2
  have h4 : (mkNs x).length = 3 := rfl
  have h5 : x.nm.data.toList.length = x.nm.size := rfl
  unfold mkBs
  rw [List.length_append, List.length_append, h5]
  omega
theorem mksBs_lenB : ∀ (l : List Mk), (∀ x ∈ l, fitM x) → (mksBs l).length ≤ 60 * l.length
  | [], _ => by simp [mksBs]
  | x :: xs, h => by
    have h1 := mksBs_lenB xs (fun y hy => h y (List.mem_cons_of_mem _ hy))
    have h2 := mkBs_lenB (h x (by simp))
    have e : mksBs (x :: xs) = mkBs x ++ mksBs xs := by simp [mksBs]
    rw [e, List.length_append, List.length_cons]
    omega
theorem putH_app (h : Hd) : putH h = bodyH h ++ le 4 (crcOf (bodyH h)) := rfl
theorem putH_len {h : Hd} (hr : rightH h = true) : 11 ≤ (putH h).length ∧ (putH h).length ≤ 2000 := by
  obtain ⟨_, hf, hl⟩ := right_bds hr
  have h1 := mksBs_lenB h.marks hf
  have h2 := varsL_lenB (hdNs h)
  have h3 := varl_length h.marks.length
  have h4 : (hdNs h).length = 6 := rfl
  rw [putH_app, List.length_append, le_length]
  unfold bodyH
  rw [List.length_append, List.length_append]
  omega
theorem putH_open (h : Hd) : crcOpen (putH h) = some (bodyH h) := crcOpen_put _
theorem set_xor0 (l : List UInt8) (j : Nat) (hj : j < l.length) : l.set j (l.getD j 0 ^^^ 0) = l := by
  rw [UInt8.xor_zero, List.getD_eq_getElem?_getD, List.getElem?_eq_getElem hj]
  simp
theorem putH_turned {h : Hd} (hr : rightH h = true) {j : Nat} (hj : j < (putH h).length) {x : UInt8} (hx : x ≠ 0) : crcOpen ((putH h).set j ((putH h).getD j 0 ^^^ x)) = none := by
  have hs : (putH h).drop ((putH h).length - 4) = le 4 (crcOf ((putH h).take ((putH h).length - 4))) := by
    have e : (putH h).length - 4 = (bodyH h).length := by rw [putH_app, List.length_append, le_length]; omega
    rw [e, putH_app, List.drop_left, List.take_left]
  have hl := putH_len hr
  have hu := unle_set_xor (putH h) j x hj
  rw [show (256 : Nat) ^ j = 2 ^ (8 * j) by rw [Nat.pow_mul]] at hu
  have hc := crcOpen_turned (by omega) hs (by simp) hu (by have := x.toNat_lt; omega) (by omega)
  rw [if_neg] at hc
  · exact hc
  · intro e
    exact hx (UInt8.toNat_inj.1 e)
theorem getH_turned {h : Hd} (hr : rightH h = true) {j : Nat} (hj : j < (putH h).length) {x : UInt8} (hx : x ≠ 0) : getH false ((putH h).set j ((putH h).getD j 0 ^^^ x)) = none := getH_open (putH_turned hr hj hx)
end Go.Proofs.Ytoeknbogaclfdaa
