/-
  Events in bytes, as lists: what is put, what is got, and that the one is the other's way back. No program in sight.
-/
import Derived.Test.YtcklkjklepmabaaZVarBack
import Derived.Test.YtcklkjklepmabaaZEvRef
namespace Go.Proofs.Ytcklkjklepmabaa
set_option linter.unusedVariables false
set_option linter.unusedSimpArgs false

def putE (k o m : Int) (l : List UInt8) (s : ByteArray) : List UInt8 :=
  UInt8.ofNat k.toNat :: (if k = 1 then varl o.toNat ++ l else if k = 2 ∨ k = 3 then varl o.toNat ++ varl m.toNat else if k = 4 then varl m.toNat else if k = 5 ∨ k = 6 ∨ k = 7 then s.data.toList else [])

def parK (b : List UInt8) : Int := ((b.getD 0 0).toNat : Int)
def parO (b : List UInt8) : Int := if parK b = 1 ∨ parK b = 2 ∨ parK b = 3 then gvA b 1 else 0
def parM (b : List UInt8) : Int := if parK b = 2 ∨ parK b = 3 then gvA b (gvB b 1) else if parK b = 4 then gvA b 1 else 0
def parL (b : List UInt8) : List UInt8 := if parK b = 1 then b.drop (gvB b 1).toNat else []
def parS (b : List UInt8) : ByteArray := if parK b = 5 ∨ parK b = 6 ∨ parK b = 7 then ⟨(b.drop 1).toArray⟩ else ⟨#[]⟩
def evOk (b : List UInt8) : Bool := decide (1 ≤ b.length) && (rightE (parK b) (parO b) (parM b) (parL b).length (parS b) && (putE (parK b) (parO b) (parM b) (parL b) (parS b) == b))

theorem empty_of {s : ByteArray} (h : s.toList.isEmpty = true) : s = ⟨#[]⟩ := by
  rw [ByteArray.toList_eq] at h
  cases s with | mk d => simp at h; simp [h]
theorem within_iff (a n : Int) : within a n = true ↔ 0 ≤ a ∧ 1 ≤ n ∧ n ≤ 512 ∧ a ≤ 512 - n := by unfold within; simp
theorem nameB_size {s : ByteArray} (h : nameB s = true) : 1 ≤ s.size ∧ s.size ≤ 12 := by
  unfold nameB at h
  simp only [Bool.and_eq_true, decide_eq_true_eq] at h
  exact h.1

/-- what an event that may be looks like -/
theorem right_cases {k o m : Int} {n : Nat} {s : ByteArray} (h : rightE k o m n s = true) :
    (k = 1 ∧ n ≤ 64 ∧ (0 ≤ o ∧ 1 ≤ (n : Int) ∧ (n : Int) ≤ 512 ∧ o ≤ 512 - n) ∧ m = 0 ∧ s = ⟨#[]⟩) ∨
    ((k = 2 ∨ k = 3) ∧ n = 0 ∧ (0 ≤ o ∧ 1 ≤ m ∧ m ≤ 512 ∧ o ≤ 512 - m) ∧ s = ⟨#[]⟩) ∨
    (k = 4 ∧ n = 0 ∧ o = 0 ∧ 0 ≤ m ∧ m ≤ 512 ∧ s = ⟨#[]⟩) ∨
    ((k = 5 ∨ k = 6 ∨ k = 7) ∧ n = 0 ∧ o = 0 ∧ m = 0 ∧ nameB s = true) ∨
    (k = 8 ∧ n = 0 ∧ o = 0 ∧ m = 0 ∧ s = ⟨#[]⟩) := by
  unfold rightE at h
  by_cases k1 : k = 1
  · rw [if_pos k1] at h
    simp only [Bool.and_eq_true, decide_eq_true_eq, within_iff] at h
    exact .inl ⟨k1, h.1.1.1, h.1.1.2, h.1.2, empty_of h.2⟩
  rw [if_neg k1] at h
  by_cases k2 : k = 2 ∨ k = 3
  · rw [if_pos k2] at h
    simp only [Bool.and_eq_true, decide_eq_true_eq, within_iff] at h
    exact .inr (.inl ⟨k2, h.1.1, h.1.2, empty_of h.2⟩)
  rw [if_neg k2] at h
  by_cases k4 : k = 4
  · rw [if_pos k4] at h
    simp only [Bool.and_eq_true, decide_eq_true_eq] at h
    exact .inr (.inr (.inl ⟨k4, h.1.1.1.1, h.1.1.1.2, h.1.1.2, h.1.2, empty_of h.2⟩))
  rw [if_neg k4] at h
  by_cases k5 : k = 5 ∨ k = 6 ∨ k = 7
  · rw [if_pos k5] at h
    simp only [Bool.and_eq_true, decide_eq_true_eq] at h
    exact .inr (.inr (.inr (.inl ⟨k5, h.1.1.1, h.1.1.2, h.1.2, h.2⟩)))
  rw [if_neg k5] at h
  by_cases k8 : k = 8
  · rw [if_pos k8] at h
    simp only [Bool.and_eq_true, decide_eq_true_eq] at h
    exact .inr (.inr (.inr (.inr ⟨k8, h.1.1.1, h.1.1.2, h.1.2, empty_of h.2⟩)))
  rw [if_neg k8] at h
  cases h

theorem put_len {k o m : Int} {l : List UInt8} {s : ByteArray} (h : rightE k o m l.length s = true) : 1 ≤ (putE k o m l s).length ∧ (putE k o m l s).length ≤ 90 := by
  have h1 := varl_length o.toNat
  have h2 := varl_length m.toNat
  rcases right_cases h with ⟨rfl, hn, _, _, _⟩ | ⟨hk, hn, _, _⟩ | ⟨rfl, hn, _⟩ | ⟨hk, hn, _, _, hs⟩ | ⟨rfl, _⟩
  · simp [putE]; omega
  · unfold putE; rw [if_neg (by omega), if_pos hk]; simp; omega
  · simp [putE]; omega
  · have := nameB_size hs
    unfold putE; rw [if_neg (by omega), if_neg (by omega), if_neg (by omega), if_pos hk]
    have e : s.data.toList.length = s.size := by simp
    simp only [List.length_cons, e]; omega
  · simp [putE]

theorem gvN_one {c : UInt8} {k : Nat} {r : List UInt8} (hk : k < 9223372036854775808) : gvN (c :: (varl k ++ r)) 1 = some (k, (varl k).length) :=
  gv_there' (a := [c]) (r := r) (by simp) (by simp) hk
theorem gvA_one {c : UInt8} {k : Nat} {r : List UInt8} (hk : k < 9223372036854775808) : gvA (c :: (varl k ++ r)) 1 = (k : Int) ∧ gvB (c :: (varl k ++ r)) 1 = 1 + ((varl k).length : Int) ∧ gvC (c :: (varl k ++ r)) 1 = true := by
  unfold gvA gvB gvC
  rw [gvN_one hk]
  exact ⟨rfl, rfl, rfl⟩
theorem gvA_two {c : UInt8} {k j : Nat} (hj : j < 9223372036854775808) : gvA (c :: (varl k ++ varl j)) (1 + ((varl k).length : Int)) = (j : Int) ∧ gvC (c :: (varl k ++ varl j)) (1 + ((varl k).length : Int)) = true := by
  have := gv_there' (b := c :: (varl k ++ varl j)) (a := c :: varl k) (r := []) (k := j) (i := 1 + ((varl k).length : Int)) (by simp) (by simp; omega) hj
  unfold gvA gvC
  rw [this]
  exact ⟨rfl, rfl⟩

theorem getD_cons (c : UInt8) (r : List UInt8) : (c :: r).getD 0 0 = c := rfl
theorem par_kind {k : Int} (h0 : 0 ≤ k) (h1 : k ≤ 255) (r : List UInt8) : parK (UInt8.ofNat k.toNat :: r) = k := by
  unfold parK
  rw [getD_cons]
  simp
  omega
theorem parK_put {k o m : Int} {l : List UInt8} {s : ByteArray} (h : rightE k o m l.length s = true) : parK (putE k o m l s) = k := by
  refine par_kind ?_ ?_ _ <;> rcases right_cases h with h | h | h | h | h <;> omega

/-- what is put is got -/
theorem par_put {k o m : Int} {l : List UInt8} {s : ByteArray} (h : rightE k o m l.length s = true) {b : List UInt8} (hb : putE k o m l s = b) :
    parK b = k ∧ parO b = o ∧ parM b = m ∧ parL b = l ∧ parS b = s ∧ ((k = 1 ∨ k = 2 ∨ k = 3 ∨ k = 4) → gvC b 1 = true) ∧ ((k = 2 ∨ k = 3) → gvC b (gvB b 1) = true) := by
  have hK : parK b = k := by rw [← hb]; exact parK_put h
  refine ⟨hK, ?_⟩
  unfold parO parM parL parS
  simp only [hK]
  rcases right_cases h with ⟨rfl, hn, ho, rfl, rfl⟩ | ⟨hk, hn, ho, rfl⟩ | ⟨rfl, hn, rfl, hm0, hm1, rfl⟩ | ⟨hk, hn, rfl, rfl, hs⟩ | ⟨rfl, hn, rfl, rfl, rfl⟩
  · have e : b = UInt8.ofNat (1 : Int).toNat :: (varl o.toNat ++ l) := by rw [← hb]; simp [putE]
    obtain ⟨g1, g2, g3⟩ := gvA_one (c := UInt8.ofNat (1 : Int).toNat) (k := o.toNat) (r := l) (by omega)
    rw [← e] at g1 g2 g3
    refine ⟨?_, by simp, ?_, by simp, fun _ => g3, fun h => by omega⟩
    · rw [if_pos (by omega), g1]; omega
    · rw [if_pos rfl, g2, e, show (1 + ((varl o.toNat).length : Int)).toNat = (varl o.toNat).length + 1 by omega, List.drop_succ_cons, List.drop_left]
  · have hl : l = [] := List.eq_nil_of_length_eq_zero hn
    have e : b = UInt8.ofNat k.toNat :: (varl o.toNat ++ varl m.toNat) := by rw [← hb]; unfold putE; rw [if_neg (by omega), if_pos hk]
    obtain ⟨g1, g2, g3⟩ := gvA_one (c := UInt8.ofNat k.toNat) (k := o.toNat) (r := varl m.toNat) (by omega)
    obtain ⟨g4, g5⟩ := gvA_two (c := UInt8.ofNat k.toNat) (k := o.toNat) (j := m.toNat) (by omega)
    rw [← e] at g1 g2 g3 g4 g5
    rw [g2, g1, g4, if_pos (by omega), if_pos hk, if_neg (by omega), if_neg (by omega), hl]
    exact ⟨by omega, by omega, rfl, rfl, fun _ => g3, fun _ => g5⟩
  · have hl : l = [] := List.eq_nil_of_length_eq_zero hn
    have e : b = UInt8.ofNat (4 : Int).toNat :: (varl m.toNat ++ []) := by rw [← hb]; simp [putE]
    obtain ⟨g1, g2, g3⟩ := gvA_one (c := UInt8.ofNat (4 : Int).toNat) (k := m.toNat) (r := []) (by omega)
    rw [← e] at g1 g2 g3
    rw [g1, hl]
    exact ⟨by simp, by simp; omega, by simp, by simp, fun _ => g3, fun h => by omega⟩
  · have hl : l = [] := List.eq_nil_of_length_eq_zero hn
    have e : b = UInt8.ofNat k.toNat :: s.data.toList := by rw [← hb]; unfold putE; rw [if_neg (by omega), if_neg (by omega), if_neg (by omega), if_pos hk]
    refine ⟨if_neg (by omega), ?_, ?_, ?_, fun h => by omega, fun h => by omega⟩
    · rw [if_neg (by omega), if_neg (by omega)]
    · rw [if_neg (by omega), hl]
    · rw [if_pos hk, e, List.drop_succ_cons, List.drop_zero]
  · have hl : l = [] := List.eq_nil_of_length_eq_zero hn
    subst hl
    exact ⟨by simp, by simp, by simp, by simp, fun h => by omega, fun h => by omega⟩
theorem evOk_put {k o m : Int} {l : List UInt8} {s : ByteArray} (h : rightE k o m l.length s = true) {b : List UInt8} (hb : putE k o m l s = b) : evOk b = true := by
  obtain ⟨h1, h2, h3, h4, h5, _⟩ := par_put h hb
  have hl := (put_len h).1
  rw [hb] at hl
  unfold evOk
  rw [h1, h2, h3, h4, h5, h, hb]
  simp
  omega
theorem evOk_iff {b : List UInt8} : evOk b = true ↔ 1 ≤ b.length ∧ rightE (parK b) (parO b) (parM b) (parL b).length (parS b) = true ∧ putE (parK b) (parO b) (parM b) (parL b) (parS b) = b := by
  unfold evOk
  simp
theorem evOk_len {b : List UInt8} (h : evOk b = true) : b.length ≤ 90 := by
  obtain ⟨_, h1, h2⟩ := evOk_iff.1 h
  have := (put_len h1).2
  rwa [h2] at this
/-- unlike events have unlike bytes -/
theorem put_inj {k o m : Int} {l : List UInt8} {s : ByteArray} {k' o' m' : Int} {l' : List UInt8} {s' : ByteArray} (h : rightE k o m l.length s = true) (h' : rightE k' o' m' l'.length s' = true) (e : putE k o m l s = putE k' o' m' l' s') : k = k' ∧ o = o' ∧ m = m' ∧ l = l' ∧ s = s' := by
  obtain ⟨h1, h2, h3, h4, h5, _⟩ := par_put h e
  obtain ⟨g1, g2, g3, g4, g5, _⟩ := par_put h' rfl
  exact ⟨h1.symm.trans g1, h2.symm.trans g2, h3.symm.trans g3, h4.symm.trans g4, h5.symm.trans g5⟩

/-- as the reference takes it -/
def parR (b : List UInt8) : Bool := if parK b = 1 ∨ parK b = 4 then gvC b 1 else if parK b = 2 ∨ parK b = 3 then (gvC b 1 && gvC b (gvB b 1)) else true
def parL2 (b : List UInt8) : List UInt8 := if parK b = 1 ∧ gvC b 1 = true then b.drop (gvB b 1).toNat else []
def parM2 (b : List UInt8) : Int := if parK b = 2 ∨ parK b = 3 then (if gvC b 1 then gvA b (gvB b 1) else 0) else if parK b = 4 then gvA b 1 else 0
theorem parR_of {b : List UInt8} (h : evOk b = true) : parR b = true := by
  obtain ⟨_, h1, h2⟩ := evOk_iff.1 h
  obtain ⟨_, _, _, _, _, h3, h4⟩ := par_put h1 h2
  unfold parR
  split
  · exact h3 (by omega)
  · split
    · rw [h3 (by omega), h4 (by omega)]; rfl
    · rfl
theorem parL2_of {b : List UInt8} (h : parR b = true) : parL2 b = parL b ∧ parM2 b = parM b := by
  unfold parR at h
  unfold parL2 parL parM2 parM
  by_cases k1 : parK b = 1
  · rw [if_pos (.inl k1)] at h
    simp [k1, h]
  by_cases k2 : parK b = 2 ∨ parK b = 3
  · rw [if_neg (by omega), if_pos k2, Bool.and_eq_true] at h
    rw [if_neg (by omega), if_neg k1, if_pos k2, if_pos k2, h.1]
    exact ⟨rfl, rfl⟩
  rw [if_neg (by omega), if_neg k1, if_neg k2, if_neg k2]
  exact ⟨rfl, rfl⟩
def evOk2 (b : List UInt8) : Bool := parR b && (rightE (parK b) (parO b) (parM2 b) (parL2 b).length (parS b) && (putE (parK b) (parO b) (parM2 b) (parL2 b) (parS b) == b))
theorem evOk2_eq {b : List UInt8} (hb : 1 ≤ b.length) : evOk2 b = evOk b := by
  unfold evOk2
  cases hr : parR b with
  | false =>
    rw [Bool.false_and]
    cases hg : evOk b with
    | false => rfl
    | true => rw [parR_of hg] at hr; cases hr
  | true =>
    obtain ⟨e1, e2⟩ := parL2_of hr
    rw [e1, e2]
    unfold evOk
    simp [hb]
end Go.Proofs.Ytcklkjklepmabaa
