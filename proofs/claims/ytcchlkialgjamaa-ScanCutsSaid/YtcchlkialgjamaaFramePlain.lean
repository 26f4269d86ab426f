/-
  Frames as lists of bytes: what is laid, what is taken, and that the one is the other's way back. No program in sight.
-/
import Derived.Test.YtcchlkialgjamaaTurnPlain
import Derived.Test.YtcchlkialgjamaaRightN
namespace Go.Proofs.Ytcchlkialgjamaa
set_option linter.unusedVariables false
set_option linter.unusedSimpArgs false

def magicL : List UInt8 := [72, 71, 74, 69]
def headE (t s : Nat) (l : List UInt8) : List UInt8 := put (put (put magicL t 4) s 8) l.length 2 ++ l
def layE (t s : Nat) (l : List UInt8) : List UInt8 := put (headE t s l) (crcOf (headE t s l)) 4
theorem headE_length (t s : Nat) (l : List UInt8) : (headE t s l).length = 18 + l.length := by
  unfold headE put magicL
  simp [le_length]
  omega
theorem layE_length (t s : Nat) (l : List UInt8) : (layE t s l).length = 22 + l.length := by
  unfold layE put
  rw [List.length_append, headE_length, le_length]
  omega

def tkT (r : List UInt8) : Nat := unle ((r.drop 4).take 4)
def tkS (r : List UInt8) : Nat := unle ((r.drop 8).take 8)
def tkN (r : List UInt8) : Nat := unle ((r.drop 16).take 2)
def tkD (r : List UInt8) : List UInt8 := (r.drop 18).take (tkN r)
def tkFit (r : List UInt8) : Bool := rightN (tkT r) (tkS r) (tkN r) && decide (tkN r + 22 ≤ r.length)
def tkSum (r : List UInt8) : Bool := decide (unle ((r.drop (18 + tkN r)).take 4) = crcOf (r.take (18 + tkN r)))
def tkE (r : List UInt8) : Nat := if r.length = 0 then 4 else if r.length < 22 ∨ r.take 4 ≠ magicL then 2 else if tkFit r = false then 2 else if tkSum r = false then 13 else 0
theorem tkE_ok {r : List UInt8} : tkE r = 0 ↔ 22 ≤ r.length ∧ r.take 4 = magicL ∧ tkFit r = true ∧ tkSum r = true := by
  unfold tkE
  by_cases h0 : r.length = 0
  · rw [if_pos h0]; constructor <;> intro h <;> omega
  rw [if_neg h0]
  by_cases h1 : r.length < 22 ∨ r.take 4 ≠ magicL
  · rw [if_pos h1]
    constructor
    · intro h; omega
    · rintro ⟨a, b, _⟩
      rcases h1 with h1 | h1
      · omega
      · exact absurd b h1
  rw [if_neg h1]
  have h2 : 22 ≤ r.length ∧ r.take 4 = magicL := by
    constructor
    · omega
    · by_cases h : r.take 4 = magicL
      · exact h
      · exact absurd (.inr h) h1
  cases tkFit r <;> cases tkSum r <;> simp [h2]
theorem tkFit_iff {r : List UInt8} : tkFit r = true ↔ rightN (tkT r) (tkS r) (tkN r) = true ∧ tkN r + 22 ≤ r.length := by unfold tkFit; simp
theorem unle_small {l : List UInt8} {k : Nat} (h : l.length ≤ k) : unle l < 256 ^ k := Nat.lt_of_lt_of_le (unle_lt l) (Nat.pow_le_pow_right (by omega) h)
theorem tkT_lt (r : List UInt8) : tkT r < 4294967296 := unle_small (k := 4) (by rw [List.length_take]; omega)
theorem tkS_lt (r : List UInt8) : tkS r < 18446744073709551616 := unle_small (k := 8) (by rw [List.length_take]; omega)
theorem tkN_lt (r : List UInt8) : tkN r < 65536 := unle_small (k := 2) (by rw [List.length_take]; omega)

theorem mid {a b c : List UInt8} {i j : Nat} (hi : i = a.length) (hj : j = b.length) : ((a ++ (b ++ c)).drop i).take j = b := by
  subst hi hj
  rw [List.drop_left, List.take_left]
theorem layE_parts (t s : Nat) (l r : List UInt8) : layE t s l ++ r = magicL ++ (le 4 t ++ (le 8 s ++ (le 2 l.length ++ (l ++ (le 4 (crcOf (headE t s l)) ++ r))))) := by
  unfold layE put
  conv => lhs; arg 1; arg 1; unfold headE put
  simp only [List.append_assoc]
theorem magicL_length : magicL.length = 4 := rfl
/-- what a laid frame shows, whatever is behind it -/
theorem lay_fields (t s : Nat) (l r : List UInt8) (ht : t < 4294967296) (hs : s < 18446744073709551616) (hl : l.length < 65536) :
    (layE t s l ++ r).take 4 = magicL ∧ tkT (layE t s l ++ r) = t ∧ tkS (layE t s l ++ r) = s ∧ tkN (layE t s l ++ r) = l.length := by
  have e := layE_parts t s l r
  have a1 : (magicL ++ le 4 t).length = 8 := by simp [le_length, magicL]
  have a2 : (magicL ++ (le 4 t ++ le 8 s)).length = 16 := by simp [le_length, magicL]
  unfold tkT tkS tkN
  rw [e]
  refine ⟨by rw [show (4 : Nat) = magicL.length from rfl, List.take_left], ?_, ?_, ?_⟩
  · rw [mid (i := 4) (j := 4) (a := magicL) (b := le 4 t) rfl (le_length _ _).symm, unle_le, Nat.mod_eq_of_lt ht]
  · rw [← List.append_assoc, mid (i := 8) (j := 8) (b := le 8 s) a1.symm (le_length _ _).symm, unle_le, Nat.mod_eq_of_lt hs]
  · have e2 : magicL ++ (le 4 t ++ (le 8 s ++ (le 2 l.length ++ (l ++ (le 4 (crcOf (headE t s l)) ++ r))))) = (magicL ++ (le 4 t ++ le 8 s)) ++ (le 2 l.length ++ (l ++ (le 4 (crcOf (headE t s l)) ++ r))) := by simp only [List.append_assoc]
    rw [e2, mid (i := 16) (j := 2) (b := le 2 l.length) a2.symm (le_length _ _).symm, unle_le, Nat.mod_eq_of_lt hl]
theorem headE_parts (t s : Nat) (l : List UInt8) : headE t s l = (magicL ++ (le 4 t ++ (le 8 s ++ le 2 l.length))) ++ l := by
  unfold headE put
  simp only [List.append_assoc]
/-- what is laid is taken -/
theorem take_lay (t s : Nat) (l r : List UInt8) (h : rightN t s l.length = true) :
    tkE (layE t s l ++ r) = 0 ∧ tkT (layE t s l ++ r) = t ∧ tkS (layE t s l ++ r) = s ∧ tkN (layE t s l ++ r) = l.length ∧ tkD (layE t s l ++ r) = l := by
  have hr := rightN_iff.1 h
  obtain ⟨h1, h2, h3, h4⟩ := lay_fields t s l r (by omega) (by omega) (by omega)
  have hlen : (layE t s l ++ r).length = 22 + l.length + r.length := by rw [List.length_append, layE_length]
  have hh := headE_length t s l
  have a3 : (magicL ++ (le 4 t ++ (le 8 s ++ le 2 l.length))).length = 18 := by simp [le_length, magicL]
  have e3 : layE t s l ++ r = headE t s l ++ (le 4 (crcOf (headE t s l)) ++ r) := by unfold layE put; rw [List.append_assoc]
  refine ⟨tkE_ok.2 ⟨by omega, h1, tkFit_iff.2 ⟨by rw [h2, h3, h4]; exact h, by omega⟩, ?_⟩, h2, h3, h4, ?_⟩
  · unfold tkSum
    rw [h4, e3, decide_eq_true_eq, mid (i := 18 + l.length) (j := 4) (b := le 4 (crcOf (headE t s l))) hh.symm (le_length _ _).symm, ← hh, List.take_left, unle_le, Nat.mod_eq_of_lt (crcOf_lt _)]
  · unfold tkD
    rw [h4, e3, headE_parts, List.append_assoc, List.append_assoc]
    exact mid a3.symm rfl
theorem cut_two {l : List UInt8} {i j : Nat} : (l.drop i).take j ++ l.drop (i + j) = l.drop i := by
  rw [← List.drop_drop, List.take_append_drop]
/-- what is taken was laid -/
theorem lay_take {r : List UInt8} (h : tkE r = 0) : r = layE (tkT r) (tkS r) (tkD r) ++ r.drop (tkN r + 22) ∧ rightN (tkT r) (tkS r) (tkD r).length = true ∧ (tkD r).length = tkN r ∧ tkN r + 22 ≤ r.length := by
  obtain ⟨h1, h2, h3, h4⟩ := tkE_ok.1 h
  obtain ⟨h5, h6⟩ := tkFit_iff.1 h3
  have hd : (tkD r).length = tkN r := by unfold tkD; rw [List.length_take, List.length_drop]; omega
  refine ⟨?_, by rw [hd]; exact h5, hd, h6⟩
  have l4 : ((r.drop 4).take 4).length = 4 := by rw [List.length_take, List.length_drop]; omega
  have l8 : ((r.drop 8).take 8).length = 8 := by rw [List.length_take, List.length_drop]; omega
  have l2 : ((r.drop 16).take 2).length = 2 := by rw [List.length_take, List.length_drop]; omega
  have lc : ((r.drop (18 + tkN r)).take 4).length = 4 := by rw [List.length_take, List.length_drop]; omega
  have e4 : le 4 (tkT r) = (r.drop 4).take 4 := by have := le_unle ((r.drop 4).take 4); rwa [l4] at this
  have e8 : le 8 (tkS r) = (r.drop 8).take 8 := by have := le_unle ((r.drop 8).take 8); rwa [l8] at this
  have e2 : le 2 (tkN r) = (r.drop 16).take 2 := by have := le_unle ((r.drop 16).take 2); rwa [l2] at this
  have ec : le 4 (unle ((r.drop (18 + tkN r)).take 4)) = (r.drop (18 + tkN r)).take 4 := by have := le_unle ((r.drop (18 + tkN r)).take 4); rwa [lc] at this
  have hhead : headE (tkT r) (tkS r) (tkD r) = r.take (18 + tkN r) := by
    rw [headE_parts, hd, e4, e8, e2, ← h2]
    have s1 : r.take (18 + tkN r) = r.take 4 ++ ((r.drop 4).take 4 ++ ((r.drop 8).take 8 ++ ((r.drop 16).take 2 ++ (r.drop 18).take (tkN r)))) := by
      rw [show 18 + tkN r = 4 + (4 + (8 + (2 + tkN r))) by omega, List.take_add, List.take_add, List.take_add, List.take_add]
      simp only [List.drop_drop]
    rw [s1]
    unfold tkD
    simp only [List.append_assoc]
  have hs : unle ((r.drop (18 + tkN r)).take 4) = crcOf (r.take (18 + tkN r)) := by simpa [tkSum] using h4
  unfold layE put
  rw [hhead, ← hs, ec, List.append_assoc, show tkN r + 22 = 18 + tkN r + 4 by omega, cut_two, List.take_append_drop]
theorem unle_le_inj {w a b : Nat} (ha : a < 256 ^ w) (hb : b < 256 ^ w) (h : le w a = le w b) : a = b := by
  have := congrArg unle h
  rwa [unle_le, unle_le, Nat.mod_eq_of_lt ha, Nat.mod_eq_of_lt hb] at this

/-- as the reference tells a sum -/
theorem open_sum {r : List UInt8} (h : tkN r + 22 ≤ r.length) : crcOpen (r.take (tkN r + 22)) = if tkSum r then some (r.take (18 + tkN r)) else none := by
  have hl : (r.take (tkN r + 22)).length = tkN r + 22 := by rw [List.length_take]; omega
  have e1 : tkN r + 22 - 4 = 18 + tkN r := by omega
  unfold crcOpen tkSum
  rw [hl, e1, List.take_take, Nat.min_eq_left (by omega), List.drop_take, show tkN r + 22 - (18 + tkN r) = 4 by omega]
  have lc : ((r.drop (18 + tkN r)).take 4).length = 4 := by rw [List.length_take, List.length_drop]; omega
  have hi := le_inj lc (n := crcOf (r.take (18 + tkN r))) (by have := crcOf_lt (r.take (18 + tkN r)); omega)
  by_cases hq : unle ((r.drop (18 + tkN r)).take 4) = crcOf (r.take (18 + tkN r))
  · rw [if_pos ⟨by omega, hi.2 hq⟩]; simp [hq]
  · rw [if_neg (fun h => hq (hi.1 h.2))]; simp [hq]

/-- a frame's parts -/
structure Fr where
  t : Nat
  s : Nat
  d : List UInt8
def frOf (r : List UInt8) : Fr := ⟨tkT r, tkS r, tkD r⟩
def allF : Nat → List UInt8 → List Fr × Nat
  | 0, _ => ([], 0)
  | f + 1, b => if tkE b = 0 then (frOf b :: (allF f (b.drop (tkN b + 22))).1, tkN b + 22 + (allF f (b.drop (tkN b + 22))).2) else ([], 0)
/-- all frames at the beginning, and how long they are -/
def allL (b : List UInt8) : List Fr × Nat := allF b.length b
theorem allF_enough : ∀ (f : Nat) (b : List UInt8), b.length ≤ f → allF f b = allF b.length b
  | 0, b, h => by
    have : b = [] := List.eq_nil_of_length_eq_zero (by omega)
    subst this
    rfl
  | f + 1, b, h => by
    rw [allF]
    by_cases h0 : tkE b = 0
    · have h6 := (lay_take h0).2.2.2
      obtain ⟨n, hn⟩ : ∃ n, b.length = n + 1 := ⟨b.length - 1, by omega⟩
      have hd : (b.drop (tkN b + 22)).length = b.length - (tkN b + 22) := List.length_drop
      rw [hn, allF, if_pos h0, if_pos h0, allF_enough f _ (by omega), allF_enough n _ (by omega)]
    · rw [if_neg h0]
      cases hb : b.length with
      | zero => rfl
      | succ n => rw [allF, if_neg h0]
theorem allL_yes {b : List UInt8} (h : tkE b = 0) : allL b = (frOf b :: (allL (b.drop (tkN b + 22))).1, tkN b + 22 + (allL (b.drop (tkN b + 22))).2) := by
  have h6 := (lay_take h).2.2.2
  have hd : (b.drop (tkN b + 22)).length = b.length - (tkN b + 22) := List.length_drop
  obtain ⟨n, hn⟩ : ∃ n, b.length = n + 1 := ⟨b.length - 1, by omega⟩
  unfold allL
  conv => lhs; rw [hn]
  rw [allF, if_pos h, allF_enough n _ (by omega)]
theorem allL_no {b : List UInt8} (h : tkE b ≠ 0) : allL b = ([], 0) := by
  unfold allL
  cases hb : b.length with
  | zero => rfl
  | succ n => rw [allF, if_neg h]
theorem allL_le (b : List UInt8) : (allL b).2 ≤ b.length := by
  induction h : b.length using Nat.strongRecOn generalizing b with
  | _ n ih =>
    subst h
    by_cases h0 : tkE b = 0
    · have h6 := (lay_take h0).2.2.2
      have hd : (b.drop (tkN b + 22)).length = b.length - (tkN b + 22) := List.length_drop
      have := ih _ (by omega) (b.drop (tkN b + 22)) rfl
      rw [allL_yes h0]
      simp only
      omega
    · rw [allL_no h0]; exact Nat.zero_le _
theorem allL_nil : allL [] = ([], 0) := rfl
end Go.Proofs.Ytcchlkialgjamaa
