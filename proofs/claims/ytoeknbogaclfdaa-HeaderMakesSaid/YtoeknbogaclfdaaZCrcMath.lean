/-
  The plain law of sums: linear over xor, one step backwards is one, a row's sum out of the row's number. No program in sight.
-/
import Derived.Test.YtoeknbogaclfdaaZCrcPlain
import Derived.Test.YtoeknbogaclfdaaZLePlain
namespace Go.Proofs.Ytoeknbogaclfdaa

theorem xor_null {a b : Nat} (h : a ^^^ b = 0) : a = b := by
  have h1 : a ^^^ b ^^^ b = b := by rw [h, Nat.zero_xor]
  rwa [Nat.xor_assoc, Nat.xor_self, Nat.xor_zero] at h1
theorem crcStep_double (x : Nat) : crcStep (2 * x) = x := by
  unfold crcStep
  rw [if_neg (by omega)]
  omega
theorem crcStep_xor (a b : Nat) : crcStep (a ^^^ b) = crcStep a ^^^ crcStep b := by
  unfold crcStep
  rw [Nat.xor_div_two]
  have h := @Nat.xor_mod_two_eq_one a b
  by_cases ha : a % 2 = 1 <;> by_cases hb : b % 2 = 1 <;> simp only [ha, hb, if_true, if_false] at *
  · have : ¬ ((a ^^^ b) % 2 = 1) := by simp [h]
    rw [if_neg this]
    rw [Nat.xor_assoc, Nat.xor_comm 2197175160 (b / 2 ^^^ 2197175160), Nat.xor_assoc, Nat.xor_self, Nat.xor_zero]
  · have : (a ^^^ b) % 2 = 1 := by simp [h]
    rw [if_pos this]
    rw [Nat.xor_assoc, Nat.xor_comm (b / 2), ← Nat.xor_assoc]
  · have : (a ^^^ b) % 2 = 1 := by simp [h]
    rw [if_pos this, Nat.xor_assoc]
  · have : ¬ ((a ^^^ b) % 2 = 1) := by simp [h]
    rw [if_neg this]
theorem crcSteps_xor (n a b : Nat) : crcSteps n (a ^^^ b) = crcSteps n a ^^^ crcSteps n b := by
  induction n with
  | zero => rfl
  | succ n ih => simp only [crcSteps, ih, crcStep_xor]
theorem crcSteps_zero (n : Nat) : crcSteps n 0 = 0 := by
  induction n with
  | zero => rfl
  | succ n ih => simp [crcSteps, ih, crcStep]
theorem crcSteps_add (m n c : Nat) : crcSteps (m + n) c = crcSteps m (crcSteps n c) := by
  induction m with
  | zero => simp [crcSteps]
  | succ m ih => rw [show m + 1 + n = (m + n) + 1 by omega]; simp [crcSteps, ih]
theorem crcStep_null {z : Nat} (hz : z < 4294967296) (h : crcStep z = 0) : z = 0 := by
  unfold crcStep at h
  split at h
  · have h1 := xor_null h
    omega
  · omega
theorem crcSteps_null (n : Nat) {z : Nat} (hz : z < 4294967296) (h : crcSteps n z = 0) : z = 0 := by
  induction n with
  | zero => exact h
  | succ n ih => exact ih (crcStep_null (crcSteps_lt n hz) h)
theorem xor_lt32 {a b : Nat} (ha : a < 4294967296) (hb : b < 4294967296) : a ^^^ b < 4294967296 := Nat.xor_lt_two_pow (n := 32) ha hb
theorem crcSteps_inj (n : Nat) {a b : Nat} (ha : a < 4294967296) (hb : b < 4294967296) : crcSteps n a = crcSteps n b ↔ a = b := by
  constructor
  · intro h
    have h1 : crcSteps n (a ^^^ b) = 0 := by rw [crcSteps_xor, h, Nat.xor_self]
    exact xor_null (crcSteps_null n (xor_lt32 ha hb) h1)
  · intro h; rw [h]
theorem crcSteps_shift (k u : Nat) : crcSteps k (2 ^ k * u) = u := by
  induction k with
  | zero => simp [crcSteps]
  | succ k ih =>
    rw [show k + 1 = k + 1 from rfl, crcSteps_add k 1]
    have : crcSteps 1 (2 ^ (k + 1) * u) = 2 ^ k * u := by
      have e : 2 ^ (k + 1) * u = 2 * (2 ^ k * u) := by rw [Nat.pow_succ, Nat.mul_comm (2 ^ k) 2, Nat.mul_assoc]
      rw [e]
      exact crcStep_double _
    rw [this, ih]
theorem crcNext_linear (c d x y : Nat) : crcNext (c ^^^ d) (x ^^^ y) = crcNext c x ^^^ crcNext d y := by
  unfold crcNext
  rw [← crcSteps_xor]
  congr 1
  rw [Nat.xor_assoc, Nat.xor_assoc]
  congr 1
  rw [← Nat.xor_assoc, ← Nat.xor_assoc, Nat.xor_comm d x]
theorem crcNext_laws (c d x : Nat) (hc : c < 4294967296) (hd : d < 4294967296) (hx : x < 256) :
    ((crcNext c x = crcNext d x) ↔ (c = d)) ∧ crcNext c x ^^^ crcNext d x = crcNext (c ^^^ d) 0 := by
  refine ⟨?_, ?_⟩
  · unfold crcNext
    rw [crcSteps_inj 8 (xor_byte_lt hc hx) (xor_byte_lt hd hx)]
    constructor
    · intro h
      have := congrArg (· ^^^ x) h
      simpa [Nat.xor_assoc] using this
    · intro h; rw [h]
  · rw [← crcNext_linear, Nat.xor_self]
theorem xor_low (b u : Nat) (hb : b < 256) : b ^^^ 256 * u = b + 256 * u := by
  have h1 : b ^^^ 256 * u = b ||| 256 * u := by
    apply Nat.eq_of_testBit_eq
    intro i
    rw [Nat.testBit_xor, Nat.testBit_or]
    have e : (256 : Nat) * u = 2 ^ 8 * u := rfl
    rw [e, Nat.testBit_two_pow_mul]
    by_cases hi : 8 ≤ i
    · have : b.testBit i = false := Nat.testBit_lt_two_pow (Nat.lt_of_lt_of_le hb (by have := Nat.pow_le_pow_right (n := 2) (by omega) hi; simpa using this))
      simp [this, hi]
    · simp [hi]
  rw [h1, Nat.or_comm, nat_join 8 (256 * u) b (Nat.mul_mod_right _ _) hb, Nat.add_comm]
/-- a row's run out of the row's number -/
theorem crcRun_number (l : List UInt8) : ∀ s, crcRun s l = crcSteps (8 * l.length) (s ^^^ unle l) := by
  induction l with
  | nil => intro s; simp [crcRun, crcSteps, unle]
  | cons b r ih =>
    intro s
    have e : crcRun s (b :: r) = crcRun (crcNext s b.toNat) r := rfl
    rw [e, ih]
    have e2 : crcNext s b.toNat ^^^ unle r = crcSteps 8 (s ^^^ unle (b :: r)) := by
      unfold crcNext
      have h1 : unle r = crcSteps 8 (2 ^ 8 * unle r) := (crcSteps_shift 8 (unle r)).symm
      rw [h1, ← crcSteps_xor]
      congr 1
      rw [Nat.xor_assoc]
      congr 1
      simp only [unle]
      exact xor_low _ _ b.toNat_lt
    rw [e2, ← crcSteps_add]
    simp [Nat.mul_add]
theorem crcZeros_run (n c : Nat) : crcZeros n c = crcSteps (8 * n) c := by
  induction n with
  | zero => rfl
  | succ n ih =>
    rw [crcZeros, ih]
    unfold crcNext
    rw [Nat.xor_zero, ← crcSteps_add]
    congr 1
    omega
theorem crcOf_xor (l : List UInt8) : crcOf l = 4294967295 ^^^ crcRun 4294967295 l := by
  unfold crcOf
  exact (ones_xor _ (crcRun_lt l (by omega))).symm
theorem xor_self_cancel (a b : Nat) : a ^^^ (a ^^^ b) = b := by rw [← Nat.xor_assoc, Nat.xor_self, Nat.zero_xor]
theorem crcJoin_append (a b : List UInt8) : crcJoin (crcOf a) (crcOf b) b.length = crcOf (a ++ b) := by
  unfold crcJoin
  rw [crcZeros_run, crcOf_xor a, crcOf_xor b, crcOf_xor (a ++ b), crcRun_append, crcSteps_xor, crcRun_number b 4294967295, crcRun_number b (crcRun 4294967295 a), crcSteps_xor (8 * b.length) 4294967295 (unle b), crcSteps_xor (8 * b.length) _ (unle b)]
  generalize crcSteps (8 * b.length) 4294967295 = f
  generalize crcSteps (8 * b.length) (crcRun 4294967295 a) = g
  generalize crcSteps (8 * b.length) (unle b) = h
  rw [Nat.xor_comm f g, Nat.xor_assoc g f, ← Nat.xor_assoc f, Nat.xor_comm f 4294967295, Nat.xor_assoc 4294967295 f, xor_self_cancel f h, ← Nat.xor_assoc, Nat.xor_comm g, Nat.xor_assoc]
theorem crcJoin_none (a : Nat) : crcJoin a 0 0 = a := by simp [crcJoin, crcZeros]
theorem crcJoin_first (l : List UInt8) : crcJoin 0 (crcOf l) l.length = crcOf l := by
  unfold crcJoin
  rw [crcZeros_run, crcSteps_zero, Nat.zero_xor]
/-- of three rows of one length -/
theorem unle_xor3 (a b c d : List UInt8) (hb : b.length = a.length) (hc : c.length = a.length) (hd : d.length = a.length)
    (h : ∀ i, i < a.length → d.getD i 0 = a.getD i 0 ^^^ b.getD i 0 ^^^ c.getD i 0) : unle d = unle a ^^^ unle b ^^^ unle c := by
  induction a generalizing b c d with
  | nil =>
    have hb' : b = [] := List.eq_nil_of_length_eq_zero hb
    have hc' : c = [] := List.eq_nil_of_length_eq_zero hc
    have hd' : d = [] := List.eq_nil_of_length_eq_zero hd
    simp [hb', hc', hd', unle]
  | cons x a ih =>
    match b, c, d, hb, hc, hd with
    | y :: b, z :: c, v :: d, hb, hc, hd =>
      have h0 := h 0 (by simp)
      simp only [List.getD_cons_zero] at h0
      have h1 := ih b c d (by simpa using hb) (by simpa using hc) (by simpa using hd) (fun i hi => by
        have := h (i + 1) (by simp; omega)
        simpa using this)
      have e : ∀ (p : UInt8) (q : List UInt8), unle (p :: q) = p.toNat ^^^ 256 * unle q := fun p q => by
        simp only [unle]
        exact (xor_low _ _ p.toNat_lt).symm
      rw [e, e, e, e, h1, h0]
      simp only [UInt8.toNat_xor]
      have hm : ∀ p q : Nat, 256 * (p ^^^ q) = 256 * p ^^^ 256 * q := fun p q => by
        have := @Nat.shiftLeft_xor_distrib 8 p q
        simp only [Nat.shiftLeft_eq] at this
        rw [Nat.mul_comm, Nat.mul_comm 256 p, Nat.mul_comm 256 q]
        exact this
      rw [hm, hm]
      generalize x.toNat = x
      generalize y.toNat = y
      generalize z.toNat = z
      generalize 256 * unle a = p
      generalize 256 * unle b = q
      generalize 256 * unle c = r
      apply Nat.eq_of_testBit_eq
      intro i
      simp only [Nat.testBit_xor]
      cases x.testBit i <;> cases y.testBit i <;> cases z.testBit i <;> cases p.testBit i <;> cases q.testBit i <;> cases r.testBit i <;> rfl
theorem crcOf_linear (a b c d : List UInt8) (hb : b.length = a.length) (hc : c.length = a.length) (hd : d.length = a.length)
    (h : ∀ i, i < a.length → d.getD i 0 = a.getD i 0 ^^^ b.getD i 0 ^^^ c.getD i 0) : crcOf a ^^^ crcOf b ^^^ crcOf c = crcOf d := by
  simp only [crcOf_xor, crcRun_number, hb, hc, hd, unle_xor3 a b c d hb hc hd h, crcSteps_xor]
  generalize crcSteps (8 * a.length) 4294967295 = f
  generalize crcSteps (8 * a.length) (unle a) = x
  generalize crcSteps (8 * a.length) (unle b) = y
  generalize crcSteps (8 * a.length) (unle c) = z
  apply Nat.eq_of_testBit_eq
  intro i
  simp only [Nat.testBit_xor]
  cases f.testBit i <;> cases x.testBit i <;> cases y.testBit i <;> cases z.testBit i <;> cases Nat.testBit 4294967295 i <;> rfl
end Go.Proofs.Ytoeknbogaclfdaa
