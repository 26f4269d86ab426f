/-
  The plain law of turned bits: of a sealed row in which bits are turned, all within 32 side by side, nothing is opened. No program in sight.
-/
import Derived.Test.YtoeknbogaclfdaaZCrcMath
namespace Go.Proofs.Ytoeknbogaclfdaa

/-- what was sealed -/
def crcOpen (l : List UInt8) : Option (List UInt8) := if 4 ≤ l.length ∧ l.drop (l.length - 4) = le 4 (crcOf (l.take (l.length - 4))) then some (l.take (l.length - 4)) else none
theorem crcOpen_put (l : List UInt8) : crcOpen (put l (crcOf l) 4) = some l := by
  unfold crcOpen put
  have e : (l ++ le 4 (crcOf l)).length - 4 = l.length := by simp [le_length]
  rw [e, List.take_left, List.drop_left, if_pos ⟨by simp [le_length], rfl⟩]
theorem crcOpen_short {l : List UInt8} (h : l.length < 4) : crcOpen l = none := by
  unfold crcOpen
  rw [if_neg (by omega)]
theorem sealed_iff {l : List UInt8} (h : 4 ≤ l.length) : l.drop (l.length - 4) = le 4 (crcOf (l.take (l.length - 4))) ↔ crcSteps (8 * l.length) (4294967295 ^^^ unle l) = crcSteps 32 4294967295 := by
  have hlen : (l.drop (l.length - 4)).length = 4 := by rw [List.length_drop]; omega
  rw [le_inj hlen (by have := crcOf_lt (l.take (l.length - 4)); omega), ← crcRun_number]
  have e : crcRun 4294967295 l = crcRun (crcRun 4294967295 (l.take (l.length - 4))) (l.drop (l.length - 4)) := by rw [← crcRun_append, List.take_append_drop]
  have hr := crcRun_lt (l.take (l.length - 4)) (c := 4294967295) (by omega)
  have hu := unle_lt (l.drop (l.length - 4))
  rw [hlen] at hu
  rw [e, crcRun_number (l.drop (l.length - 4)), hlen, crcOf_xor]
  generalize crcRun 4294967295 (l.take (l.length - 4)) = r at *
  generalize unle (l.drop (l.length - 4)) = u at *
  rw [crcSteps_inj 32 (xor_lt32 hr hu) (by omega)]
  constructor
  · intro h
    rw [h, Nat.xor_comm 4294967295 r, xor_self_cancel]
  · intro h
    rw [← h, Nat.xor_comm r u, Nat.xor_assoc, Nat.xor_self, Nat.xor_zero]
theorem unle_inj {a b : List UInt8} (h : a.length = b.length) (hu : unle a = unle b) : a = b := by
  rw [← le_unle a, ← le_unle b, h, hu]
theorem crcOpen_turned {s L : List UInt8} {M K : Nat} (h4 : 4 ≤ s.length) (hs : s.drop (s.length - 4) = le 4 (crcOf (s.take (s.length - 4)))) (hl : L.length = s.length) (hu : unle L = unle s ^^^ (M * 2 ^ K)) (hM : M < 4294967296) (hK : K ≤ 8 * s.length) :
    crcOpen L = if M = 0 then some (s.take (s.length - 4)) else none := by
  by_cases h0 : M = 0
  · subst h0
    have e : L = s := unle_inj hl (by rw [hu]; simp)
    subst e
    unfold crcOpen
    rw [if_pos ⟨h4, hs⟩, if_pos rfl]
  · rw [if_neg h0]
    unfold crcOpen
    rw [if_neg]
    rintro ⟨_, h2⟩
    have h3 := (sealed_iff (by omega)).1 h2
    have h5 := (sealed_iff h4).1 hs
    rw [hl, hu, ← Nat.xor_assoc, crcSteps_xor, h5] at h3
    have h6 : crcSteps (8 * s.length) (M * 2 ^ K) = 0 := by
      have := congrArg (crcSteps 32 4294967295 ^^^ ·) h3
      simp only [xor_self_cancel, Nat.xor_self] at this
      exact this
    rw [show 8 * s.length = (8 * s.length - K) + K by omega, crcSteps_add, Nat.mul_comm M, crcSteps_shift] at h6
    exact h0 (crcSteps_null _ hM h6)
theorem unle_set_xor (l : List UInt8) : ∀ (j : Nat) (b : UInt8), j < l.length → unle (l.set j (l.getD j 0 ^^^ b)) = unle l ^^^ (b.toNat * 256 ^ j) := by
  induction l with
  | nil => intro j b h; simp at h
  | cons x r ih =>
    intro j b h
    rcases j with _ | j
    · simp only [List.set_cons_zero, List.getD_cons_zero, unle, Nat.pow_zero, Nat.mul_one]
      rw [← xor_low _ _ (UInt8.toNat_lt _), ← xor_low _ _ (UInt8.toNat_lt _), UInt8.toNat_xor, Nat.xor_assoc, Nat.xor_comm b.toNat, Nat.xor_assoc]
    · have := ih j b (by simpa using h)
      simp only [List.set_cons_succ, List.getD_cons_succ, unle, this]
      rw [← xor_low _ _ (UInt8.toNat_lt _), ← xor_low _ _ (UInt8.toNat_lt _), Nat.xor_assoc]
      congr 1
      have hm := @Nat.shiftLeft_xor_distrib 8 (unle r) (b.toNat * 256 ^ j)
      simp only [Nat.shiftLeft_eq] at hm
      have e8 : (2 : Nat) ^ 8 = 256 := rfl
      rw [e8] at hm
      rw [Nat.mul_comm 256, hm, Nat.mul_comm 256, Nat.pow_succ, Nat.mul_assoc]
theorem bit_of_byte (j e : Nat) (he : e < 8) : (UInt8.ofNat (2 ^ e)).toNat * 256 ^ j = 2 ^ (8 * j + e) := by
  have h1 : (UInt8.ofNat (2 ^ e)).toNat = 2 ^ e := by
    have : 2 ^ e < 256 := by
      have := Nat.pow_lt_pow_right (a := 2) (by omega) he
      omega
    simp [Nat.mod_eq_of_lt this]
  rw [h1, ← pow_8, ← Nat.pow_add, Nat.add_comm]
theorem low_bits_succ (t i : Nat) : t % 2 ^ (i + 1) = t % 2 ^ i + t / 2 ^ i % 2 * 2 ^ i := by
  rw [Nat.pow_succ, Nat.mod_mul]
  rw [Nat.mul_comm]
theorem xor_next_bit {m i K : Nat} (h : m < 2 ^ i) : (m + 2 ^ i) * 2 ^ K = (m * 2 ^ K) ^^^ 2 ^ (K + i) := by
  have h1 : m * 2 ^ K < 2 ^ (K + i) := by
    rw [Nat.pow_add, Nat.mul_comm m]
    exact (Nat.mul_lt_mul_left (Nat.two_pow_pos K)).2 h
  have h2 : m * 2 ^ K ^^^ 2 ^ (K + i) = 2 ^ (K + i) + m * 2 ^ K := by
    rw [Nat.xor_comm]
    have e : 2 ^ (K + i) ^^^ m * 2 ^ K = 2 ^ (K + i) ||| m * 2 ^ K := by
      apply Nat.eq_of_testBit_eq
      intro q
      rw [Nat.testBit_xor, Nat.testBit_or, Nat.testBit_two_pow]
      by_cases hq : K + i = q
      · subst hq
        rw [Nat.testBit_lt_two_pow h1]
        simp
      · simp [hq]
    rw [e, nat_join (K + i) _ _ (Nat.mod_self _) h1]
  rw [h2, Nat.add_mul, ← Nat.pow_add, Nat.add_comm i K, Nat.add_comm]
end Go.Proofs.Ytoeknbogaclfdaa
