/-
  Numbers as bytes, the lowest first. No program in sight.
-/
/-
  Numbers by sevens, as lists of bytes. No program in sight.
-/
/-
  Numbers by sevens: what is put is got. Lists of bytes alone.
-/
/-
  The plain law of sums: what the program's sums are, as functions of numbers and lists. No program in sight.
-/
/-
  The plain law of sums: linear over xor, one step backwards is one, a row's sum out of the row's number. No program in sight.
-/
/-
  The plain law of turned bits: of a sealed row in which bits are turned, all within 32 side by side, nothing is opened. No program in sight.
-/
/-
  Low bits of an integer by a mask. No program in sight.
-/
/-
  One bit of an integer by a mask. No program in sight.
-/
import Derived.Laws.BitsAllLaws
import Derived.Laws.BitsLemmas
namespace Go.Proofs.Ytoeknbogaclfdaa
set_option linter.unusedVariables false

/-- the lowest bytes of a number -/
def le : Nat → Nat → List UInt8
  | 0, _ => []
  | w + 1, n => UInt8.ofNat n :: le w (n / 256)
theorem le_length (w n : Nat) : (le w n).length = w := by
  induction w generalizing n with
  | zero => rfl
  | succ w ih => simp [le, ih]
theorem le_snoc (w n : Nat) : le (w + 1) n = le w n ++ [UInt8.ofNat (n / 256 ^ w)] := by
  induction w generalizing n with
  | zero => simp [le]
  | succ w ih =>
    rw [le, ih]
    simp only [le, List.cons_append]
    rw [Nat.div_div_eq_div_mul, Nat.pow_succ', Nat.mul_comm]
def put (l : List UInt8) (n width : Nat) : List UInt8 := l ++ le width n

/-- the number of some bytes, the lowest first -/
def unle : List UInt8 → Nat
  | [] => 0
  | b :: r => b.toNat + 256 * unle r
theorem unle_lt (l : List UInt8) : unle l < 256 ^ l.length := by
  induction l with
  | nil => simp [unle]
  | cons b r ih =>
    have hb := b.toNat_lt
    simp only [unle, List.length_cons, Nat.pow_succ]
    omega
theorem unle_append (a b : List UInt8) : unle (a ++ b) = unle a + 256 ^ a.length * unle b := by
  induction a with
  | nil => simp [unle]
  | cons x r ih =>
    simp only [List.cons_append, unle, ih, List.length_cons, Nat.pow_succ]
    rw [Nat.mul_add, ← Nat.mul_assoc, Nat.mul_comm 256 (256 ^ r.length)]
    omega
theorem unle_take_succ {l : List UInt8} {a k : Nat} (h : a + k < l.length) : unle ((l.drop a).take (k + 1)) = unle ((l.drop a).take k) + 256 ^ k * (l.getD (a + k) 0).toNat := by
  have hl : k < (l.drop a).length := by rw [List.length_drop]; omega
  have hlen : ((l.drop a).take k).length = k := by rw [List.length_take]; omega
  rw [List.take_succ_eq_append_getElem hl, unle_append, hlen, List.getElem_drop, List.getD_eq_getElem?_getD, List.getElem?_eq_getElem h]
  simp [unle]
theorem unle_drop {l : List UInt8} {a k : Nat} (h : a < l.length) : unle ((l.drop a).take (k + 1)) = (l.getD a 0).toNat + 256 * unle ((l.drop (a + 1)).take k) := by
  rw [List.drop_eq_getElem_cons h, List.take_succ_cons, unle, List.getD_eq_getElem?_getD, List.getElem?_eq_getElem h]
  rfl
theorem pow_8 (k : Nat) : (2 : Nat) ^ (8 * k) = 256 ^ k := by rw [Nat.pow_mul]
theorem or_up {q k b : Nat} (hk : k < 8) (hq : q < 256 ^ k) (hb : b < 256) : bits .or .u64 (q : Int) (IntKind.u64.wrap ((b : Int) * 2 ^ (8 * k))) = ((q + 256 ^ k * b : Nat) : Int) := by
  have h7 : 256 ^ k ≤ 256 ^ 7 := Nat.pow_le_pow_right (by omega) (by omega)
  have h8 : b * 256 ^ k ≤ 255 * 256 ^ k := Nat.mul_le_mul_right _ (by omega)
  have e : (b : Int) * 2 ^ (8 * k) = ((b * 256 ^ k : Nat) : Int) := by
    rw [← pow_8 k]
    simp
  rw [e, IntKind.wrap_u64]
  have hlt : b * 256 ^ k < 18446744073709551616 := by omega
  have e2 : (((b * 256 ^ k : Nat) : Int) % 18446744073709551616) = ((b * 256 ^ k : Nat) : Int) := by omega
  rw [e2, u64_or_nat q (b * 256 ^ k) (by omega) hlt, Nat.or_comm, nat_join (8 * k) (b * 256 ^ k) q (by rw [pow_8]; exact Nat.mul_mod_left _ _) (by rw [pow_8]; exact hq), Nat.mul_comm, Nat.add_comm]
theorem or_down {q k b : Nat} (hk : k < 8) (hq : q < 256 ^ k) (hb : b < 256) : bits .or .u64 (IntKind.u64.wrap ((q : Int) * 256)) (b : Int) = ((b + 256 * q : Nat) : Int) := by
  have h7 : 256 ^ k ≤ 256 ^ 7 := Nat.pow_le_pow_right (by omega) (by omega)
  rw [IntKind.wrap_u64]
  have e2 : ((q : Int) * 256 % 18446744073709551616) = ((q * 256 : Nat) : Int) := by omega
  rw [e2, u64_or_nat (q * 256) b (by omega) (by omega), nat_join 8 (q * 256) b (Nat.mul_mod_left _ _) hb, Nat.mul_comm, Nat.add_comm]

theorem le_unle (l : List UInt8) : le l.length (unle l) = l := by
  induction l with
  | nil => rfl
  | cons b r ih =>
    have hb := b.toNat_lt
    simp only [List.length_cons, le, unle]
    have e1 : (b.toNat + 256 * unle r) / 256 = unle r := by omega
    have e2 : UInt8.ofNat (b.toNat + 256 * unle r) = b := by
      apply UInt8.toNat_inj.1
      simp
    rw [e1, e2, ih]
theorem unle_le (w n : Nat) : unle (le w n) = n % 256 ^ w := by
  induction w generalizing n with
  | zero => simp [le, unle, Nat.mod_one]
  | succ w ih =>
    simp only [le, unle, ih]
    rw [Nat.pow_succ, Nat.mul_comm (256 ^ w) 256, Nat.mod_mul]
    simp
theorem le_inj {l : List UInt8} {w n : Nat} (hl : l.length = w) (hn : n < 256 ^ w) : l = le w n ↔ unle l = n := by
  constructor
  · intro h
    rw [h, unle_le, Nat.mod_eq_of_lt hn]
  · intro h
    rw [← h, ← hl, le_unle]

def getOk (l : List UInt8) (a wd : Int) : Bool := decide (1 ≤ wd) && decide (wd ≤ 8) && decide (0 ≤ a) && decide (a + wd ≤ l.length)
def getN (l : List UInt8) (a wd : Int) : Nat := if getOk l a wd then unle ((l.drop a.toNat).take wd.toNat) else 0
theorem getN_lt (l : List UInt8) (a wd : Int) : getN l a wd < 18446744073709551616 := by
  unfold getN
  split
  · rename_i h
    simp only [getOk, Bool.and_eq_true, decide_eq_true_eq] at h
    have h1 := unle_lt ((l.drop a.toNat).take wd.toNat)
    have h2 : ((l.drop a.toNat).take wd.toNat).length ≤ 8 := by rw [List.length_take]; omega
    have h3 := Nat.pow_le_pow_right (n := 256) (by omega) h2
    omega
  · omega

end Go.Proofs.Ytoeknbogaclfdaa

namespace Go.Proofs.Ytoeknbogaclfdaa
set_option linter.unusedVariables false

def varF : Nat → Nat → List UInt8
  | 0, u => [UInt8.ofNat u]
  | f + 1, u => if u < 128 then [UInt8.ofNat u] else UInt8.ofNat (u % 128 + 128) :: varF f (u / 128)
/-- a number by sevens -/
def varl (u : Nat) : List UInt8 := varF 8 u
theorem varF_small {f u : Nat} (h : u < 128) : varF f u = [UInt8.ofNat u] := by
  cases f <;> simp [varF, h]
theorem varF_big {f u : Nat} (h : 128 ≤ u) : varF (f + 1) u = UInt8.ofNat (u % 128 + 128) :: varF f (u / 128) := by
  rw [varF, if_neg (by omega)]
theorem varF_length (f : Nat) : ∀ u, 1 ≤ (varF f u).length ∧ (varF f u).length ≤ f + 1 := by
  induction f with
  | zero => intro u; simp [varF]
  | succ f ih =>
    intro u
    rw [varF]
    split
    · simp
    · have := ih (u / 128)
      simp only [List.length_cons]
      omega
theorem varl_length (u : Nat) : 1 ≤ (varl u).length ∧ (varl u).length ≤ 9 := varF_length 8 u
theorem or_more (x : Nat) (h : x < 256) : x ||| 128 = x % 128 + 128 := by
  have : ∀ y : Fin 256, y.val ||| 128 = y.val % 128 + 128 := by decide +kernel
  exact this ⟨x, h⟩
theorem byte_more (u : Nat) : bits .or .u8 ((u : Int) % 256) 128 = ((UInt8.ofNat (u % 128 + 128)).toNat : Int) := by
  have h1 := u8_or_nat (u % 256) 128 (Nat.mod_lt _ (by omega)) (by omega)
  rw [or_more _ (Nat.mod_lt _ (by omega))] at h1
  have e : ((u : Int) % 256) = ((u % 256 : Nat) : Int) := by omega
  rw [e]
  have h2 : u % 256 % 128 + 128 = u % 128 + 128 := by omega
  rw [h2] at h1
  refine h1.trans ?_
  have : (UInt8.ofNat (u % 128 + 128)).toNat = u % 128 + 128 := by simp; omega
  rw [this]

/-- a number by sevens out of bytes, and how many they are; i: bytes that are behind already -/
def gvF : Nat → Nat → List UInt8 → Option (Nat × Nat)
  | 0, _, _ => none
  | _ + 1, _, [] => none
  | f + 1, i, x :: r => if 128 ≤ x.toNat then (gvF f (i + 1) r).map fun p => (x.toNat % 128 + 128 * p.1, p.2 + 1) else if x.toNat = 0 ∧ 0 < i then none else some (x.toNat, 1)
def gv (l : List UInt8) : Option (Nat × Nat) := gvF 9 0 l
theorem gvF_lt : ∀ (f i : Nat) (l : List UInt8) (p : Nat × Nat), gvF f i l = some p → p.1 < 128 ^ f ∧ 1 ≤ p.2 ∧ p.2 ≤ f ∧ p.2 ≤ l.length
  | 0, _, _, _, h => by simp [gvF] at h
  | f + 1, _, [], _, h => by simp [gvF] at h
  | f + 1, i, x :: r, p, h => by
    rw [gvF] at h
    split at h
    · rename_i hx
      obtain ⟨q, hq, rfl⟩ := Option.map_eq_some_iff.1 h
      have ih := gvF_lt f (i + 1) r q hq
      simp only [List.length_cons, Nat.pow_succ]
      have : x.toNat % 128 < 128 := Nat.mod_lt _ (by omega)
      omega
    · split at h
      · cases h
      · injection h with h
        subst h
        have : 128 ^ 1 ≤ 128 ^ (f + 1) := Nat.pow_le_pow_right (by omega) (by omega)
        simp only [List.length_cons]
        omega
def gvN (l : List UInt8) (a : Int) : Option (Nat × Nat) := if 0 ≤ a then gv (l.drop a.toNat) else none
/-- the number, the place behind it, is it there -/
def gvA (l : List UInt8) (a : Int) : Int := match gvN l a with | some p => p.1 | none => 0
def gvB (l : List UInt8) (a : Int) : Int := match gvN l a with | some p => a + p.2 | none => 0
def gvC (l : List UInt8) (a : Int) : Bool := (gvN l a).isSome
theorem i64_nat (a : Nat) (ha : a < 9223372036854775808) : (BitVec.ofInt 64 (a : Int)).toNat = a := by
  rw [BitVec.ofInt_natCast, BitVec.toNat_ofNat, Nat.mod_eq_of_lt (by omega)]
theorem i64_and (a b : Nat) (ha : a < 9223372036854775808) (hb : b < 9223372036854775808) : bits .and .i64 (a : Int) (b : Int) = ((a &&& b : Nat) : Int) := by
  have hx : a &&& b < 2 ^ 63 := Nat.and_lt_two_pow _ hb
  show IntKind.i64.wrap ((BitVec.ofInt 64 (a : Int) &&& BitVec.ofInt 64 (b : Int)).toNat : Int) = _
  rw [BitVec.toNat_and, i64_nat a ha, i64_nat b hb, IntKind.wrap_i64]
  omega
theorem i64_or (a b : Nat) (ha : a < 9223372036854775808) (hb : b < 9223372036854775808) : bits .or .i64 (a : Int) (b : Int) = ((a ||| b : Nat) : Int) := by
  have hx : a ||| b < 2 ^ 63 := Nat.or_lt_two_pow ha hb
  show IntKind.i64.wrap ((BitVec.ofInt 64 (a : Int) ||| BitVec.ofInt 64 (b : Int)).toNat : Int) = _
  rw [BitVec.toNat_or, i64_nat a ha, i64_nat b hb, IntKind.wrap_i64]
  omega
theorem low7 (u : Nat) : u &&& 127 = u % 128 := Nat.and_two_pow_sub_one_eq_mod u 7
theorem byte_more_int (u : Nat) (hu : u < 9223372036854775808) : (bits .or .i64 (bits .and .i64 (u : Int) 127) 128) % 256 = ((UInt8.ofNat (u % 128 + 128)).toNat : Int) := by
  have h1 := i64_and u 127 hu (by omega)
  have h2 := i64_or (u % 128) 128 (by omega) (by omega)
  rw [low7] at h1
  rw [or_more (u % 128) (by omega)] at h2
  have h1' : bits .and .i64 (u : Int) 127 = ((u % 128 : Nat) : Int) := h1
  have h2' : bits .or .i64 ((u % 128 : Nat) : Int) 128 = ((u % 128 % 128 + 128 : Nat) : Int) := h2
  rw [h1', h2']
  have : (UInt8.ofNat (u % 128 + 128)).toNat = u % 128 + 128 := by simp; omega
  rw [this]
  omega
theorem or_seven_int {q k x : Nat} (hk : k < 9) (hq : q < 128 ^ k) (hx : x < 256) : bits .or .i64 (q : Int) (bits .and .i64 (x : Int) 127 * 2 ^ (7 * k)) = ((q + 128 ^ k * (x % 128) : Nat) : Int) := by
  have h1 := i64_and x 127 (by omega) (by omega)
  rw [low7 x] at h1
  have h1' : bits .and .i64 (x : Int) 127 = ((x % 128 : Nat) : Int) := h1
  rw [h1']
  have h7 : 128 ^ k ≤ 128 ^ 8 := Nat.pow_le_pow_right (by omega) (by omega)
  have h8 : x % 128 * 128 ^ k ≤ 127 * 128 ^ k := Nat.mul_le_mul_right _ (by omega)
  have e : ((x % 128 : Nat) : Int) * 2 ^ (7 * k) = ((x % 128 * 128 ^ k : Nat) : Int) := by
    rw [Int.natCast_mul, Int.natCast_pow, Int.pow_mul]
    rfl
  rw [e, i64_or q (x % 128 * 128 ^ k) (by omega) (by omega), Nat.or_comm]
  have hp : (2 : Nat) ^ (7 * k) = 128 ^ k := by rw [Nat.pow_mul]
  rw [nat_join (7 * k) (x % 128 * 128 ^ k) q (by rw [hp]; exact Nat.mul_mod_left _ _) (by rw [hp]; exact hq), Nat.mul_comm, Nat.add_comm]
theorem and_low7 (x : Nat) (h : x < 256) : x &&& 127 = x % 128 := by
  have := Nat.and_two_pow_sub_one_eq_mod x 7
  exact this
theorem pow_7 (k : Nat) : (2 : Nat) ^ (7 * k) = 128 ^ k := by rw [Nat.pow_mul]
/-- one byte's seven bits laid above -/
theorem or_seven {q k x : Nat} (hk : k < 9) (hq : q < 128 ^ k) (hx : x < 256) : bits .or .u64 (q : Int) (IntKind.u64.wrap (bits .and .u8 (x : Int) 127 * 2 ^ (7 * k))) = ((q + 128 ^ k * (x % 128) : Nat) : Int) := by
  have h1 := u8_and_nat x 127 hx (by omega)
  rw [and_low7 x hx] at h1
  have h1' : bits .and .u8 (x : Int) 127 = ((x % 128 : Nat) : Int) := h1
  rw [h1']
  have h7 : 128 ^ k ≤ 128 ^ 8 := Nat.pow_le_pow_right (by omega) (by omega)
  have h8 : x % 128 * 128 ^ k ≤ 127 * 128 ^ k := Nat.mul_le_mul_right _ (by omega)
  have e : ((x % 128 : Nat) : Int) * 2 ^ (7 * k) = ((x % 128 * 128 ^ k : Nat) : Int) := by
    rw [← pow_7 k]
    simp
  rw [e, IntKind.wrap_u64]
  have hlt : x % 128 * 128 ^ k < 18446744073709551616 := by omega
  have e2 : (((x % 128 * 128 ^ k : Nat) : Int) % 18446744073709551616) = ((x % 128 * 128 ^ k : Nat) : Int) := by omega
  rw [e2, u64_or_nat q (x % 128 * 128 ^ k) (by omega) hlt, Nat.or_comm, nat_join (7 * k) (x % 128 * 128 ^ k) q (by rw [pow_7]; exact Nat.mul_mod_left _ _) (by rw [pow_7]; exact hq), Nat.mul_comm, Nat.add_comm]
theorem or_seven2 {q k x : Nat} (hk : k < 9) (hq : q < 128 ^ k) (hx : x < 256) : bits .or .u64 (q : Int) (IntKind.u64.wrap (IntKind.u64.wrap (bits .and .u8 (x : Int) 127) * 2 ^ (7 * k))) = ((q + 128 ^ k * (x % 128) : Nat) : Int) := by
  have h1 := u8_and_nat x 127 hx (by omega)
  rw [and_low7 x hx] at h1
  have h1' : bits .and .u8 (x : Int) 127 = ((x % 128 : Nat) : Int) := h1
  have h2 : IntKind.u64.wrap (bits .and .u8 (x : Int) 127) = bits .and .u8 (x : Int) 127 := by
    rw [h1', IntKind.wrap_u64]
    omega
  rw [h2]
  exact or_seven hk hq hx
theorem gv_go {f i : Nat} {x : UInt8} {r : List UInt8} (h : 128 ≤ x.toNat) : gvF (f + 1) i (x :: r) = (gvF f (i + 1) r).map fun p => (x.toNat % 128 + 128 * p.1, p.2 + 1) := by rw [gvF, if_pos h]
theorem gv_zero {f i : Nat} {x : UInt8} {r : List UInt8} (h : x.toNat = 0) (hi : 0 < i) : gvF (f + 1) i (x :: r) = none := by rw [gvF, if_neg (by omega), if_pos ⟨h, hi⟩]
theorem gv_end {f i : Nat} {x : UInt8} {r : List UInt8} (h : x.toNat < 128) (hi : ¬ (x.toNat = 0 ∧ 0 < i)) : gvF (f + 1) i (x :: r) = some (x.toNat, 1) := by rw [gvF, if_neg (by omega), if_neg hi]
/-- what is known ahead of round k -/
def gvAt (l : List UInt8) (a k q : Nat) : Prop := gv (l.drop a) = (gvF (9 - k) k (l.drop (a + k))).map fun p => (q + 128 ^ k * p.1, p.2 + k)
theorem gvAt_zero (l : List UInt8) (a : Nat) : gvAt l a 0 0 := by
  unfold gvAt gv
  simp
theorem gvAt_next {l : List UInt8} {a k q : Nat} (h : gvAt l a k q) (hk : k < 9) (hl : a + k < l.length) (hx : 128 ≤ (l.getD (a + k) 0).toNat) : gvAt l a (k + 1) (q + 128 ^ k * ((l.getD (a + k) 0).toNat % 128)) := by
  unfold gvAt at *
  rw [h, List.drop_eq_getElem_cons hl]
  have e : l[a + k] = l.getD (a + k) 0 := by rw [List.getD_eq_getElem?_getD, List.getElem?_eq_getElem hl]; rfl
  rw [show 9 - k = (9 - (k + 1)) + 1 by omega, e, gv_go hx, Option.map_map]
  congr 1
  funext p
  simp only [Function.comp, Prod.mk.injEq]
  refine ⟨?_, by omega⟩
  rw [Nat.mul_add, Nat.pow_succ, Nat.mul_assoc, Nat.add_assoc]
theorem gvAt_stop {l : List UInt8} {a k q : Nat} (h : gvAt l a k q) (hk : 9 ≤ k ∨ l.length ≤ a + k) : gv (l.drop a) = none := by
  unfold gvAt at h
  rw [h]
  rcases hk with hk | hk
  · rw [show 9 - k = 0 by omega]
    simp [gvF]
  · rw [List.drop_of_length_le hk]
    cases 9 - k <;> simp [gvF]
theorem gvAt_zero_byte {l : List UInt8} {a k q : Nat} (h : gvAt l a k q) (hk : k < 9) (hl : a + k < l.length) (hx : (l.getD (a + k) 0).toNat = 0) (h0 : 0 < k) : gv (l.drop a) = none := by
  unfold gvAt at h
  have e : l[a + k] = l.getD (a + k) 0 := by rw [List.getD_eq_getElem?_getD, List.getElem?_eq_getElem hl]; rfl
  rw [h, List.drop_eq_getElem_cons hl, show 9 - k = (9 - (k + 1)) + 1 by omega, e, gv_zero hx h0]
  rfl
theorem gvAt_last {l : List UInt8} {a k q : Nat} (h : gvAt l a k q) (hk : k < 9) (hl : a + k < l.length) (hx : (l.getD (a + k) 0).toNat < 128) (h0 : ¬ ((l.getD (a + k) 0).toNat = 0 ∧ 0 < k)) :
    gv (l.drop a) = some (q + 128 ^ k * ((l.getD (a + k) 0).toNat % 128), k + 1) := by
  unfold gvAt at h
  have e : l[a + k] = l.getD (a + k) 0 := by rw [List.getD_eq_getElem?_getD, List.getElem?_eq_getElem hl]; rfl
  rw [h, List.drop_eq_getElem_cons hl, show 9 - k = (9 - (k + 1)) + 1 by omega, e, gv_end hx h0, Nat.mod_eq_of_lt hx]
  simp [Nat.add_comm]
theorem q_next {q k x : Nat} (hq : q < 128 ^ k) : q + 128 ^ k * (x % 128) < 128 ^ (k + 1) := by
  rw [Nat.pow_succ]
  have h1 : x % 128 ≤ 127 := by omega
  have h2 : 128 ^ k * (x % 128) ≤ 128 ^ k * 127 := Nat.mul_le_mul_left _ h1
  omega
end Go.Proofs.Ytoeknbogaclfdaa

namespace Go.Proofs.Ytoeknbogaclfdaa
set_option linter.unusedVariables false

theorem gvF_varF : ∀ (f fu i u : Nat) (r : List UInt8), f < fu → u < 128 ^ (f + 1) → (i = 0 ∨ 0 < u) → gvF fu i (varF f u ++ r) = some (u, (varF f u).length) := by
  intro f
  induction f with
  | zero =>
    intro fu i u r hf hu hi
    obtain ⟨fu, rfl⟩ : ∃ g, fu = g + 1 := ⟨fu - 1, by omega⟩
    have hu' : u < 128 := by simpa using hu
    have hb : (UInt8.ofNat u).toNat = u := by simp; omega
    simp only [varF, List.cons_append, List.nil_append]
    rw [gv_end (by omega) (by omega), hb]
    rfl
  | succ f ih =>
    intro fu i u r hf hu hi
    obtain ⟨fu, rfl⟩ : ∃ g, fu = g + 1 := ⟨fu - 1, by omega⟩
    by_cases hs : u < 128
    · have hb : (UInt8.ofNat u).toNat = u := by simp; omega
      rw [varF_small hs, List.cons_append, List.nil_append, gv_end (by omega) (by omega), hb]
      rfl
    · have hb : (UInt8.ofNat (u % 128 + 128)).toNat = u % 128 + 128 := by simp; omega
      have hd : u / 128 < 128 ^ (f + 1) := by
        rw [Nat.pow_succ 128 (f + 1)] at hu
        exact Nat.div_lt_of_lt_mul (by omega)
      rw [varF_big (by omega), List.cons_append, gv_go (by omega), ih fu (i + 1) (u / 128) r (by omega) hd (.inr (by omega)), hb]
      simp only [Option.map_some, List.length_cons, Option.some.injEq, Prod.mk.injEq, and_true]
      omega
theorem gvF_cut : ∀ (f fu i u : Nat), gvF fu i ((varF f u).dropLast) = none := by
  intro f
  induction f with
  | zero => intro fu i u; cases fu <;> simp [varF, gvF]
  | succ f ih =>
    intro fu i u
    by_cases hs : u < 128
    · rw [varF_small hs]
      cases fu <;> simp [gvF]
    · have hb : (UInt8.ofNat (u % 128 + 128)).toNat = u % 128 + 128 := by simp; omega
      have hl := varF_length f (u / 128)
      rw [varF_big (by omega), List.dropLast_cons_of_ne_nil (by intro h; rw [h] at hl; simp at hl)]
      cases fu with
      | zero => rfl
      | succ fu => rw [gv_go (by omega), ih fu (i + 1) (u / 128)]; rfl
theorem gv_there (a r : List UInt8) (k : Nat) (hk : k < 9223372036854775808) : gvN (a ++ varl k ++ r) (a.length : Int) = some (k, (varl k).length) := by
  unfold gvN
  rw [if_pos (by omega), Int.toNat_natCast, List.append_assoc, List.drop_left]
  exact gvF_varF 8 9 0 k r (by omega) (by omega) (.inl rfl)
theorem gv_there' {b a r : List UInt8} {k : Nat} {i : Int} (hb : b = a ++ varl k ++ r) (hi : i = (a.length : Int)) (hk : k < 9223372036854775808) : gvN b i = some (k, (varl k).length) := by
  subst hb hi
  exact gv_there a r k hk
theorem gv_cut_off (a : List UInt8) (k : Nat) : gvN ((a ++ varl k).take ((a ++ varl k).length - 1)) (a.length : Int) = none := by
  have hl := varl_length k
  unfold gvN
  rw [if_pos (by omega), Int.toNat_natCast, List.take_append, List.length_append]
  have e1 : a.take (a.length + (varl k).length - 1) = a := List.take_of_length_le (by omega)
  have e2 : a.length + (varl k).length - 1 - a.length = (varl k).length - 1 := by omega
  rw [e1, e2, List.drop_left, ← List.dropLast_eq_take]
  exact gvF_cut 8 9 0 k
end Go.Proofs.Ytoeknbogaclfdaa

namespace Go.Proofs.Ytoeknbogaclfdaa

def crcStep (c : Nat) : Nat := if c % 2 = 1 then (c / 2) ^^^ 2197175160 else c / 2
def crcSteps : Nat → Nat → Nat
  | 0, c => c
  | n + 1, c => crcStep (crcSteps n c)
def crcNext (c x : Nat) : Nat := crcSteps 8 (c ^^^ x)
def crcRun (c : Nat) (l : List UInt8) : Nat := l.foldl (fun c b => crcNext c b.toNat) c
def crcOf (l : List UInt8) : Nat := 4294967295 - crcRun 4294967295 l

theorem crcStep_lt {c : Nat} (h : c < 4294967296) : crcStep c < 4294967296 := by
  unfold crcStep
  split
  · exact Nat.xor_lt_two_pow (n := 32) (by omega) (by omega)
  · omega
theorem crcSteps_lt (n : Nat) {c : Nat} (h : c < 4294967296) : crcSteps n c < 4294967296 := by
  induction n with
  | zero => exact h
  | succ n ih => exact crcStep_lt ih
theorem xor_byte_lt {c x : Nat} (hc : c < 4294967296) (hx : x < 256) : c ^^^ x < 4294967296 := Nat.xor_lt_two_pow (n := 32) (by omega) (by omega)
theorem crcNext_lt {c x : Nat} (hc : c < 4294967296) (hx : x < 256) : crcNext c x < 4294967296 := crcSteps_lt 8 (xor_byte_lt hc hx)
theorem crcRun_lt (l : List UInt8) : ∀ {c : Nat}, c < 4294967296 → crcRun c l < 4294967296 := by
  induction l with
  | nil => intro c h; exact h
  | cons b l ih => intro c h; exact ih (crcNext_lt h b.toNat_lt)
theorem crcRun_append (c : Nat) (a b : List UInt8) : crcRun c (a ++ b) = crcRun (crcRun c a) b := by simp [crcRun]
theorem crcOf_lt (l : List UInt8) : crcOf l < 4294967296 := by unfold crcOf; omega
theorem crcRun_take {l : List UInt8} {k : Nat} (c : Nat) (h : k < l.length) : crcRun c (l.take (k + 1)) = crcNext (crcRun c (l.take k)) (l.getD k 0).toNat := by
  rw [List.take_succ_eq_append_getElem h, crcRun_append, List.getD_eq_getElem?_getD, List.getElem?_eq_getElem h]
  rfl
theorem odd_and (c : Nat) (hc : c < 4294967296) : bits .and .u32 (c : Int) 1 = ((c % 2 : Nat) : Int) := by
  have := u32_and_nat c 1 hc (by omega)
  rw [nat_mask1] at this
  exact this
theorem xor_poly (c : Nat) (hc : c < 4294967296) : bits .xor .u32 ((c : Int) / 2) 2197175160 = (((c / 2) ^^^ 2197175160 : Nat) : Int) := by
  have := u32_xor_nat (c / 2) 2197175160 (by omega) (by omega)
  rw [← this]
  rfl
theorem crcStep_odd {c : Nat} (h : c % 2 = 1) : crcStep c = (c / 2) ^^^ 2197175160 := by simp [crcStep, h]
theorem crcStep_even {c : Nat} (h : c % 2 = 0) : crcStep c = c / 2 := by simp [crcStep, h]
theorem ones_xor (q : Nat) (h : q < 4294967296) : 4294967295 ^^^ q = 4294967295 - q := by
  have h1 : (BitVec.allOnes 32 ^^^ BitVec.ofNat 32 q).toNat = 4294967295 ^^^ q := by
    rw [BitVec.toNat_xor, BitVec.toNat_ofNat, Nat.mod_eq_of_lt (by omega)]
    rfl
  have h2 : (BitVec.allOnes 32 ^^^ BitVec.ofNat 32 q).toNat = 4294967295 - q := by
    rw [BitVec.allOnes_xor, BitVec.toNat_not, BitVec.toNat_ofNat, Nat.mod_eq_of_lt (by omega)]
  rw [← h1, h2]
theorem not_u32 (q : Nat) (h : q < 4294967296) : bits .xor .u32 IntKind.u32.max (q : Int) = ((4294967295 - q : Nat) : Int) := by
  have := u32_xor_nat 4294967295 q (by omega) h
  rw [ones_xor q h] at this
  exact this
theorem crcOf_nine : crcOf [49, 50, 51, 52, 53, 54, 55, 56, 57] = 3808858755 := by decide +kernel
theorem crcOf_nil : crcOf [] = 0 := by decide +kernel
/-- a sum goes on over n noughts -/
def crcZeros : Nat → Nat → Nat
  | 0, c => c
  | n + 1, c => crcNext (crcZeros n c) 0
theorem crcZeros_lt (n : Nat) {c : Nat} (h : c < 4294967296) : crcZeros n c < 4294967296 := by
  induction n with
  | zero => exact h
  | succ n ih => exact crcNext_lt ih (by omega)
def crcJoin (a b n : Nat) : Nat := crcZeros n a ^^^ b
end Go.Proofs.Ytoeknbogaclfdaa

namespace Go.Proofs.Ytoeknbogaclfdaa

theorem xor_null {a b : Nat} (h : a ^^^ b = 0) : a = b := by
  have h1 : a ^^^ b ^^^ b = b := by rw [h, Nat.zero_xor]
  rwa [Nat.xor_assoc, Nat.xor_self, Nat.xor_zero] at h1
theorem crcStep_double (x : Nat) : crcStep (2 * x) = x := by
  unfold crcStep
  rw [if_neg (by omega)]
  omega
theorem crcStep_xor (a b : Nat) : crcStep (a ^^^ b) = crcStep a ^^^ crcStep b := by
  unfold crcStep
  rw [Nat.xor_div_two]
  have h := @Nat.xor_mod_two_eq_one a b
  by_cases ha : a % 2 = 1 <;> by_cases hb : b % 2 = 1 <;> simp only [ha, hb, if_true, if_false] at *
  · have : ¬ ((a ^^^ b) % 2 = 1) := by simp [h]
    rw [if_neg this]
    rw [Nat.xor_assoc, Nat.xor_comm 2197175160 (b / 2 ^^^ 2197175160), Nat.xor_assoc, Nat.xor_self, Nat.xor_zero]
  · have : (a ^^^ b) % 2 = 1 := by simp [h]
    rw [if_pos this]
    rw [Nat.xor_assoc, Nat.xor_comm (b / 2), ← Nat.xor_assoc]
  · have : (a ^^^ b) % 2 = 1 := by simp [h]
    rw [if_pos this, Nat.xor_assoc]
  · have : ¬ ((a ^^^ b) % 2 = 1) := by simp [h]
    rw [if_neg this]
theorem crcSteps_xor (n a b : Nat) : crcSteps n (a ^^^ b) = crcSteps n a ^^^ crcSteps n b := by
  induction n with
  | zero => rfl
  | succ n ih => simp only [crcSteps, ih, crcStep_xor]
theorem crcSteps_zero (n : Nat) : crcSteps n 0 = 0 := by
  induction n with
  | zero => rfl
  | succ n ih => simp [crcSteps, ih, crcStep]
theorem crcSteps_add (m n c : Nat) : crcSteps (m + n) c = crcSteps m (crcSteps n c) := by
  induction m with
  | zero => simp [crcSteps]
  | succ m ih => rw [show m + 1 + n = (m + n) + 1 by omega]; simp [crcSteps, ih]
theorem crcStep_null {z : Nat} (hz : z < 4294967296) (h : crcStep z = 0) : z = 0 := by
  unfold crcStep at h
  split at h
  · have h1 := xor_null h
    omega
  · omega
theorem crcSteps_null (n : Nat) {z : Nat} (hz : z < 4294967296) (h : crcSteps n z = 0) : z = 0 := by
  induction n with
  | zero => exact h
  | succ n ih => exact ih (crcStep_null (crcSteps_lt n hz) h)
theorem xor_lt32 {a b : Nat} (ha : a < 4294967296) (hb : b < 4294967296) : a ^^^ b < 4294967296 := Nat.xor_lt_two_pow (n := 32) ha hb
theorem crcSteps_inj (n : Nat) {a b : Nat} (ha : a < 4294967296) (hb : b < 4294967296) : crcSteps n a = crcSteps n b ↔ a = b := by
  constructor
  · intro h
    have h1 : crcSteps n (a ^^^ b) = 0 := by rw [crcSteps_xor, h, Nat.xor_self]
    exact xor_null (crcSteps_null n (xor_lt32 ha hb) h1)
  · intro h; rw [h]
theorem crcSteps_shift (k u : Nat) : crcSteps k (2 ^ k * u) = u := by
  induction k with
  | zero => simp [crcSteps]
  | succ k ih =>
    rw [show k + 1 = k + 1 from rfl, crcSteps_add k 1]
    have : crcSteps 1 (2 ^ (k + 1) * u) = 2 ^ k * u := by
      have e : 2 ^ (k + 1) * u = 2 * (2 ^ k * u) := by rw [Nat.pow_succ, Nat.mul_comm (2 ^ k) 2, Nat.mul_assoc]
      rw [e]
      exact crcStep_double _
    rw [this, ih]
theorem crcNext_linear (c d x y : Nat) : crcNext (c ^^^ d) (x ^^^ y) = crcNext c x ^^^ crcNext d y := by
  unfold crcNext
  rw [← crcSteps_xor]
  congr 1
  rw [Nat.xor_assoc, Nat.xor_assoc]
  congr 1
  rw [← Nat.xor_assoc, ← Nat.xor_assoc, Nat.xor_comm d x]
theorem crcNext_laws (c d x : Nat) (hc : c < 4294967296) (hd : d < 4294967296) (hx : x < 256) :
    ((crcNext c x = crcNext d x) ↔ (c = d)) ∧ crcNext c x ^^^ crcNext d x = crcNext (c ^^^ d) 0 := by
  refine ⟨?_, ?_⟩
  · unfold crcNext
    rw [crcSteps_inj 8 (xor_byte_lt hc hx) (xor_byte_lt hd hx)]
    constructor
    · intro h
      have := congrArg (· ^^^ x) h
      simpa [Nat.xor_assoc] using this
    · intro h; rw [h]
  · rw [← crcNext_linear, Nat.xor_self]
theorem xor_low (b u : Nat) (hb : b < 256) : b ^^^ 256 * u = b + 256 * u := by
  have h1 : b ^^^ 256 * u = b ||| 256 * u := by
    apply Nat.eq_of_testBit_eq
    intro i
    rw [Nat.testBit_xor, Nat.testBit_or]
    have e : (256 : Nat) * u = 2 ^ 8 * u := rfl
    rw [e, Nat.testBit_two_pow_mul]
    by_cases hi : 8 ≤ i
    · have : b.testBit i = false := Nat.testBit_lt_two_pow (Nat.lt_of_lt_of_le hb (by have := Nat.pow_le_pow_right (n := 2) (by omega) hi; simpa using this))
      simp [this, hi]
    · simp [hi]
  rw [h1, Nat.or_comm, nat_join 8 (256 * u) b (Nat.mul_mod_right _ _) hb, Nat.add_comm]
/-- a row's run out of the row's number -/
theorem crcRun_number (l : List UInt8) : ∀ s, crcRun s l = crcSteps (8 * l.length) (s ^^^ unle l) := by
  induction l with
  | nil => intro s; simp [crcRun, crcSteps, unle]
  | cons b r ih =>
    intro s
    have e : crcRun s (b :: r) = crcRun (crcNext s b.toNat) r := rfl
    rw [e, ih]
    have e2 : crcNext s b.toNat ^^^ unle r = crcSteps 8 (s ^^^ unle (b :: r)) := by
      unfold crcNext
      have h1 : unle r = crcSteps 8 (2 ^ 8 * unle r) := (crcSteps_shift 8 (unle r)).symm
      rw [h1, ← crcSteps_xor]
      congr 1
      rw [Nat.xor_assoc]
      congr 1
      simp only [unle]
      exact xor_low _ _ b.toNat_lt
    rw [e2, ← crcSteps_add]
    simp [Nat.mul_add]
theorem crcZeros_run (n c : Nat) : crcZeros n c = crcSteps (8 * n) c := by
  induction n with
  | zero => rfl
  | succ n ih =>
    rw [crcZeros, ih]
    unfold crcNext
    rw [Nat.xor_zero, ← crcSteps_add]
    congr 1
    omega
theorem crcOf_xor (l : List UInt8) : crcOf l = 4294967295 ^^^ crcRun 4294967295 l := by
  unfold crcOf
  exact (ones_xor _ (crcRun_lt l (by omega))).symm
theorem xor_self_cancel (a b : Nat) : a ^^^ (a ^^^ b) = b := by rw [← Nat.xor_assoc, Nat.xor_self, Nat.zero_xor]
theorem crcJoin_append (a b : List UInt8) : crcJoin (crcOf a) (crcOf b) b.length = crcOf (a ++ b) := by
  unfold crcJoin
  rw [crcZeros_run, crcOf_xor a, crcOf_xor b, crcOf_xor (a ++ b), crcRun_append, crcSteps_xor, crcRun_number b 4294967295, crcRun_number b (crcRun 4294967295 a), crcSteps_xor (8 * b.length) 4294967295 (unle b), crcSteps_xor (8 * b.length) _ (unle b)]
  generalize crcSteps (8 * b.length) 4294967295 = f
  generalize crcSteps (8 * b.length) (crcRun 4294967295 a) = g
  generalize crcSteps (8 * b.length) (unle b) = h
  rw [Nat.xor_comm f g, Nat.xor_assoc g f, ← Nat.xor_assoc f, Nat.xor_comm f 4294967295, Nat.xor_assoc 4294967295 f, xor_self_cancel f h, ← Nat.xor_assoc, Nat.xor_comm g, Nat.xor_assoc]
theorem crcJoin_none (a : Nat) : crcJoin a 0 0 = a := by simp [crcJoin, crcZeros]
theorem crcJoin_first (l : List UInt8) : crcJoin 0 (crcOf l) l.length = crcOf l := by
  unfold crcJoin
  rw [crcZeros_run, crcSteps_zero, Nat.zero_xor]
/-- of three rows of one length -/
theorem unle_xor3 (a b c d : List UInt8) (hb : b.length = a.length) (hc : c.length = a.length) (hd : d.length = a.length)
    (h : ∀ i, i < a.length → d.getD i 0 = a.getD i 0 ^^^ b.getD i 0 ^^^ c.getD i 0) : unle d = unle a ^^^ unle b ^^^ unle c := by
  induction a generalizing b c d with
  | nil =>
    have hb' : b = [] := List.eq_nil_of_length_eq_zero hb
    have hc' : c = [] := List.eq_nil_of_length_eq_zero hc
    have hd' : d = [] := List.eq_nil_of_length_eq_zero hd
    simp [hb', hc', hd', unle]
  | cons x a ih =>
    match b, c, d, hb, hc, hd with
    | y :: b, z :: c, v :: d, hb, hc, hd =>
      have h0 := h 0 (by simp)
      simp only [List.getD_cons_zero] at h0
      have h1 := ih b c d (by simpa using hb) (by simpa using hc) (by simpa using hd) (fun i hi => by
        have := h (i + 1) (by simp; omega)
        simpa using this)
      have e : ∀ (p : UInt8) (q : List UInt8), unle (p :: q) = p.toNat ^^^ 256 * unle q := fun p q => by
        simp only [unle]
        exact (xor_low _ _ p.toNat_lt).symm
      rw [e, e, e, e, h1, h0]
      simp only [UInt8.toNat_xor]
      have hm : ∀ p q : Nat, 256 * (p ^^^ q) = 256 * p ^^^ 256 * q := fun p q => by
        have := @Nat.shiftLeft_xor_distrib 8 p q
        simp only [Nat.shiftLeft_eq] at this
        rw [Nat.mul_comm, Nat.mul_comm 256 p, Nat.mul_comm 256 q]
        exact this
      rw [hm, hm]
      generalize x.toNat = x
      generalize y.toNat = y
      generalize z.toNat = z
      generalize 256 * unle a = p
      generalize 256 * unle b = q
      generalize 256 * unle c = r
      apply Nat.eq_of_testBit_eq
      intro i
      simp only [Nat.testBit_xor]
      cases x.testBit i <;> cases y.testBit i <;> cases z.testBit i <;> cases p.testBit i <;> cases q.testBit i <;> cases r.testBit i <;> rfl
theorem crcOf_linear (a b c d : List UInt8) (hb : b.length = a.length) (hc : c.length = a.length) (hd : d.length = a.length)
    (h : ∀ i, i < a.length → d.getD i 0 = a.getD i 0 ^^^ b.getD i 0 ^^^ c.getD i 0) : crcOf a ^^^ crcOf b ^^^ crcOf c = crcOf d := by
  simp only [crcOf_xor, crcRun_number, hb, hc, hd, unle_xor3 a b c d hb hc hd h, crcSteps_xor]
  generalize crcSteps (8 * a.length) 4294967295 = f
  generalize crcSteps (8 * a.length) (unle a) = x
  generalize crcSteps (8 * a.length) (unle b) = y
  generalize crcSteps (8 * a.length) (unle c) = z
  apply Nat.eq_of_testBit_eq
  intro i
  simp only [Nat.testBit_xor]
  cases f.testBit i <;> cases x.testBit i <;> cases y.testBit i <;> cases z.testBit i <;> cases Nat.testBit 4294967295 i <;> rfl
end Go.Proofs.Ytoeknbogaclfdaa

namespace Go.Proofs.Ytoeknbogaclfdaa

/-- what was sealed -/
def crcOpen (l : List UInt8) : Option (List UInt8) := if 4 ≤ l.length ∧ l.drop (l.length - 4) = le 4 (crcOf (l.take (l.length - 4))) then some (l.take (l.length - 4)) else none
theorem crcOpen_put (l : List UInt8) : crcOpen (put l (crcOf l) 4) = some l := by
  unfold crcOpen put
  have e : (l ++ le 4 (crcOf l)).length - 4 = l.length := by simp [le_length]
  rw [e, List.take_left, List.drop_left, if_pos ⟨by simp [le_length], rfl⟩]
theorem crcOpen_short {l : List UInt8} (h : l.length < 4) : crcOpen l = none := by
  unfold crcOpen
  rw [if_neg (by omega)]
theorem sealed_iff {l : List UInt8} (h : 4 ≤ l.length) : l.drop (l.length - 4) = le 4 (crcOf (l.take (l.length - 4))) ↔ crcSteps (8 * l.length) (4294967295 ^^^ unle l) = crcSteps 32 4294967295 := by
  have hlen : (l.drop (l.length - 4)).length = 4 := by rw [List.length_drop]; omega
  rw [le_inj hlen (by have := crcOf_lt (l.take (l.length - 4)); omega), ← crcRun_number]
  have e : crcRun 4294967295 l = crcRun (crcRun 4294967295 (l.take (l.length - 4))) (l.drop (l.length - 4)) := by rw [← crcRun_append, List.take_append_drop]
  have hr := crcRun_lt (l.take (l.length - 4)) (c := 4294967295) (by omega)
  have hu := unle_lt (l.drop (l.length - 4))
  rw [hlen] at hu
  rw [e, crcRun_number (l.drop (l.length - 4)), hlen, crcOf_xor]
  generalize crcRun 4294967295 (l.take (l.length - 4)) = r at *
  generalize unle (l.drop (l.length - 4)) = u at *
  rw [crcSteps_inj 32 (xor_lt32 hr hu) (by omega)]
  constructor
  · intro h
    rw [h, Nat.xor_comm 4294967295 r, xor_self_cancel]
  · intro h
    rw [← h, Nat.xor_comm r u, Nat.xor_assoc, Nat.xor_self, Nat.xor_zero]
theorem unle_inj {a b : List UInt8} (h : a.length = b.length) (hu : unle a = unle b) : a = b := by
  rw [← le_unle a, ← le_unle b, h, hu]
theorem crcOpen_turned {s L : List UInt8} {M K : Nat} (h4 : 4 ≤ s.length) (hs : s.drop (s.length - 4) = le 4 (crcOf (s.take (s.length - 4)))) (hl : L.length = s.length) (hu : unle L = unle s ^^^ (M * 2 ^ K)) (hM : M < 4294967296) (hK : K ≤ 8 * s.length) :
    crcOpen L = if M = 0 then some (s.take (s.length - 4)) else none := by
  by_cases h0 : M = 0
  · subst h0
    have e : L = s := unle_inj hl (by rw [hu]; simp)
    subst e
    unfold crcOpen
    rw [if_pos ⟨h4, hs⟩, if_pos rfl]
  · rw [if_neg h0]
    unfold crcOpen
    rw [if_neg]
    rintro ⟨_, h2⟩
    have h3 := (sealed_iff (by omega)).1 h2
    have h5 := (sealed_iff h4).1 hs
    rw [hl, hu, ← Nat.xor_assoc, crcSteps_xor, h5] at h3
    have h6 : crcSteps (8 * s.length) (M * 2 ^ K) = 0 := by
      have := congrArg (crcSteps 32 4294967295 ^^^ ·) h3
      simp only [xor_self_cancel, Nat.xor_self] at this
      exact this
    rw [show 8 * s.length = (8 * s.length - K) + K by omega, crcSteps_add, Nat.mul_comm M, crcSteps_shift] at h6
    exact h0 (crcSteps_null _ hM h6)
theorem unle_set_xor (l : List UInt8) : ∀ (j : Nat) (b : UInt8), j < l.length → unle (l.set j (l.getD j 0 ^^^ b)) = unle l ^^^ (b.toNat * 256 ^ j) := by
  induction l with
  | nil => intro j b h; simp at h
  | cons x r ih =>
    intro j b h
    rcases j with _ | j
    · simp only [List.set_cons_zero, List.getD_cons_zero, unle, Nat.pow_zero, Nat.mul_one]
      rw [← xor_low _ _ (UInt8.toNat_lt _), ← xor_low _ _ (UInt8.toNat_lt _), UInt8.toNat_xor, Nat.xor_assoc, Nat.xor_comm b.toNat, Nat.xor_assoc]
    · have := ih j b (by simpa using h)
      simp only [List.set_cons_succ, List.getD_cons_succ, unle, this]
      rw [← xor_low _ _ (UInt8.toNat_lt _), ← xor_low _ _ (UInt8.toNat_lt _), Nat.xor_assoc]
      congr 1
      have hm := @Nat.shiftLeft_xor_distrib 8 (unle r) (b.toNat * 256 ^ j)
      simp only [Nat.shiftLeft_eq] at hm
      have e8 : (2 : Nat) ^ 8 = 256 := rfl
      rw [e8] at hm
      rw [Nat.mul_comm 256, hm, Nat.mul_comm 256, Nat.pow_succ, Nat.mul_assoc]
theorem bit_of_byte (j e : Nat) (he : e < 8) : (UInt8.ofNat (2 ^ e)).toNat * 256 ^ j = 2 ^ (8 * j + e) := by
  have h1 : (UInt8.ofNat (2 ^ e)).toNat = 2 ^ e := by
    have : 2 ^ e < 256 := by
      have := Nat.pow_lt_pow_right (a := 2) (by omega) he
      omega
    simp [Nat.mod_eq_of_lt this]
  rw [h1, ← pow_8, ← Nat.pow_add, Nat.add_comm]
theorem low_bits_succ (t i : Nat) : t % 2 ^ (i + 1) = t % 2 ^ i + t / 2 ^ i % 2 * 2 ^ i := by
  rw [Nat.pow_succ, Nat.mod_mul]
  rw [Nat.mul_comm]
theorem xor_next_bit {m i K : Nat} (h : m < 2 ^ i) : (m + 2 ^ i) * 2 ^ K = (m * 2 ^ K) ^^^ 2 ^ (K + i) := by
  have h1 : m * 2 ^ K < 2 ^ (K + i) := by
    rw [Nat.pow_add, Nat.mul_comm m]
    exact (Nat.mul_lt_mul_left (Nat.two_pow_pos K)).2 h
  have h2 : m * 2 ^ K ^^^ 2 ^ (K + i) = 2 ^ (K + i) + m * 2 ^ K := by
    rw [Nat.xor_comm]
    have e : 2 ^ (K + i) ^^^ m * 2 ^ K = 2 ^ (K + i) ||| m * 2 ^ K := by
      apply Nat.eq_of_testBit_eq
      intro q
      rw [Nat.testBit_xor, Nat.testBit_or, Nat.testBit_two_pow]
      by_cases hq : K + i = q
      · subst hq
        rw [Nat.testBit_lt_two_pow h1]
        simp
      · simp [hq]
    rw [e, nat_join (K + i) _ _ (Nat.mod_self _) h1]
  rw [h2, Nat.add_mul, ← Nat.pow_add, Nat.add_comm i K, Nat.add_comm]
end Go.Proofs.Ytoeknbogaclfdaa

namespace Go.Proofs.Ytoeknbogaclfdaa
open Go

theorem i64_low (n m : Int) (k : Nat) (hk : k ≤ 62) (hm : (BitVec.ofInt 64 m).toNat = 2 ^ k - 1) : bits .and .i64 n m = n % ((2 ^ k : Nat) : Int) := by
  have key : (BitVec.ofInt 64 n &&& BitVec.ofInt 64 m).toNat = (n % ((2 ^ 64 : Nat) : Int)).toNat % 2 ^ k := by
    rw [BitVec.toNat_and, BitVec.toNat_ofInt, hm, Nat.and_two_pow_sub_one_eq_mod]
  show IntKind.i64.wrap ((BitVec.ofInt 64 n &&& BitVec.ofInt 64 m).toNat : Nat) = n % ((2 ^ k : Nat) : Int)
  rw [key, IntKind.wrap_i64]
  have hp : 2 ^ k ≤ 2 ^ 62 := Nat.pow_le_pow_right (by omega) hk
  have h0 := Nat.two_pow_pos k
  have hd : (2 : Nat) ^ 64 = 2 ^ k * 2 ^ (64 - k) := by rw [← Nat.pow_add]; congr 1; omega
  have h1 : (n % ((2 ^ 64 : Nat) : Int)).toNat % 2 ^ k < 2 ^ k := Nat.mod_lt _ h0
  have h2 : (((n % ((2 ^ 64 : Nat) : Int)).toNat % 2 ^ k : Nat) : Int) = n % ((2 ^ k : Nat) : Int) := by
    rw [Int.natCast_emod, Int.toNat_of_nonneg (Int.emod_nonneg _ (by omega)), hd]
    push_cast
    rw [Int.emod_emod_of_dvd _ ⟨_, rfl⟩]
  rw [h2]
  generalize n % ((2 ^ k : Nat) : Int) = y at *
  omega
theorem and3 (n : Int) : bits .and .i64 n 3 = n % 4 := i64_low n 3 2 (by omega) (by decide)
theorem and15 (n : Int) : bits .and .i64 n 15 = n % 16 := i64_low n 15 4 (by omega) (by decide)
theorem and63 (n : Int) : bits .and .i64 n 63 = n % 64 := i64_low n 63 6 (by omega) (by decide)
theorem and255 (n : Int) : bits .and .i64 n 255 = n % 256 := i64_low n 255 8 (by omega) (by decide)
theorem and511 (n : Int) : bits .and .i64 n 511 = n % 512 := i64_low n 511 9 (by omega) (by decide)
theorem and65535 (n : Int) : bits .and .i64 n 65535 = n % 65536 := i64_low n 65535 16 (by omega) (by decide)
theorem and1 (n : Int) : bits .and .i64 n 1 = n % 2 := i64_low n 1 1 (by omega) (by decide)
end Go.Proofs.Ytoeknbogaclfdaa

namespace Go.Proofs.Ytoeknbogaclfdaa
open Go

theorem nat_and_two_pow (x k : Nat) : x &&& 2 ^ k = x / 2 ^ k % 2 * 2 ^ k := by
  rw [← Nat.toNat_testBit]
  refine Nat.eq_of_testBit_eq fun i => ?_
  rw [Nat.testBit_and, Nat.testBit_two_pow]
  cases h : x.testBit k
  · by_cases hk : k = i
    · subst hk
      simp [h]
    · simp [hk]
  · by_cases hk : k = i
    · subst hk
      simp [h, Nat.testBit_two_pow_self]
    · simp [hk, Nat.testBit_two_pow]
theorem i64_bit (n m : Int) (k : Nat) (hk : k ≤ 61) (hm : (BitVec.ofInt 64 m).toNat = 2 ^ k) : bits .and .i64 n m = (((n % 18446744073709551616).toNat / 2 ^ k % 2 * 2 ^ k : Nat) : Int) := by
  have key : (BitVec.ofInt 64 n &&& BitVec.ofInt 64 m).toNat = (n % 18446744073709551616).toNat / 2 ^ k % 2 * 2 ^ k := by
    rw [BitVec.toNat_and, BitVec.toNat_ofInt, hm, nat_and_two_pow]
    rfl
  show IntKind.i64.wrap ((BitVec.ofInt 64 n &&& BitVec.ofInt 64 m).toNat : Nat) = _
  rw [key, IntKind.wrap_i64]
  have hp : 2 ^ k ≤ 2 ^ 61 := Nat.pow_le_pow_right (by omega) hk
  have h1 : (n % 18446744073709551616).toNat / 2 ^ k % 2 < 2 := Nat.mod_lt _ (by omega)
  have h2 : (n % 18446744073709551616).toNat / 2 ^ k % 2 * 2 ^ k ≤ 1 * 2 ^ k := Nat.mul_le_mul_right _ (by omega)
  omega
theorem and4 (n : Int) : bits .and .i64 n 4 = n / 4 % 2 * 4 := by
  rw [i64_bit n 4 2 (by omega) (by decide)]
  omega
theorem and16 (n : Int) : bits .and .i64 n 16 = n / 16 % 2 * 16 := by
  rw [i64_bit n 16 4 (by omega) (by decide)]
  omega
end Go.Proofs.Ytoeknbogaclfdaa
