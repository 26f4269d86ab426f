/-
  Numbers as bytes, the lowest first. No program in sight.
-/
import Derived.Laws.BitsAllLaws
namespace Go.Proofs.Ytoeknbogaclfdaa
set_option linter.unusedVariables false

/-- the lowest bytes of a number -/
def le : Nat → Nat → List UInt8
  | 0, _ => []
  | w + 1, n => UInt8.ofNat n :: le w (n / 256)
theorem le_length (w n : Nat) : (le w n).length = w := by
  induction w generalizing n with
  | zero => rfl
  | succ w ih => simp [le, ih]
theorem le_snoc (w n : Nat) : le (w + 1) n = le w n ++ [UInt8.ofNat (n / 256 ^ w)] := by
  induction w generalizing n with
  | zero => simp [le]
  | succ w ih =>
    rw [le, ih]
    simp only [le, List.cons_append]
    rw [Nat.div_div_eq_div_mul, Nat.pow_succ', Nat.mul_comm]
def put (l : List UInt8) (n width : Nat) : List UInt8 := l ++ le width n

/-- the number of some bytes, the lowest first -/
def unle : List UInt8 → Nat
  | [] => 0
  | b :: r => b.toNat + 256 * unle r
theorem unle_lt (l : List UInt8) : unle l < 256 ^ l.length := by
  induction l with
  | nil => simp [unle]
  | cons b r ih =>
    have hb := b.toNat_lt
    simp only [unle, List.length_cons, Nat.pow_succ]
    omega
theorem unle_append (a b : List UInt8) : unle (a ++ b) = unle a + 256 ^ a.length * unle b := by
  induction a with
  | nil => simp [unle]
  | cons x r ih =>
    simp only [List.cons_append, unle, ih, List.length_cons, Nat.pow_succ]
    rw [Nat.mul_add, ← Nat.mul_assoc, Nat.mul_comm 256 (256 ^ r.length)]
    omega
theorem unle_take_succ {l : List UInt8} {a k : Nat} (h : a + k < l.length) : unle ((l.drop a).take (k + 1)) = unle ((l.drop a).take k) + 256 ^ k * (l.getD (a + k) 0).toNat := by
  have hl : k < (l.drop a).length := by rw [List.length_drop]; omega
  have hlen : ((l.drop a).take k).length = k := by rw [List.length_take]; omega
  rw [List.take_succ_eq_append_getElem hl, unle_append, hlen, List.getElem_drop, List.getD_eq_getElem?_getD, List.getElem?_eq_getElem h]
  simp [unle]
theorem unle_drop {l : List UInt8} {a k : Nat} (h : a < l.length) : unle ((l.drop a).take (k + 1)) = (l.getD a 0).toNat + 256 * unle ((l.drop (a + 1)).take k) := by
  rw [List.drop_eq_getElem_cons h, List.take_succ_cons, unle, List.getD_eq_getElem?_getD, List.getElem?_eq_getElem h]
  rfl
theorem pow_8 (k : Nat) : (2 : Nat) ^ (8 * k) = 256 ^ k := by rw [Nat.pow_mul]
theorem or_up {q k b : Nat} (hk : k < 8) (hq : q < 256 ^ k) (hb : b < 256) : bits .or .u64 (q : Int) (IntKind.u64.wrap ((b : Int) * 2 ^ (8 * k))) = ((q + 256 ^ k * b : Nat) : Int) := by
  have h7 : 256 ^ k ≤ 256 ^ 7 := Nat.pow_le_pow_right (by omega) (by omega)
  have h8 : b * 256 ^ k ≤ 255 * 256 ^ k := Nat.mul_le_mul_right _ (by omega)
  have e : (b : Int) * 2 ^ (8 * k) = ((b * 256 ^ k : Nat) : Int) := by
    rw [← pow_8 k]
    simp
  rw [e, IntKind.wrap_u64]
  have hlt : b * 256 ^ k < 18446744073709551616 := by omega
  have e2 : (((b * 256 ^ k : Nat) : Int) % 18446744073709551616) = ((b * 256 ^ k : Nat) : Int) := by omega
  rw [e2, u64_or_nat q (b * 256 ^ k) (by omega) hlt, Nat.or_comm, nat_join (8 * k) (b * 256 ^ k) q (by rw [pow_8]; exact Nat.mul_mod_left _ _) (by rw [pow_8]; exact hq), Nat.mul_comm, Nat.add_comm]
theorem or_down {q k b : Nat} (hk : k < 8) (hq : q < 256 ^ k) (hb : b < 256) : bits .or .u64 (IntKind.u64.wrap ((q : Int) * 256)) (b : Int) = ((b + 256 * q : Nat) : Int) := by
  have h7 : 256 ^ k ≤ 256 ^ 7 := Nat.pow_le_pow_right (by omega) (by omega)
  rw [IntKind.wrap_u64]
  have e2 : ((q : Int) * 256 % 18446744073709551616) = ((q * 256 : Nat) : Int) := by omega
  rw [e2, u64_or_nat (q * 256) b (by omega) (by omega), nat_join 8 (q * 256) b (Nat.mul_mod_left _ _) hb, Nat.mul_comm, Nat.add_comm]

theorem le_unle (l : List UInt8) : le l.length (unle l) = l := by
  induction l with
  | nil => rfl
  | cons b r ih =>
    have hb := b.toNat_lt
    simp only [List.length_cons, le, unle]
    have e1 : (b.toNat + 256 * unle r) / 256 = unle r := by omega
    have e2 : UInt8.ofNat (b.toNat + 256 * unle r) = b := by
      apply UInt8.toNat_inj.1
      simp
    rw [e1, e2, ih]
theorem unle_le (w n : Nat) : unle (le w n) = n % 256 ^ w := by
  induction w generalizing n with
  | zero => simp [le, unle, Nat.mod_one]
  | succ w ih =>
    simp only [le, unle, ih]
    rw [Nat.pow_succ, Nat.mul_comm (256 ^ w) 256, Nat.mod_mul]
    simp
theorem le_inj {l : List UInt8} {w n : Nat} (hl : l.length = w) (hn : n < 256 ^ w) : l = le w n ↔ unle l = n := by
  constructor
  · intro h
    rw [h, unle_le, Nat.mod_eq_of_lt hn]
  · intro h
    rw [← h, ← hl, le_unle]

def getOk (l : List UInt8) (a wd : Int) : Bool := decide (1 ≤ wd) && decide (wd ≤ 8) && decide (0 ≤ a) && decide (a + wd ≤ l.length)
def getN (l : List UInt8) (a wd : Int) : Nat := if getOk l a wd then unle ((l.drop a.toNat).take wd.toNat) else 0
theorem getN_lt (l : List UInt8) (a wd : Int) : getN l a wd < 18446744073709551616 := by
  unfold getN
  split
  · rename_i h
    simp only [getOk, Bool.and_eq_true, decide_eq_true_eq] at h
    have h1 := unle_lt ((l.drop a.toNat).take wd.toNat)
    have h2 : ((l.drop a.toNat).take wd.toNat).length ≤ 8 := by rw [List.length_take]; omega
    have h3 := Nat.pow_le_pow_right (n := 256) (by omega) h2
    omega
  · omega

end Go.Proofs.Ytoeknbogaclfdaa
