/-
  Numbers by sevens, as lists of bytes. No program in sight.
-/
import Derived.Test.YtoeknbogaclfdaaZLePlain
import Derived.Laws.BitsLemmas
namespace Go.Proofs.Ytoeknbogaclfdaa
set_option linter.unusedVariables false

def varF : Nat → Nat → List UInt8
  | 0, u => [UInt8.ofNat u]
  | f + 1, u => if u < 128 then [UInt8.ofNat u] else UInt8.ofNat (u % 128 + 128) :: varF f (u / 128)
/-- a number by sevens -/
def varl (u : Nat) : List UInt8 := varF 8 u
theorem varF_small {f u : Nat} (h : u < 128) : varF f u = [UInt8.ofNat u] := by
  cases f <;> simp [varF, h]
theorem varF_big {f u : Nat} (h : 128 ≤ u) : varF (f + 1) u = UInt8.ofNat (u % 128 + 128) :: varF f (u / 128) := by
  rw [varF, if_neg (by omega)]
theorem varF_length (f : Nat) : ∀ u, 1 ≤ (varF f u).length ∧ (varF f u).length ≤ f + 1 := by
  induction f with
  | zero => intro u; simp [varF]
  | succ f ih =>
    intro u
    rw [varF]
    split
    · simp
    · have := ih (u / 128)
      simp only [List.length_cons]
      omega
theorem varl_length (u : Nat) : 1 ≤ (varl u).length ∧ (varl u).length ≤ 9 := varF_length 8 u
theorem or_more (x : Nat) (h : x < 256) : x ||| 128 = x % 128 + 128 := by
  have : ∀ y : Fin 256, y.val ||| 128 = y.val % 128 + 128 := by decide +kernel
  exact this ⟨x, h⟩
theorem byte_more (u : Nat) : bits .or .u8 ((u : Int) % 256) 128 = ((UInt8.ofNat (u % 128 + 128)).toNat : Int) := by
  have h1 := u8_or_nat (u % 256) 128 (Nat.mod_lt _ (by omega)) (by omega)
  rw [or_more _ (Nat.mod_lt _ (by omega))] at h1
  have e : ((u : Int) % 256) = ((u % 256 : Nat) : Int) := by omega
  rw [e]
  have h2 : u % 256 % 128 + 128 = u % 128 + 128 := by omega
  rw [h2] at h1
  refine h1.trans ?_
  have : (UInt8.ofNat (u % 128 + 128)).toNat = u % 128 + 128 := by simp; omega
  rw [this]

/-- a number by sevens out of bytes, and how many they are; i: bytes that are behind already -/
def gvF : Nat → Nat → List UInt8 → Option (Nat × Nat)
  | 0, _, _ => none
  | _ + 1, _, [] => none
  | f + 1, i, x :: r => if 128 ≤ x.toNat then (gvF f (i + 1) r).map fun p => (x.toNat % 128 + 128 * p.1, p.2 + 1) else if x.toNat = 0 ∧ 0 < i then none else some (x.toNat, 1)
def gv (l : List UInt8) : Option (Nat × Nat) := gvF 9 0 l
theorem gvF_lt : ∀ (f i : Nat) (l : List UInt8) (p : Nat × Nat), gvF f i l = some p → p.1 < 128 ^ f ∧ 1 ≤ p.2 ∧ p.2 ≤ f ∧ p.2 ≤ l.length
  | 0, _, _, _, h => by simp [gvF] at h
  | f + 1, _, [], _, h => by simp [gvF] at h
  | f + 1, i, x :: r, p, h => by
    rw [gvF] at h
    split at h
    · rename_i hx
      obtain ⟨q, hq, rfl⟩ := Option.map_eq_some_iff.1 h
      have ih := gvF_lt f (i + 1) r q hq
      simp only [List.length_cons, Nat.pow_succ]
      have : x.toNat % 128 < 128 := Nat.mod_lt _ (by omega)
      omega
    · split at h
      · cases h
      · injection h with h
        subst h
        have : 128 ^ 1 ≤ 128 ^ (f + 1) := Nat.pow_le_pow_right (by omega) (by omega)
        simp only [List.length_cons]
        omega
def gvN (l : List UInt8) (a : Int) : Option (Nat × Nat) := if 0 ≤ a then gv (l.drop a.toNat) else none
/-- the number, the place behind it, is it there -/
def gvA (l : List UInt8) (a : Int) : Int := match gvN l a with | some p => p.1 | none => 0
def gvB (l : List UInt8) (a : Int) : Int := match gvN l a with | some p => a + p.2 | none => 0
def gvC (l : List UInt8) (a : Int) : Bool := (gvN l a).isSome
theorem i64_nat (a : Nat) (ha : a < 9223372036854775808) : (BitVec.ofInt 64 (a : Int)).toNat = a := by
  rw [BitVec.ofInt_natCast, BitVec.toNat_ofNat, Nat.mod_eq_of_lt (by omega)]
theorem i64_and (a b : Nat) (ha : a < 9223372036854775808) (hb : b < 9223372036854775808) : bits .and .i64 (a : Int) (b : Int) = ((a &&& b : Nat) : Int) := by
  have hx : a &&& b < 2 ^ 63 := Nat.and_lt_two_pow _ hb
  show IntKind.i64.wrap ((BitVec.ofInt 64 (a : Int) &&& BitVec.ofInt 64 (b : Int)).toNat : Int) = _
  rw [BitVec.toNat_and, i64_nat a ha, i64_nat b hb, IntKind.wrap_i64]
  omega
theorem i64_or (a b : Nat) (ha : a < 9223372036854775808) (hb : b < 9223372036854775808) : bits .or .i64 (a : Int) (b : Int) = ((a ||| b : Nat) : Int) := by
  have hx : a ||| b < 2 ^ 63 := Nat.or_lt_two_pow ha hb
  show IntKind.i64.wrap ((BitVec.ofInt 64 (a : Int) ||| BitVec.ofInt 64 (b : Int)).toNat : Int) = _
  rw [BitVec.toNat_or, i64_nat a ha, i64_nat b hb, IntKind.wrap_i64]
  omega
theorem low7 (u : Nat) : u &&& 127 = u % 128 := Nat.and_two_pow_sub_one_eq_mod u 7
theorem byte_more_int (u : Nat) (hu : u < 9223372036854775808) : (bits .or .i64 (bits .and .i64 (u : Int) 127) 128) % 256 = ((UInt8.ofNat (u % 128 + 128)).toNat : Int) := by
  have h1 := i64_and u 127 hu (by omega)
  have h2 := i64_or (u % 128) 128 (by omega) (by omega)
  rw [low7] at h1
  rw [or_more (u % 128) (by omega)] at h2
  have h1' : bits .and .i64 (u : Int) 127 = ((u % 128 : Nat) : Int) := h1
  have h2' : bits .or .i64 ((u % 128 : Nat) : Int) 128 = ((u % 128 % 128 + 128 : Nat) : Int) := h2
  rw [h1', h2']
  have : (UInt8.ofNat (u % 128 + 128)).toNat = u % 128 + 128 := by simp; omega
  rw [this]
  omega
theorem or_seven_int {q k x : Nat} (hk : k < 9) (hq : q < 128 ^ k) (hx : x < 256) : bits .or .i64 (q : Int) (bits .and .i64 (x : Int) 127 * 2 ^ (7 * k)) = ((q + 128 ^ k * (x % 128) : Nat) : Int) := by
  have h1 := i64_and x 127 (by omega) (by omega)
  rw [low7 x] at h1
  have h1' : bits .and .i64 (x : Int) 127 = ((x % 128 : Nat) : Int) := h1
  rw [h1']
  have h7 : 128 ^ k ≤ 128 ^ 8 := Nat.pow_le_pow_right (by omega) (by omega)
  have h8 : x % 128 * 128 ^ k ≤ 127 * 128 ^ k := Nat.mul_le_mul_right _ (by omega)
  have e : ((x % 128 : Nat) : Int) * 2 ^ (7 * k) = ((x % 128 * 128 ^ k : Nat) : Int) := by
    rw [Int.natCast_mul, Int.natCast_pow, Int.pow_mul]
    rfl
  rw [e, i64_or q (x % 128 * 128 ^ k) (by omega) (by omega), Nat.or_comm]
  have hp : (2 : Nat) ^ (7 * k) = 128 ^ k := by rw [Nat.pow_mul]
  rw [nat_join (7 * k) (x % 128 * 128 ^ k) q (by rw [hp]; exact Nat.mul_mod_left _ _) (by rw [hp]; exact hq), Nat.mul_comm, Nat.add_comm]
theorem and_low7 (x : Nat) (h : x < 256) : x &&& 127 = x % 128 := by
  have := Nat.and_two_pow_sub_one_eq_mod x 7
  exact this
theorem pow_7 (k : Nat) : (2 : Nat) ^ (7 * k) = 128 ^ k := by rw [Nat.pow_mul]
/-- one byte's seven bits laid above -/
theorem or_seven {q k x : Nat} (hk : k < 9) (hq : q < 128 ^ k) (hx : x < 256) : bits .or .u64 (q : Int) (IntKind.u64.wrap (bits .and .u8 (x : Int) 127 * 2 ^ (7 * k))) = ((q + 128 ^ k * (x % 128) : Nat) : Int) := by
  have h1 := u8_and_nat x 127 hx (by omega)
  rw [and_low7 x hx] at h1
  have h1' : bits .and .u8 (x : Int) 127 = ((x % 128 : Nat) : Int) := h1
  rw [h1']
  have h7 : 128 ^ k ≤ 128 ^ 8 := Nat.pow_le_pow_right (by omega) (by omega)
  have h8 : x % 128 * 128 ^ k ≤ 127 * 128 ^ k := Nat.mul_le_mul_right _ (by omega)
  have e : ((x % 128 : Nat) : Int) * 2 ^ (7 * k) = ((x % 128 * 128 ^ k : Nat) : Int) := by
    rw [← pow_7 k]
    simp
  rw [e, IntKind.wrap_u64]
  have hlt : x % 128 * 128 ^ k < 18446744073709551616 := by omega
  have e2 : (((x % 128 * 128 ^ k : Nat) : Int) % 18446744073709551616) = ((x % 128 * 128 ^ k : Nat) : Int) := by omega
  rw [e2, u64_or_nat q (x % 128 * 128 ^ k) (by omega) hlt, Nat.or_comm, nat_join (7 * k) (x % 128 * 128 ^ k) q (by rw [pow_7]; exact Nat.mul_mod_left _ _) (by rw [pow_7]; exact hq), Nat.mul_comm, Nat.add_comm]
theorem or_seven2 {q k x : Nat} (hk : k < 9) (hq : q < 128 ^ k) (hx : x < 256) : bits .or .u64 (q : Int) (IntKind.u64.wrap (IntKind.u64.wrap (bits .and .u8 (x : Int) 127) * 2 ^ (7 * k))) = ((q + 128 ^ k * (x % 128) : Nat) : Int) := by
  have h1 := u8_and_nat x 127 hx (by omega)
  rw [and_low7 x hx] at h1
  have h1' : bits .and .u8 (x : Int) 127 = ((x % 128 : Nat) : Int) := h1
  have h2 : IntKind.u64.wrap (bits .and .u8 (x : Int) 127) = bits .and .u8 (x : Int) 127 := by
    rw [h1', IntKind.wrap_u64]
    omega
  rw [h2]
  exact or_seven hk hq hx
theorem gv_go {f i : Nat} {x : UInt8} {r : List UInt8} (h : 128 ≤ x.toNat) : gvF (f + 1) i (x :: r) = (gvF f (i + 1) r).map fun p => (x.toNat % 128 + 128 * p.1, p.2 + 1) := by rw [gvF, if_pos h]
theorem gv_zero {f i : Nat} {x : UInt8} {r : List UInt8} (h : x.toNat = 0) (hi : 0 < i) : gvF (f + 1) i (x :: r) = none := by rw [gvF, if_neg (by omega), if_pos ⟨h, hi⟩]
theorem gv_end {f i : Nat} {x : UInt8} {r : List UInt8} (h : x.toNat < 128) (hi : ¬ (x.toNat = 0 ∧ 0 < i)) : gvF (f + 1) i (x :: r) = some (x.toNat, 1) := by rw [gvF, if_neg (by omega), if_neg hi]
/-- what is known ahead of round k -/
def gvAt (l : List UInt8) (a k q : Nat) : Prop := gv (l.drop a) = (gvF (9 - k) k (l.drop (a + k))).map fun p => (q + 128 ^ k * p.1, p.2 + k)
theorem gvAt_zero (l : List UInt8) (a : Nat) : gvAt l a 0 0 := by
  unfold gvAt gv
  simp
theorem gvAt_next {l : List UInt8} {a k q : Nat} (h : gvAt l a k q) (hk : k < 9) (hl : a + k < l.length) (hx : 128 ≤ (l.getD (a + k) 0).toNat) : gvAt l a (k + 1) (q + 128 ^ k * ((l.getD (a + k) 0).toNat % 128)) := by
  unfold gvAt at *
  rw [h, List.drop_eq_getElem_cons hl]
  have e : l[a + k] = l.getD (a + k) 0 := by rw [List.getD_eq_getElem?_getD, List.getElem?_eq_getElem hl]; rfl
  rw [show 9 - k = (9 - (k + 1)) + 1 by omega, e, gv_go hx, Option.map_map]
  congr 1
  funext p
  simp only [Function.comp, Prod.mk.injEq]
  refine ⟨?_, by omega⟩
  rw [Nat.mul_add, Nat.pow_succ, Nat.mul_assoc, Nat.add_assoc]
theorem gvAt_stop {l : List UInt8} {a k q : Nat} (h : gvAt l a k q) (hk : 9 ≤ k ∨ l.length ≤ a + k) : gv (l.drop a) = none := by
  unfold gvAt at h
  rw [h]
  rcases hk with hk | hk
  · rw [show 9 - k = 0 by omega]
    simp [gvF]
  · rw [List.drop_of_length_le hk]
    cases 9 - k <;> simp [gvF]
theorem gvAt_zero_byte {l : List UInt8} {a k q : Nat} (h : gvAt l a k q) (hk : k < 9) (hl : a + k < l.length) (hx : (l.getD (a + k) 0).toNat = 0) (h0 : 0 < k) : gv (l.drop a) = none := by
  unfold gvAt at h
  have e : l[a + k] = l.getD (a + k) 0 := by rw [List.getD_eq_getElem?_getD, List.getElem?_eq_getElem hl]; rfl
  rw [h, List.drop_eq_getElem_cons hl, show 9 - k = (9 - (k + 1)) + 1 by omega, e, gv_zero hx h0]
  rfl
theorem gvAt_last {l : List UInt8} {a k q : Nat} (h : gvAt l a k q) (hk : k < 9) (hl : a + k < l.length) (hx : (l.getD (a + k) 0).toNat < 128) (h0 : ¬ ((l.getD (a + k) 0).toNat = 0 ∧ 0 < k)) :
    gv (l.drop a) = some (q + 128 ^ k * ((l.getD (a + k) 0).toNat % 128), k + 1) := by
  unfold gvAt at h
  have e : l[a + k] = l.getD (a + k) 0 := by rw [List.getD_eq_getElem?_getD, List.getElem?_eq_getElem hl]; rfl
  rw [h, List.drop_eq_getElem_cons hl, show 9 - k = (9 - (k + 1)) + 1 by omega, e, gv_end hx h0, Nat.mod_eq_of_lt hx]
  simp [Nat.add_comm]
theorem q_next {q k x : Nat} (hq : q < 128 ^ k) : q + 128 ^ k * (x % 128) < 128 ^ (k + 1) := by
  rw [Nat.pow_succ]
  have h1 : x % 128 ≤ 127 := by omega
  have h2 : 128 ^ k * (x % 128) ≤ 128 ^ k * 127 := Nat.mul_le_mul_left _ h1
  omega
end Go.Proofs.Ytoeknbogaclfdaa
