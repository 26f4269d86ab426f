/-
  Numbers as bytes, the lowest first. No program in sight.
-/
/-
  Numbers by sevens, as lists of bytes. No program in sight.
-/
/-
  Numbers by sevens: what is put is got. Lists of bytes alone.
-/
/-
  The plain law of sums: what the program's sums are, as functions of numbers and lists. No program in sight.
-/
/-
  The plain law of turned bits: of a sealed row in which bits are turned, all within 32 side by side, nothing is opened. No program in sight.
-/
/-
  Low bits of an integer by a mask. No program in sight.
-/
/-
  One bit of an integer by a mask. No program in sight.
-/
import Derived.Laws.BitsAllLaws
import Derived.Laws.BitsLemmas
namespace Go.Proofs.Ytoeknbogaclfdaa
set_option linter.unusedVariables false
def le : Nat → Nat → List UInt8
  | 0, _ => []
  | w + 1, n => UInt8.ofNat n :: le w (n / 256)
theorem le_length (w n : Nat) : (le w n).length = w := by
  induction w generalizing n with
  | zero => rfl
  | succ w ih => simp [le, ih]
theorem le_snoc (w n : Nat) : le (w + 1) n = le w n ++ [UInt8.ofNat (n / 256 ^ w)] := by
  induction w generalizing n with
  | zero => simp [le]
  | succ w ih =>
    rw [le, ih]
    simp only [le, List.cons_append]
    rw [Nat.div_div_eq_div_mul, Nat.pow_succ', Nat.mul_comm]
def put (l : List UInt8) (n width : Nat) : List UInt8 := l ++ le width n
def unle : List UInt8 → Nat
  | [] => 0
  | b :: r => b.toNat + 256 * unle r
theorem unle_lt (l : List UInt8) : unle l < 256 ^ l.length := by
  induction l with
  | nil => simp [unle]
  | cons b r ih =>
    have hb := b.toNat_lt
    simp only [unle, List.length_cons, Nat.pow_succ]
    omega
theorem unle_append (a b : List UInt8) : unle (a ++ b) = unle a + 256 ^ a.length * unle b := by
  induction a with
  | nil => simp [unle]
  | cons x r ih =>
    simp only [List.cons_append, unle, ih, List.length_cons, Nat.pow_succ]
    rw [Nat.mul_add, ← Nat.mul_assoc, Nat.mul_comm 256 (256 ^ r.length)]
    omega
theorem unle_take_succ {l : List UInt8} {a k : Nat} (h : a + k < l.length) : unle ((l.drop a).take (k + 1)) = unle ((l.drop a).take k) + 256 ^ k * (l.getD (a + k) 0).toNat := by
  have hl : k < (l.drop a).length := by rw [List.length_drop]; omega
  have hlen : ((l.drop a).take k).length = k := by rw [List.length_take]; omega
  rw [List.take_succ_eq_append_getElem hl, unle_append, hlen, List.getElem_drop, List.getD_eq_getElem?_getD, List.getElem?_eq_getElem h]
  simp [unle]
theorem pow_8 (k : Nat) : (2 : Nat) ^ (8 * k) = 256 ^ k := by rw [Nat.pow_mul]
theorem or_up {q k b : Nat} (hk : k < 8) (hq : q < 256 ^ k) (hb : b < 256) : bits .or .u64 (q : Int) (IntKind.u64.wrap ((b : Int) * 2 ^ (8 * k))) = ((q + 256 ^ k * b : Nat) : Int) := by
  have h7 : 256 ^ k ≤ 256 ^ 7 := Nat.pow_le_pow_right (by omega) (by omega)
  have h8 : b * 256 ^ k ≤ 255 * 256 ^ k := Nat.mul_le_mul_right _ (by omega)
  have e : (b : Int) * 2 ^ (8 * k) = ((b * 256 ^ k : Nat) : Int) := by
    rw [← pow_8 k]
    simp
  rw [e, IntKind.wrap_u64]
  have hlt : b * 256 ^ k < 18446744073709551616 := by omega
  have e2 : (((b * 256 ^ k : Nat) : Int) % 18446744073709551616) = ((b * 256 ^ k : Nat) : Int) := by omega
  rw [e2, u64_or_nat q (b * 256 ^ k) (by omega) hlt, Nat.or_comm, nat_join (8 * k) (b * 256 ^ k) q (by rw [pow_8]; exact Nat.mul_mod_left _ _) (by rw [pow_8]; exact hq), Nat.mul_comm, Nat.add_comm]
theorem unle_le (w n : Nat) : unle (le w n) = n % 256 ^ w := by
  induction w generalizing n with
  | zero => simp [le, unle, Nat.mod_one]
  | succ w ih =>
    simp only [le, unle, ih]
    rw [Nat.pow_succ, Nat.mul_comm (256 ^ w) 256, Nat.mod_mul]
    simp
end Go.Proofs.Ytoeknbogaclfdaa

namespace Go.Proofs.Ytoeknbogaclfdaa
set_option linter.unusedVariables false
def varF : Nat → Nat → List UInt8
  | 0, u => [UInt8.ofNat u]
  | f + 1, u => if u < 128 then [UInt8.ofNat u] else UInt8.ofNat (u % 128 + 128) :: varF f (u / 128)
def varl (u : Nat) : List UInt8 := varF 8 u
theorem varF_small {f u : Nat} (h : u < 128) : varF f u = [UInt8.ofNat u] := by
  cases f <;> simp [varF, h]
theorem varF_big {f u : Nat} (h : 128 ≤ u) : varF (f + 1) u = UInt8.ofNat (u % 128 + 128) :: varF f (u / 128) := by
  rw [varF, if_neg (by omega)]
theorem varF_length (f : Nat) : ∀ u, 1 ≤ (varF f u).length ∧ (varF f u).length ≤ f + 1 := by
  induction f with
  | zero => intro u; simp [varF]
  | succ f ih =>
    intro u
    rw [varF]
    split
    · simp
    · have := ih (u / 128)
      simp only [List.length_cons]
      omega
theorem varl_length (u : Nat) : 1 ≤ (varl u).length ∧ (varl u).length ≤ 9 := varF_length 8 u
theorem or_more (x : Nat) (h : x < 256) : x ||| 128 = x % 128 + 128 := by
  have : ∀ y : Fin 256, y.val ||| 128 = y.val % 128 + 128 := by decide +kernel
  exact this ⟨x, h⟩
theorem byte_more (u : Nat) : bits .or .u8 ((u : Int) % 256) 128 = ((UInt8.ofNat (u % 128 + 128)).toNat : Int) := by
  have h1 := u8_or_nat (u % 256) 128 (Nat.mod_lt _ (by omega)) (by omega)
  rw [or_more _ (Nat.mod_lt _ (by omega))] at h1
  have e : ((u : Int) % 256) = ((u % 256 : Nat) : Int) := by omega
  rw [e]
  have h2 : u % 256 % 128 + 128 = u % 128 + 128 := by omega
  rw [h2] at h1
  refine h1.trans ?_
  have : (UInt8.ofNat (u % 128 + 128)).toNat = u % 128 + 128 := by simp; omega
  rw [this]
def gvF : Nat → Nat → List UInt8 → Option (Nat × Nat)
  | 0, _, _ => none
  | _ + 1, _, [] => none
  | f + 1, i, x :: r => if 128 ≤ x.toNat then (gvF f (i + 1) r).map fun p => (x.toNat % 128 + 128 * p.1, p.2 + 1) else if x.toNat = 0 ∧ 0 < i then none else some (x.toNat, 1)
def gv (l : List UInt8) : Option (Nat × Nat) := gvF 9 0 l
theorem gvF_lt : ∀ (f i : Nat) (l : List UInt8) (p : Nat × Nat), gvF f i l = some p → p.1 < 128 ^ f ∧ 1 ≤ p.2 ∧ p.2 ≤ f ∧ p.2 ≤ l.length
  | 0, _, _, _, h => by simp [gvF] at h
  | f + 1, _, [], _, h => by simp [gvF] at h
  | f + 1, i, x :: r, p, h => by
    rw [gvF] at h
    split at h
    · rename_i hx
      obtain ⟨q, hq, rfl⟩ := Option.map_eq_some_iff.1 h
      have ih := gvF_lt f (i + 1) r q hq
      simp only [List.length_cons, Nat.pow_succ]
      have : x.toNat % 128 < 128 := Nat.mod_lt _ (by omega)
      omega
    · split at h
      · cases h
      · injection h with h
        subst h
        have : 128 ^ 1 ≤ 128 ^ (f + 1) := Nat.pow_le_pow_right (by omega) (by omega)
        simp only [List.length_cons]
        omega
def gvN (l : List UInt8) (a : Int) : Option (Nat × Nat) := if 0 ≤ a then gv (l.drop a.toNat) else none
def gvA (l : List UInt8) (a : Int) : Int := match gvN l a with | some p => p.1 | none => 0
def gvB (l : List UInt8) (a : Int) : Int := match gvN l a with | some p => a + p.2 | none => 0
def gvC (l : List UInt8) (a : Int) : Bool := (gvN l a).isSome
theorem i64_nat (a : Nat) (ha : a < 9223372036854775808) : (BitVec.ofInt 64 (a : Int)).toNat = a := by
  rw [BitVec.ofInt_natCast, BitVec.toNat_ofNat, Nat.mod_eq_of_lt (by omega)]
theorem i64_and (a b : Nat) (ha : a < 9223372036854775808) (hb : b < 9223372036854775808) : bits .and .i64 (a : Int) (b : Int) = ((a &&& b : Nat) : Int) := by
  have hx : a &&& b < 2 ^ 63 := Nat.and_lt_two_pow _ hb
  show IntKind.i64.wrap ((BitVec.ofInt 64 (a : Int) &&& BitVec.ofInt 64 (b : Int)).toNat : Int) = _
  rw [BitVec.toNat_and, i64_nat a ha, i64_nat b hb, IntKind.wrap_i64]
  omega
theorem i64_or (a b : Nat) (ha : a < 9223372036854775808) (hb : b < 9223372036854775808) : bits .or .i64 (a : Int) (b : Int) = ((a ||| b : Nat) : Int) := by
  have hx : a ||| b < 2 ^ 63 := Nat.or_lt_two_pow ha hb
  show IntKind.i64.wrap ((BitVec.ofInt 64 (a : Int) ||| BitVec.ofInt 64 (b : Int)).toNat : Int) = _
  rw [BitVec.toNat_or, i64_nat a ha, i64_nat b hb, IntKind.wrap_i64]
  omega
theorem low7 (u : Nat) : u &&& 127 = u % 128 := Nat.and_two_pow_sub_one_eq_mod u 7
theorem byte_more_int (u : Nat) (hu : u < 9223372036854775808) : (bits .or .i64 (bits .and .i64 (u : Int) 127) 128) % 256 = ((UInt8.ofNat (u % 128 + 128)).toNat : Int) := by
  have h1 := i64_and u 127 hu (by omega)
  have h2 := i64_or (u % 128) 128 (by omega) (by omega)
  rw [low7] at h1
  rw [or_more (u % 128) (by omega)] at h2
  have h1' : bits .and .i64 (u : Int) 127 = ((u % 128 : Nat) : Int) := h1
  have h2' : bits .or .i64 ((u % 128 : Nat) : Int) 128 = ((u % 128 % 128 + 128 : Nat) : Int) := h2
  rw [h1', h2']
  have : (UInt8.ofNat (u % 128 + 128)).toNat = u % 128 + 128 := by simp; omega
  rw [this]
  omega
theorem and_low7 (x : Nat) (h : x < 256) : x &&& 127 = x % 128 := by
  have := Nat.and_two_pow_sub_one_eq_mod x 7
  exact this
theorem pow_7 (k : Nat) : (2 : Nat) ^ (7 * k) = 128 ^ k := by rw [Nat.pow_mul]
theorem or_seven {q k x : Nat} (hk : k < 9) (hq : q < 128 ^ k) (hx : x < 256) : bits .or .u64 (q : Int) (IntKind.u64.wrap (bits .and .u8 (x : Int) 127 * 2 ^ (7 * k))) = ((q + 128 ^ k * (x % 128) : Nat) : Int) := by
  have h1 := u8_and_nat x 127 hx (by omega)
  rw [and_low7 x hx] at h1
  have h1' : bits .and .u8 (x : Int) 127 = ((x % 128 : Nat) : Int) := h1
  rw [h1']
  have h7 : 128 ^ k ≤ 128 ^ 8 := Nat.pow_le_pow_right (by omega) (by omega)
  have h8 : x % 128 * 128 ^ k ≤ 127 * 128 ^ k := Nat.mul_le_mul_right _ (by omega)
  have e : ((x % 128 : Nat) : Int) * 2 ^ (7 * k) = ((x % 128 * 128 ^ k : Nat) : Int) := by
    rw [← pow_7 k]
    simp
  rw [e, IntKind.wrap_u64]
  have hlt : x % 128 * 128 ^ k < 18446744073709551616 := by omega
  have e2 : (((x % 128 * 128 ^ k : Nat) : Int) % 18446744073709551616) = ((x % 128 * 128 ^ k : Nat) : Int) := by omega
  rw [e2, u64_or_nat q (x % 128 * 128 ^ k) (by omega) hlt, Nat.or_comm, nat_join (7 * k) (x % 128 * 128 ^ k) q (by rw [pow_7]; exact Nat.mul_mod_left _ _) (by rw [pow_7]; exact hq), Nat.mul_comm, Nat.add_comm]
theorem or_seven2 {q k x : Nat} (hk : k < 9) (hq : q < 128 ^ k) (hx : x < 256) : bits .or .u64 (q : Int) (IntKind.u64.wrap (IntKind.u64.wrap (bits .and .u8 (x : Int) 127) * 2 ^ (7 * k))) = ((q + 128 ^ k * (x % 128) : Nat) : Int) := by
  have h1 := u8_and_nat x 127 hx (by omega)
  rw [and_low7 x hx] at h1
  have h1' : bits .and .u8 (x : Int) 127 = ((x % 128 : Nat) : Int) := h1
  have h2 : IntKind.u64.wrap (bits .and .u8 (x : Int) 127) = bits .and .u8 (x : Int) 127 := by
    rw [h1', IntKind.wrap_u64]
    omega
  rw [h2]
  exact or_seven hk hq hx
theorem gv_go {f i : Nat} {x : UInt8} {r : List UInt8} (h : 128 ≤ x.toNat) : gvF (f + 1) i (x :: r) = (gvF f (i + 1) r).map fun p => (x.toNat % 128 + 128 * p.1, p.2 + 1) := by rw [gvF, if_pos h]
theorem gv_zero {f i : Nat} {x : UInt8} {r : List UInt8} (h : x.toNat = 0) (hi : 0 < i) : gvF (f + 1) i (x :: r) = none := by rw [gvF, if_neg (by omega), if_pos ⟨h, hi⟩]
theorem gv_end {f i : Nat} {x : UInt8} {r : List UInt8} (h : x.toNat < 128) (hi : ¬ (x.toNat = 0 ∧ 0 < i)) : gvF (f + 1) i (x :: r) = some (x.toNat, 1) := by rw [gvF, if_neg (by omega), if_neg hi]
def gvAt (l : List UInt8) (a k q : Nat) : Prop := gv (l.drop a) = (gvF (9 - k) k (l.drop (a + k))).map fun p => (q + 128 ^ k * p.1, p.2 + k)
theorem gvAt_zero (l : List UInt8) (a : Nat) : gvAt l a 0 0 := by
  unfold gvAt gv
  simp
theorem gvAt_next {l : List UInt8} {a k q : Nat} (h : gvAt l a k q) (hk : k < 9) (hl : a + k < l.length) (hx : 128 ≤ (l.getD (a + k) 0).toNat) : gvAt l a (k + 1) (q + 128 ^ k * ((l.getD (a + k) 0).toNat % 128)) := by
  unfold gvAt at *
  rw [h, List.drop_eq_getElem_cons hl]
  have e : l[a + k] = l.getD (a + k) 0 := by rw [List.getD_eq_getElem?_getD, List.getElem?_eq_getElem hl]; rfl
  rw [show 9 - k = (9 - (k + 1)) + 1 by omega, e, gv_go hx, Option.map_map]
  congr 1
  funext p
  simp only [Function.comp, Prod.mk.injEq]
  refine ⟨?_, by omega⟩
  rw [Nat.mul_add, Nat.pow_succ, Nat.mul_assoc, Nat.add_assoc]
theorem gvAt_stop {l : List UInt8} {a k q : Nat} (h : gvAt l a k q) (hk : 9 ≤ k ∨ l.length ≤ a + k) : gv (l.drop a) = none := by
  unfold gvAt at h
  rw [h]
  rcases hk with hk | hk
  · rw [show 9 - k = 0 by omega]
    simp [gvF]
  · rw [List.drop_of_length_le hk]
    cases 9 - k <;> simp [gvF]
theorem gvAt_zero_byte {l : List UInt8} {a k q : Nat} (h : gvAt l a k q) (hk : k < 9) (hl : a + k < l.length) (hx : (l.getD (a + k) 0).toNat = 0) (h0 : 0 < k) : gv (l.drop a) = none := by
  unfold gvAt at h
  have e : l[a + k] = l.getD (a + k) 0 := by rw [List.getD_eq_getElem?_getD, List.getElem?_eq_getElem hl]; rfl
  rw [h, List.drop_eq_getElem_cons hl, show 9 - k = (9 - (k + 1)) + 1 by omega, e, gv_zero hx h0]
  rfl
theorem gvAt_last {l : List UInt8} {a k q : Nat} (h : gvAt l a k q) (hk : k < 9) (hl : a + k < l.length) (hx : (l.getD (a + k) 0).toNat < 128) (h0 : ¬ ((l.getD (a + k) 0).toNat = 0 ∧ 0 < k)) :
    gv (l.drop a) = some (q + 128 ^ k * ((l.getD (a + k) 0).toNat % 128), k + 1) := by
  unfold gvAt at h
  have e : l[a + k] = l.getD (a + k) 0 := by rw [List.getD_eq_getElem?_getD, List.getElem?_eq_getElem hl]; rfl
  rw [h, List.drop_eq_getElem_cons hl, show 9 - k = (9 - (k + 1)) + 1 by omega, e, gv_end hx h0, Nat.mod_eq_of_lt hx]
  simp [Nat.add_comm]
theorem q_next {q k x : Nat} (hq : q < 128 ^ k) : q + 128 ^ k * (x % 128) < 128 ^ (k + 1) := by
  rw [Nat.pow_succ]
  have h1 : x % 128 ≤ 127 := by omega
  have h2 : 128 ^ k * (x % 128) ≤ 128 ^ k * 127 := Nat.mul_le_mul_left _ h1
  omega
end Go.Proofs.Ytoeknbogaclfdaa

namespace Go.Proofs.Ytoeknbogaclfdaa
set_option linter.unusedVariables false
theorem gvF_varF : ∀ (f fu i u : Nat) (r : List UInt8), f < fu → u < 128 ^ (f + 1) → (i = 0 ∨ 0 < u) → gvF fu i (varF f u ++ r) = some (u, (varF f u).length) := by
  intro f
  induction f with
  | zero =>
    intro fu i u r hf hu hi
    obtain ⟨fu, rfl⟩ : ∃ g, fu = g + 1 := ⟨fu - 1, by omega⟩
    have hu' : u < 128 := by simpa using hu
    have hb : (UInt8.ofNat u).toNat = u := by simp; omega
    simp only [varF, List.cons_append, List.nil_append]
    rw [gv_end (by omega) (by omega), hb]
    rfl
  | succ f ih =>
    intro fu i u r hf hu hi
    obtain ⟨fu, rfl⟩ : ∃ g, fu = g + 1 := ⟨fu - 1, by omega⟩
    by_cases hs : u < 128
    · have hb : (UInt8.ofNat u).toNat = u := by simp; omega
      rw [varF_small hs, List.cons_append, List.nil_append, gv_end (by omega) (by omega), hb]
      rfl
    · have hb : (UInt8.ofNat (u % 128 + 128)).toNat = u % 128 + 128 := by simp; omega
      have hd : u / 128 < 128 ^ (f + 1) := by
        rw [Nat.pow_succ 128 (f + 1)] at hu
        exact Nat.div_lt_of_lt_mul (by omega)
      rw [varF_big (by omega), List.cons_append, gv_go (by omega), ih fu (i + 1) (u / 128) r (by omega) hd (.inr (by omega)), hb]
      simp only [Option.map_some, List.length_cons, Option.some.injEq, Prod.mk.injEq, and_true]
      omega
theorem gv_there (a r : List UInt8) (k : Nat) (hk : k < 9223372036854775808) : gvN (a ++ varl k ++ r) (a.length : Int) = some (k, (varl k).length) := by
  unfold gvN
  rw [if_pos (by omega), Int.toNat_natCast, List.append_assoc, List.drop_left]
  exact gvF_varF 8 9 0 k r (by omega) (by omega) (.inl rfl)
theorem gv_there' {b a r : List UInt8} {k : Nat} {i : Int} (hb : b = a ++ varl k ++ r) (hi : i = (a.length : Int)) (hk : k < 9223372036854775808) : gvN b i = some (k, (varl k).length) := by
  subst hb hi
  exact gv_there a r k hk
end Go.Proofs.Ytoeknbogaclfdaa

namespace Go.Proofs.Ytoeknbogaclfdaa
def crcStep (c : Nat) : Nat := if c % 2 = 1 then (c / 2) ^^^ 2197175160 else c / 2
def crcSteps : Nat → Nat → Nat
  | 0, c => c
  | n + 1, c => crcStep (crcSteps n c)
def crcNext (c x : Nat) : Nat := crcSteps 8 (c ^^^ x)
def crcRun (c : Nat) (l : List UInt8) : Nat := l.foldl (fun c b => crcNext c b.toNat) c
def crcOf (l : List UInt8) : Nat := 4294967295 - crcRun 4294967295 l
theorem crcStep_lt {c : Nat} (h : c < 4294967296) : crcStep c < 4294967296 := by
  unfold crcStep
  split
  · exact Nat.xor_lt_two_pow (n := 32) (by omega) (by omega)
  · omega
theorem crcSteps_lt (n : Nat) {c : Nat} (h : c < 4294967296) : crcSteps n c < 4294967296 := by
  induction n with
  | zero => exact h
  | succ n ih => exact crcStep_lt ih
theorem xor_byte_lt {c x : Nat} (hc : c < 4294967296) (hx : x < 256) : c ^^^ x < 4294967296 := Nat.xor_lt_two_pow (n := 32) (by omega) (by omega)
theorem crcNext_lt {c x : Nat} (hc : c < 4294967296) (hx : x < 256) : crcNext c x < 4294967296 := crcSteps_lt 8 (xor_byte_lt hc hx)
theorem crcRun_lt (l : List UInt8) : ∀ {c : Nat}, c < 4294967296 → crcRun c l < 4294967296 := by
  induction l with
  | nil => intro c h; exact h
  | cons b l ih => intro c h; exact ih (crcNext_lt h b.toNat_lt)
theorem crcRun_append (c : Nat) (a b : List UInt8) : crcRun c (a ++ b) = crcRun (crcRun c a) b := by simp [crcRun]
theorem crcOf_lt (l : List UInt8) : crcOf l < 4294967296 := by unfold crcOf; omega
theorem crcRun_take {l : List UInt8} {k : Nat} (c : Nat) (h : k < l.length) : crcRun c (l.take (k + 1)) = crcNext (crcRun c (l.take k)) (l.getD k 0).toNat := by
  rw [List.take_succ_eq_append_getElem h, crcRun_append, List.getD_eq_getElem?_getD, List.getElem?_eq_getElem h]
  rfl
theorem odd_and (c : Nat) (hc : c < 4294967296) : bits .and .u32 (c : Int) 1 = ((c % 2 : Nat) : Int) := by
  have := u32_and_nat c 1 hc (by omega)
  rw [nat_mask1] at this
  exact this
theorem xor_poly (c : Nat) (hc : c < 4294967296) : bits .xor .u32 ((c : Int) / 2) 2197175160 = (((c / 2) ^^^ 2197175160 : Nat) : Int) := by
  have := u32_xor_nat (c / 2) 2197175160 (by omega) (by omega)
  rw [← this]
  rfl
theorem crcStep_odd {c : Nat} (h : c % 2 = 1) : crcStep c = (c / 2) ^^^ 2197175160 := by simp [crcStep, h]
theorem crcStep_even {c : Nat} (h : c % 2 = 0) : crcStep c = c / 2 := by simp [crcStep, h]
theorem ones_xor (q : Nat) (h : q < 4294967296) : 4294967295 ^^^ q = 4294967295 - q := by
  have h1 : (BitVec.allOnes 32 ^^^ BitVec.ofNat 32 q).toNat = 4294967295 ^^^ q := by
    rw [BitVec.toNat_xor, BitVec.toNat_ofNat, Nat.mod_eq_of_lt (by omega)]
    rfl
  have h2 : (BitVec.allOnes 32 ^^^ BitVec.ofNat 32 q).toNat = 4294967295 - q := by
    rw [BitVec.allOnes_xor, BitVec.toNat_not, BitVec.toNat_ofNat, Nat.mod_eq_of_lt (by omega)]
  rw [← h1, h2]
theorem not_u32 (q : Nat) (h : q < 4294967296) : bits .xor .u32 IntKind.u32.max (q : Int) = ((4294967295 - q : Nat) : Int) := by
  have := u32_xor_nat 4294967295 q (by omega) h
  rw [ones_xor q h] at this
  exact this
end Go.Proofs.Ytoeknbogaclfdaa

namespace Go.Proofs.Ytoeknbogaclfdaa
def crcOpen (l : List UInt8) : Option (List UInt8) := if 4 ≤ l.length ∧ l.drop (l.length - 4) = le 4 (crcOf (l.take (l.length - 4))) then some (l.take (l.length - 4)) else none
theorem crcOpen_put (l : List UInt8) : crcOpen (put l (crcOf l) 4) = some l := by
  unfold crcOpen put
  have e : (l ++ le 4 (crcOf l)).length - 4 = l.length := by simp [le_length]
  rw [e, List.take_left, List.drop_left, if_pos ⟨by simp [le_length], rfl⟩]
theorem crcOpen_short {l : List UInt8} (h : l.length < 4) : crcOpen l = none := by
  unfold crcOpen
  rw [if_neg (by omega)]
end Go.Proofs.Ytoeknbogaclfdaa

namespace Go.Proofs.Ytoeknbogaclfdaa
open Go
theorem i64_low (n m : Int) (k : Nat) (hk : k ≤ 62) (hm : (BitVec.ofInt 64 m).toNat = 2 ^ k - 1) : bits .and .i64 n m = n % ((2 ^ k : Nat) : Int) := by
  have key : (BitVec.ofInt 64 n &&& BitVec.ofInt 64 m).toNat = (n % ((2 ^ 64 : Nat) : Int)).toNat % 2 ^ k := by
    rw [BitVec.toNat_and, BitVec.toNat_ofInt, hm, Nat.and_two_pow_sub_one_eq_mod]
  show IntKind.i64.wrap ((BitVec.ofInt 64 n &&& BitVec.ofInt 64 m).toNat : Nat) = n % ((2 ^ k : Nat) : Int)
  rw [key, IntKind.wrap_i64]
  have hp : 2 ^ k ≤ 2 ^ 62 := Nat.pow_le_pow_right (by omega) hk
  have h0 := Nat.two_pow_pos k
  have hd : (2 : Nat) ^ 64 = 2 ^ k * 2 ^ (64 - k) := by rw [← Nat.pow_add]; congr 1; omega
  have h1 : (n % ((2 ^ 64 : Nat) : Int)).toNat % 2 ^ k < 2 ^ k := Nat.mod_lt _ h0
  have h2 : (((n % ((2 ^ 64 : Nat) : Int)).toNat % 2 ^ k : Nat) : Int) = n % ((2 ^ k : Nat) : Int) := by
    rw [Int.natCast_emod, Int.toNat_of_nonneg (Int.emod_nonneg _ (by omega)), hd]
    push_cast
    rw [Int.emod_emod_of_dvd _ ⟨_, rfl⟩]
  rw [h2]
  generalize n % ((2 ^ k : Nat) : Int) = y at *
  omega
theorem and3 (n : Int) : bits .and .i64 n 3 = n % 4 := i64_low n 3 2 (by omega) (by decide)
theorem and15 (n : Int) : bits .and .i64 n 15 = n % 16 := i64_low n 15 4 (by omega) (by decide)
theorem and63 (n : Int) : bits .and .i64 n 63 = n % 64 := i64_low n 63 6 (by omega) (by decide)
theorem and255 (n : Int) : bits .and .i64 n 255 = n % 256 := i64_low n 255 8 (by omega) (by decide)
theorem and511 (n : Int) : bits .and .i64 n 511 = n % 512 := i64_low n 511 9 (by omega) (by decide)
theorem and65535 (n : Int) : bits .and .i64 n 65535 = n % 65536 := i64_low n 65535 16 (by omega) (by decide)
theorem and1 (n : Int) : bits .and .i64 n 1 = n % 2 := i64_low n 1 1 (by omega) (by decide)
end Go.Proofs.Ytoeknbogaclfdaa

namespace Go.Proofs.Ytoeknbogaclfdaa
open Go
theorem nat_and_two_pow (x k : Nat) : x &&& 2 ^ k = x / 2 ^ k % 2 * 2 ^ k := by
  rw [← Nat.toNat_testBit]
  refine Nat.eq_of_testBit_eq fun i => ?_
  rw [Nat.testBit_and, Nat.testBit_two_pow]
  cases h : x.testBit k
  · by_cases hk : k = i
    · subst hk
      simp [h]
    · simp [hk]
  · by_cases hk : k = i
    · subst hk
      simp [h, Nat.testBit_two_pow_self]
    · simp [hk, Nat.testBit_two_pow]
theorem i64_bit (n m : Int) (k : Nat) (hk : k ≤ 61) (hm : (BitVec.ofInt 64 m).toNat = 2 ^ k) : bits .and .i64 n m = (((n % 18446744073709551616).toNat / 2 ^ k % 2 * 2 ^ k : Nat) : Int) := by
  have key : (BitVec.ofInt 64 n &&& BitVec.ofInt 64 m).toNat = (n % 18446744073709551616).toNat / 2 ^ k % 2 * 2 ^ k := by
    rw [BitVec.toNat_and, BitVec.toNat_ofInt, hm, nat_and_two_pow]
    rfl
  show IntKind.i64.wrap ((BitVec.ofInt 64 n &&& BitVec.ofInt 64 m).toNat : Nat) = _
  rw [key, IntKind.wrap_i64]
  have hp : 2 ^ k ≤ 2 ^ 61 := Nat.pow_le_pow_right (by omega) hk
  have h1 : (n % 18446744073709551616).toNat / 2 ^ k % 2 < 2 := Nat.mod_lt _ (by omega)
  have h2 : (n % 18446744073709551616).toNat / 2 ^ k % 2 * 2 ^ k ≤ 1 * 2 ^ k := Nat.mul_le_mul_right _ (by omega)
  omega
theorem and4 (n : Int) : bits .and .i64 n 4 = n / 4 % 2 * 4 := by
  rw [i64_bit n 4 2 (by omega) (by decide)]
  omega
theorem and16 (n : Int) : bits .and .i64 n 16 = n / 16 % 2 * 16 := by
  rw [i64_bit n 16 4 (by omega) (by decide)]
  omega
end Go.Proofs.Ytoeknbogaclfdaa
