/-
  Numbers by sevens: what is put is got. Lists of bytes alone.
-/
import Derived.Test.YtoeknbogaclfdaaZVarPlain
namespace Go.Proofs.Ytoeknbogaclfdaa
set_option linter.unusedVariables false

theorem gvF_varF : ∀ (f fu i u : Nat) (r : List UInt8), f < fu → u < 128 ^ (f + 1) → (i = 0 ∨ 0 < u) → gvF fu i (varF f u ++ r) = some (u, (varF f u).length) := by
  intro f
  induction f with
  | zero =>
    intro fu i u r hf hu hi
    obtain ⟨fu, rfl⟩ : ∃ g, fu = g + 1 := ⟨fu - 1, by omega⟩
    have hu' : u < 128 := by simpa using hu
    have hb : (UInt8.ofNat u).toNat = u := by simp; omega
    simp only [varF, List.cons_append, List.nil_append]
    rw [gv_end (by omega) (by omega), hb]
    rfl
  | succ f ih =>
    intro fu i u r hf hu hi
    obtain ⟨fu, rfl⟩ : ∃ g, fu = g + 1 := ⟨fu - 1, by omega⟩
    by_cases hs : u < 128
    · have hb : (UInt8.ofNat u).toNat = u := by simp; omega
      rw [varF_small hs, List.cons_append, List.nil_append, gv_end (by omega) (by omega), hb]
      rfl
    · have hb : (UInt8.ofNat (u % 128 + 128)).toNat = u % 128 + 128 := by simp; omega
      have hd : u / 128 < 128 ^ (f + 1) := by
        rw [Nat.pow_succ 128 (f + 1)] at hu
        exact Nat.div_lt_of_lt_mul (by omega)
      rw [varF_big (by omega), List.cons_append, gv_go (by omega), ih fu (i + 1) (u / 128) r (by omega) hd (.inr (by omega)), hb]
      simp only [Option.map_some, List.length_cons, Option.some.injEq, Prod.mk.injEq, and_true]
      omega
theorem gvF_cut : ∀ (f fu i u : Nat), gvF fu i ((varF f u).dropLast) = none := by
  intro f
  induction f with
  | zero => intro fu i u; cases fu <;> simp [varF, gvF]
  | succ f ih =>
    intro fu i u
    by_cases hs : u < 128
    · rw [varF_small hs]
      cases fu <;> simp [gvF]
    · have hb : (UInt8.ofNat (u % 128 + 128)).toNat = u % 128 + 128 := by simp; omega
      have hl := varF_length f (u / 128)
      rw [varF_big (by omega), List.dropLast_cons_of_ne_nil (by intro h; rw [h] at hl; simp at hl)]
      cases fu with
      | zero => rfl
      | succ fu => rw [gv_go (by omega), ih fu (i + 1) (u / 128)]; rfl
theorem gv_there (a r : List UInt8) (k : Nat) (hk : k < 9223372036854775808) : gvN (a ++ varl k ++ r) (a.length : Int) = some (k, (varl k).length) := by
  unfold gvN
  rw [if_pos (by omega), Int.toNat_natCast, List.append_assoc, List.drop_left]
  exact gvF_varF 8 9 0 k r (by omega) (by omega) (.inl rfl)
theorem gv_there' {b a r : List UInt8} {k : Nat} {i : Int} (hb : b = a ++ varl k ++ r) (hi : i = (a.length : Int)) (hk : k < 9223372036854775808) : gvN b i = some (k, (varl k).length) := by
  subst hb hi
  exact gv_there a r k hk
theorem gv_cut_off (a : List UInt8) (k : Nat) : gvN ((a ++ varl k).take ((a ++ varl k).length - 1)) (a.length : Int) = none := by
  have hl := varl_length k
  unfold gvN
  rw [if_pos (by omega), Int.toNat_natCast, List.take_append, List.length_append]
  have e1 : a.take (a.length + (varl k).length - 1) = a := List.take_of_length_le (by omega)
  have e2 : a.length + (varl k).length - 1 - a.length = (varl k).length - 1 := by omega
  rw [e1, e2, List.drop_left, ← List.dropLast_eq_take]
  exact gvF_cut 8 9 0 k
end Go.Proofs.Ytoeknbogaclfdaa
