/-
  Entries: contracts of may, Right and of the reference's RightEntry; the entry's type.
-/
import Derived.Test.YtcchlkialgjamaaRightN
import Derived.Test.YtcchlkialgjamaaBut
import Derived.Test.YtcchlkialgjamaaCut
import Derived.Test.YtcchlkialgjamaaLst
namespace Go.Proofs.Ytcchlkialgjamaa
open Go.RowKit
set_option linter.unusedVariables false
set_option linter.unusedSimpArgs false
set_option linter.unnecessarySimpa false
set_option maxRecDepth 100000

theorem ret_boolF {a b : Bool} (h : a = b) : Ending.returned (.bool a) = .returned (.bool b) := by rw [h]
theorem ret_intF {k : IntKind} {a b : Int} (h : a = b) : Ending.returned (.int k a) = .returned (.int k b) := by rw [h]
abbrev TEn : TypeId := 24
theorem info_en : (Try.prog.info? TEn).map (fun i => (i.zero, i.size, i.bytes)) = some (some (.agg #[.int .i64 0, .int .i64 0, .slice none 0 0]), 3, 40) := by kernel_rfl
theorem under_ens : Try.prog.underlying 32 = some (.slice TEn) := by kernel_rfl
theorem pts_en {t s : Int} {A : Option Addr} {n c k : Nat} (h : Pts [.int .i64 t, .int .i64 s, .slice A n c] k) : ∃ ad, A = some ad ∧ 0 < n ∧ ad.block = k :=
  pts_slice h (by intro ad m c' hm; simp at hm; exact ⟨hm.1.symm, hm.2.1⟩)
theorem frame_may (t s n : Nat) (w : World) :
    Calls Try.prog 44 #[.int .u64 t, .int .u64 s, .int .u64 n] w fun e w' => e = .returned (.bool (rightN t s n)) ∧ w = w' := by
  go_enter Try.func44, Try.ntmps44
  go_wp2
  all_goals (go_ret; refine ⟨ret_boolF ?_, rfl⟩; unfold rightN; rw [Bool.eq_iff_iff]; simp <;> omega)

abbrev enV (t s : Int) (A : Option Addr) (n c : Nat) : Value := .agg #[.int .i64 t, .int .i64 s, .slice A n c]

theorem frame_Right (t s : Int) (A : Option Addr) (n c : Nat) (w : World) (hn : n ≤ 9223372036854775807) (ht : t ≤ 9223372036854775807) (hs : s ≤ 9223372036854775807) :
    Calls Try.prog 20 #[enV t s A n c] w fun e w' => e = .returned (.bool (rightN t s n)) ∧ Ext w w' := by
  by_cases h1 : 1 ≤ t
  · by_cases h2 : 1 ≤ s
    · obtain ⟨a, rfl⟩ := Int.eq_ofNat_of_zero_le (by omega : 0 ≤ t)
      obtain ⟨b, rfl⟩ := Int.eq_ofNat_of_zero_le (by omega : 0 ≤ s)
      go_enter Try.func20, Try.ntmps20
      go_wp2_with fail
      refine (frame_may a b n _).mono ?_
      rintro e w1 ⟨rfl, rfl⟩
      go_wp2_with fail
      go_ret
      exact ⟨rfl, Ext.alloc _ _⟩
    · have hr : rightN t s n = false := by unfold rightN; simp; omega
      rw [hr]
      go_enter Try.func20, Try.ntmps20
      go_wp2_with fail
      go_ret
      exact ⟨rfl, Ext.alloc _ _⟩
  · have hr : rightN t s n = false := by unfold rightN; simp; omega
    rw [hr]
    go_enter Try.func20, Try.ntmps20
    go_wp2_with fail
    go_ret
    exact ⟨rfl, Ext.alloc _ _⟩
theorem ref_RightEntry (t s : Int) (A : Option Addr) (n c : Nat) (w : World) (hn : n ≤ 9223372036854775807) :
    Calls Try.prog 21 #[enV t s A n c] w fun e w' => e = .returned (.bool (rightN t s n)) ∧ Ext w w' := by
  go_enter Try.func21, Try.ntmps21
  go_wp2
  all_goals (go_ret; refine ⟨ret_boolF ?_, Ext.alloc _ _⟩; unfold rightN; rw [Bool.eq_iff_iff]; simp <;> omega)
end Go.Proofs.Ytcchlkialgjamaa
