/-
  Contracts of the library's functions that the program calls: slices.Clone and bytes.Equal on bytes.
-/
import Derived.Test.YtcchlkialgjamaaProg
import Derived.Test.YtcchlkialgjamaaBase
import Derived.Lib.SlBytesConst
namespace Go.Proofs.Ytcchlkialgjamaa
open Go.RowKit
set_option linter.unusedVariables false
set_option maxRecDepth 100000

abbrev U8 : TypeId := 5
theorem info_u8 : (Try.prog.info? U8).map (fun i => (i.zero, i.size, i.bytes)) = some (some (.int .u8 0), 1, 1) := by kernel_rfl
theorem under_u8 : Try.prog.underlying U8 = some (.int .u8) := by kernel_rfl
theorem under_bytes : Try.prog.underlying 22 = some (.slice U8) := by kernel_rfl
theorem under_str : Try.prog.underlying 9 = some .string := by kernel_rfl

theorem run_text_u8 {w : World} {A : Option Addr} {n c : Nat} {l : List UInt8} (h : Sl w A n c l) : (convert 22 9 (.slice A n c)).run Try.prog w = .ok (.string ⟨l.toArray⟩) w :=
  run_text h _ _ U8 under_bytes under_u8 under_str

theorem run_conv_bytes (w : World) (C : Array Value) (n c : Nat) : (convert 22 22 (.slice (some ⟨w.heap.size, 0, none⟩) n c)).run Try.prog (w.alloc (.cells C U8)) = .ok (.slice (some ⟨w.heap.size, 0, none⟩) n c) (w.alloc (.cells C U8 (C.size, C.size + 1))) :=
  Lib.run_convert_bytes_const (P := Try.prog) w _ U8 C n c under_bytes under_u8

theorem run_cut (w : World) (A : Option Addr) (n c lo hi : Nat) (h1 : lo ≤ hi) (h2 : hi ≤ c) :
    (Instr.slice 22 (.slice A n c) (some (.int .i64 lo)) (some (.int .i64 hi)) none).run Try.prog w = .ok (.slice (if c = lo then A else A.map (·.add (lo * 1))) (hi - lo) (c - lo)) w := by
  obtain ⟨i0, hi0, hz0, hz1, hz2⟩ := info_parts info_u8
  have e1 : ((hi : Nat) : Int) ≤ (c : Int) := by omega
  have e2 : ((lo : Nat) : Int) ≤ (hi : Int) := by omega
  simp [Instr.slice, run_underlying under_bytes, Instr.sliceBounds, run_sliceBound, sizeOf, typeInfo, hi0, hz1, h1, h2]

theorem slices_Clone (A : Option Addr) (n c : Nat) (l : List UInt8) (w : World) (h : Sl w A n c l) (hn : n ≤ 1000000) :
    Calls Try.prog 45 #[.slice A n c] w fun e w' => ∃ A' c', e = .returned (.slice A' n c') ∧ Byt U8 w' w.heap.size A' n c' l ∧ Ext w w' := by
  have he := fun w => Lib.run_eql_slice_nil (P := Try.prog) w 22 U8 A n c 0 0 under_bytes
  obtain ⟨i0, hi0, hz0, hz1, hz2⟩ := info_parts info_u8
  cases A with
  | none =>
    have h0 : n = 0 := by
      rcases Nat.eq_zero_or_pos n with h0 | h0
      · exact h0
      · obtain ⟨ad, e, _⟩ := h.rd.2 h0; cases e
    have hl : l = [] := List.eq_nil_of_length_eq_zero (by rw [h.len, h0])
    subst h0
    subst hl
    go_enter Try.func45, Try.ntmps45
    go_wp2
    go_ret
    exact ⟨_, _, rfl, Byt.nil _ _ _ _, Ext.refl _⟩
  | some ad =>
    have hs := h.src (P := Try.prog) under_bytes
    go_enter Try.func45, Try.ntmps45
    go_wp2_with (at_builtin; refine wpList_append_mine _ rfl _ _ _ _ rfl w.heap.size U8 i0 _ 1 1 under_bytes hi0 hz0 hz1 hz2 rfl _ 0 0 [] rfl (Own.nil _ _ _ _ _) _ rfl n (l.map bv) ((h.ext (Ext.alloc _ _)).src under_bytes) (by simp only [maxLen]; omega) (by omega) (by simp) ?_; intro A' c' w1 hown hg _)
    have hx : Ext w w1 := below_grown (Ext.alloc w _) (Own.nil _ _ U8 1 _) hg (by simp)
    go_ret
    exact ⟨_, _, rfl, ⟨h.len, by simpa using hown⟩, hx⟩

end Go.Proofs.Ytcchlkialgjamaa
