/-
  Entries that came in, opened.
-/
import Derived.Test.YtkoknleopmlhcaaOpen0
import Derived.Test.YtkoknleopmlhcaaFrameRt
namespace Go.Proofs.Ytkoknleopmlhcaa
open Go.ChangeShapes Go.WideShapes Go.ChangeAt Go.RowKit Go.Deep
set_option linter.unusedVariables false
set_option maxRecDepth 100000
section
variable {H : Type} {enc : TypeId × Value → H} {w : World} {base : Nat} {spare : Nat → Bool} {held : Bool}
theorem under_entry : ∃ fs : Array Field, Try.prog.underlying 39 = some (.struct fs) ∧ fs.map (·.type) = #[3, 3, 37] ∧ oneCellFields Try.prog fs = true ∧ Try.prog.cellsOf 39 = fs.size :=
  structOk_of (by kernel_rfl)
theorem entry_cells {fuel : Nat} {cs : List Value} {x : DataW H × List MemPlace} (h : DataW.trod enc Try.prog w base spare held fuel 39 cs = some x) :
    ∃ (t s : Int) (A : Option Addr) (n c : Nat) (l : List UInt8), cs = [.int .i64 t, .int .i64 s, .slice A n c] ∧ Sl w A n c l ∧
      (-9223372036854775808 ≤ t ∧ t ≤ 9223372036854775807) ∧ (-9223372036854775808 ≤ s ∧ s ≤ 9223372036854775807) := by
  obtain ⟨fs, hs, hts, hone, hC⟩ := under_entry
  have hsz : fs.size = 3 := by
    have := congrArg Array.size hts
    simpa using this
  obtain ⟨hl, hf⟩ := open_cells hs hone h hC
  have ty : ∀ (i : Nat) (t : TypeId), #[3, 3, 37][i]? = some t → ∃ f : Field, fs[i]? = some f ∧ f.type = t := by
    intro i t hi
    rw [← hts, Array.getElem?_map, Option.map_eq_some_iff] at hi
    exact hi
  obtain ⟨f0, i0, e0⟩ := ty 0 _ rfl
  obtain ⟨f1, i1, e1⟩ := ty 1 _ rfl
  obtain ⟨f2, i2, e2⟩ := ty 2 _ rfl
  obtain ⟨u0, y0, m0, c0, t0⟩ := hf 0 f0 i0
  obtain ⟨u1, y1, m1, c1, t1⟩ := hf 1 f1 i1
  obtain ⟨u2, y2, m2, c2, t2⟩ := hf 2 f2 i2
  rw [e0] at t0
  rw [e1] at t1
  rw [e2] at t2
  obtain ⟨k, rfl, b0⟩ := open_i64 under_i64 t0
  obtain ⟨o, rfl, b1⟩ := open_i64 under_i64 t1
  obtain ⟨A, n, c, l, rfl, hsl⟩ := open_bytes t2
  refine ⟨k, o, A, n, c, l, ?_, hsl, b0, b1⟩
  apply List.ext_getElem?
  intro i
  match i with
  | 0 => rw [c0]; rfl
  | 1 => rw [c1]; rfl
  | 2 => rw [c2]; rfl
  | i + 3 => rw [List.getElem?_eq_none (by omega)]; rfl
theorem open_entry {r : Reach} {b0 : Nat} {v : Value} {d : DataW H} {p : List MemPlace} (hv : Value.okWide Try.prog w r b0 39 v) (h : DataW.Trod enc Try.prog w base spare held 39 v d p) :
    ∃ (t s : Int) (A : Option Addr) (n c : Nat) (l : List UInt8), v = enV t s A n c ∧ Sl w A n c l ∧
      (-9223372036854775808 ≤ t ∧ t ≤ 9223372036854775807) ∧ (-9223372036854775808 ≤ s ∧ s ≤ 9223372036854775807) := by
  obtain ⟨fs, hs, _⟩ := under_entry
  obtain ⟨cs, rfl, _⟩ := okWide_struct hs hv
  obtain ⟨fuel, hf⟩ := h
  obtain ⟨t, s, A, n, c, l, hcs, h1⟩ := entry_cells hf
  refine ⟨t, s, A, n, c, l, ?_, h1⟩
  have : cs.toList = [.int .i64 t, .int .i64 s, .slice A n c] := by simpa [Value.cells] using hcs
  rw [← Array.toArray_toList (xs := cs), this]
end
end Go.Proofs.Ytkoknleopmlhcaa
