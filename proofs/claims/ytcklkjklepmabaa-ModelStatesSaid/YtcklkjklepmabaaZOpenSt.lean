/-
  An image with snapshots that came in, opened.
-/
import Derived.Test.YtcklkjklepmabaaZOpenLst
import Derived.Test.YtcklkjklepmabaaZOpen0
import Derived.Test.YtcklkjklepmabaaZSt
namespace Go.Proofs.Ytcklkjklepmabaa
open Go.ChangeShapes Go.WideShapes Go.ChangeAt Go.RowKit Go.Deep
set_option linter.unusedVariables false
set_option maxRecDepth 100000
section
variable {H : Type} {enc : TypeId × Value → H} {w : World} {base : Nat} {spare : Nat → Bool} {held : Bool}
theorem under_old : ∃ fs : Array Field, Try.prog.underlying TOl = some (.struct fs) ∧ fs.map (·.type) = #[9, 22] ∧ oneCellFields Try.prog fs = true ∧ Try.prog.cellsOf TOl = fs.size :=
  structOk_of (by kernel_rfl)
theorem under_state : ∃ fs : Array Field, Try.prog.underlying TSt = some (.struct fs) ∧ fs.map (·.type) = #[22, 33] ∧ oneCellFields Try.prog fs = true ∧ Try.prog.cellsOf TSt = fs.size :=
  structOk_of (by kernel_rfl)
theorem old_cells {fuel : Nat} {cs : List Value} {x : DataW H × List MemPlace} (h : DataW.trod enc Try.prog w base spare held fuel TOl cs = some x) :
    ∃ (s : ByteArray) (A : Option Addr) (n c : Nat) (l : List UInt8), cs = [.string s, .slice A n c] ∧ Sl w A n c l ∧ s.size ≤ maxLen := by
  obtain ⟨fs, hs, hts, hone, hC⟩ := under_old
  have hsz : fs.size = 2 := by
    have := congrArg Array.size hts
    simpa using this
  obtain ⟨hl, hf⟩ := open_cells hs hone h hC
  have ty : ∀ (i : Nat) (t : TypeId), #[9, 22][i]? = some t → ∃ f : Field, fs[i]? = some f ∧ f.type = t := by
    intro i t hi
    rw [← hts, Array.getElem?_map, Option.map_eq_some_iff] at hi
    exact hi
  obtain ⟨f0, i0, e0⟩ := ty 0 _ rfl
  obtain ⟨f1, i1, e1⟩ := ty 1 _ rfl
  obtain ⟨u0, y0, m0, c0, t0⟩ := hf 0 f0 i0
  obtain ⟨u1, y1, m1, c1, t1⟩ := hf 1 f1 i1
  rw [e0] at t0
  rw [e1] at t1
  obtain ⟨s, rfl, hss⟩ := open_str t0
  obtain ⟨A, n, c, l, rfl, hsl⟩ := open_bytes t1
  refine ⟨s, A, n, c, l, ?_, hsl, hss⟩
  apply List.ext_getElem?
  intro i
  match i with
  | 0 => rw [c0]; rfl
  | 1 => rw [c1]; rfl
  | i + 2 => rw [List.getElem?_eq_none (by omega)]; rfl
theorem open_state {r : Reach} {b0 : Nat} {v : Value} {d : DataW H} {p : List MemPlace} (hv : Value.okWide Try.prog w r b0 TSt v) (h : DataW.Trod enc Try.prog w base spare held TSt v d p) :
    ∃ A n c A2 n2 c2 st, v = stV A n c A2 n2 c2 ∧ StR w A n c A2 n2 c2 st := by
  obtain ⟨fs, hs, hts, hone, hC⟩ := under_state
  obtain ⟨cs, rfl, _⟩ := okWide_struct hs hv
  obtain ⟨fuel, hf⟩ := h
  have hsz : fs.size = 2 := by
    have := congrArg Array.size hts
    simpa using this
  obtain ⟨hl, hg⟩ := open_cells hs hone hf hC
  have ty : ∀ (i : Nat) (t : TypeId), #[22, 33][i]? = some t → ∃ f : Field, fs[i]? = some f ∧ f.type = t := by
    intro i t hi
    rw [← hts, Array.getElem?_map, Option.map_eq_some_iff] at hi
    exact hi
  obtain ⟨f0, i0, e0⟩ := ty 0 _ rfl
  obtain ⟨f1, i1, e1⟩ := ty 1 _ rfl
  obtain ⟨u0, y0, m0, c0, t0⟩ := hg 0 f0 i0
  obtain ⟨u1, y1, m1, c1, t1⟩ := hg 1 f1 i1
  rw [e0] at t0
  rw [e1] at t1
  obtain ⟨A, n, c, l, rfl, hsl⟩ := open_bytes t0
  obtain ⟨A2, n2, c2, xs, rfl, hls, _⟩ := open_lst_cells (α := Ol) (size := 2) (R := olR) (Q := fun _ => True) (e := TOl) under_ols (by kernel_rfl) ol_rep (fun fuel cs x hx => by
    obtain ⟨s, A, n, c, l, rfl, hq, hz⟩ := old_cells hx
    exact ⟨⟨s, l⟩, ⟨A, n, c, rfl, hq, hz⟩, trivial⟩) t1
  refine ⟨A, n, c, A2, n2, c2, ⟨l, xs⟩, ?_, hsl, hls⟩
  have : cs.toList = [Value.slice A n c, Value.slice A2 n2 c2] := by
    have h2 : (Value.agg cs).cells.toList = [Value.slice A n c, Value.slice A2 n2 c2] := by
      apply List.ext_getElem?
      intro i
      match i with
      | 0 => rw [c0]; rfl
      | 1 => rw [c1]; rfl
      | i + 2 => rw [List.getElem?_eq_none (by omega)]; rfl
    simpa [Value.cells] using h2
  show Value.agg cs = Value.agg _
  rw [← Array.toArray_toList (xs := cs), this]
end
end Go.Proofs.Ytcklkjklepmabaa
