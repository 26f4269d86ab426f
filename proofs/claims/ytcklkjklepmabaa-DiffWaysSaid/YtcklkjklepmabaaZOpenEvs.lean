/-
  A slice of events that came in, opened.
-/
import Derived.Test.YtcklkjklepmabaaZCore
import Derived.Test.YtcklkjklepmabaaZEvs
namespace Go.Proofs.Ytcklkjklepmabaa
open Go.ChangeShapes Go.WideShapes Go.ChangeAt Go.RowKit Go.Deep
set_option linter.unusedVariables false
set_option maxRecDepth 100000
section
variable {H : Type} {enc : TypeId × Value → H} {w : World} {base : Nat} {spare : Nat → Bool} {held : Bool}
theorem under_event : ∃ fs : Array Field, Try.prog.underlying 28 = some (.struct fs) ∧ fs.map (·.type) = #[3, 3, 3, 22, 9] ∧ oneCellFields Try.prog fs = true ∧ Try.prog.cellsOf 28 = fs.size :=
  structOk_of (by kernel_rfl)
theorem event_cells {fuel : Nat} {cs : List Value} {x : DataW H × List MemPlace} (h : DataW.trod enc Try.prog w base spare held fuel 28 cs = some x) :
    ∃ (k o m : Int) (A : Option Addr) (n c : Nat) (l : List UInt8) (s : ByteArray), cs = [.int .i64 k, .int .i64 o, .int .i64 m, .slice A n c, .string s] ∧ Sl w A n c l ∧ s.size ≤ maxLen ∧
      (-9223372036854775808 ≤ k ∧ k ≤ 9223372036854775807) ∧ (-9223372036854775808 ≤ o ∧ o ≤ 9223372036854775807) ∧ (-9223372036854775808 ≤ m ∧ m ≤ 9223372036854775807) := by
  obtain ⟨fs, hs, hts, hone, hC⟩ := under_event
  have hsz : fs.size = 5 := by
    have := congrArg Array.size hts
    simpa using this
  obtain ⟨hl, hf⟩ := open_cells hs hone h hC
  have ty : ∀ (i : Nat) (t : TypeId), #[3, 3, 3, 22, 9][i]? = some t → ∃ f : Field, fs[i]? = some f ∧ f.type = t := by
    intro i t hi
    rw [← hts, Array.getElem?_map, Option.map_eq_some_iff] at hi
    exact hi
  obtain ⟨f0, i0, e0⟩ := ty 0 _ rfl
  obtain ⟨f1, i1, e1⟩ := ty 1 _ rfl
  obtain ⟨f2, i2, e2⟩ := ty 2 _ rfl
  obtain ⟨f3, i3, e3⟩ := ty 3 _ rfl
  obtain ⟨f4, i4, e4⟩ := ty 4 _ rfl
  obtain ⟨u0, y0, m0, c0, t0⟩ := hf 0 f0 i0
  obtain ⟨u1, y1, m1, c1, t1⟩ := hf 1 f1 i1
  obtain ⟨u2, y2, m2, c2, t2⟩ := hf 2 f2 i2
  obtain ⟨u3, y3, m3, c3, t3⟩ := hf 3 f3 i3
  obtain ⟨u4, y4, m4, c4, t4⟩ := hf 4 f4 i4
  rw [e0] at t0
  rw [e1] at t1
  rw [e2] at t2
  rw [e3] at t3
  rw [e4] at t4
  obtain ⟨k, rfl, b0⟩ := open_i64 under_i64 t0
  obtain ⟨o, rfl, b1⟩ := open_i64 under_i64 t1
  obtain ⟨m, rfl, b2⟩ := open_i64 under_i64 t2
  obtain ⟨A, n, c, l, rfl, hsl⟩ := open_bytes t3
  obtain ⟨s, rfl, hss⟩ := open_str t4
  refine ⟨k, o, m, A, n, c, l, s, ?_, hsl, hss, b0, b1, b2⟩
  apply List.ext_getElem?
  intro i
  match i with
  | 0 => rw [c0]; rfl
  | 1 => rw [c1]; rfl
  | 2 => rw [c2]; rfl
  | 3 => rw [c3]; rfl
  | 4 => rw [c4]; rfl
  | i + 5 => rw [List.getElem?_eq_none (by omega)]; rfl
theorem open_events {r : Reach} {b0 : Nat} {v : Value} {d : DataW H} {p : List MemPlace} (hv : Value.okWide Try.prog w r b0 23 v) (h : DataW.Trod enc Try.prog w base spare held 23 v d p) :
    ∃ A n c xs, v = .slice A n c ∧ Lst 5 evR w A n c xs ∧ ∀ a ∈ xs, evB a := by
  refine open_lst (e := 28) (by kernel_rfl) (by kernel_rfl) ev_rep (fun fuel cs x hx => ?_) hv h
  obtain ⟨k, o, m, A, n, c, l, s, rfl, hsl, hz, b0, b1, b2⟩ := event_cells hx
  exact ⟨⟨k, o, m, l, s⟩, ⟨A, n, c, rfl, hsl, hz⟩, b0, b1, b2⟩
end
end Go.Proofs.Ytcklkjklepmabaa
