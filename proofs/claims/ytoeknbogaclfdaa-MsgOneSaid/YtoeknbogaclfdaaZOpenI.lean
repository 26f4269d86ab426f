/-
  Slices of integers and of tags that came in, opened.
-/
import Derived.Test.YtoeknbogaclfdaaZFromMsgOneToOpenLst
import Derived.Test.YtoeknbogaclfdaaZFromMkToMkSame
import Derived.Test.YtoeknbogaclfdaaZFromTextToChainBytes
namespace Go.Proofs.Ytoeknbogaclfdaa
open Go.ChangeShapes Go.WideShapes Go.ChangeAt Go.RowKit Go.Deep
set_option linter.unusedVariables false
set_option maxRecDepth 100000
section
variable {H : Type} {enc : TypeId × Value → H} {w : World} {base : Nat} {spare : Nat → Bool} {held : Bool}
/-- an integer that came in -/
def inB (x : Int) : Prop := -9223372036854775808 ≤ x ∧ x ≤ 9223372036854775807
theorem open_i64s {r : Reach} {b0 : Nat} {v : Value} {d : DataW H} {p : List MemPlace} (hv : Value.okWide Try.prog w r b0 22 v) (h : DataW.Trod enc Try.prog w base spare held 22 v d p) :
    ∃ A n c xs, v = .slice A n c ∧ Lst 1 intR w A n c xs ∧ ∀ a ∈ xs, inB a := by
  refine open_lst (e := 3) (by kernel_rfl) (by kernel_rfl) int_rep (fun fuel cs x hx => ?_) hv h
  obtain ⟨k, hcs, _, hwf⟩ := DataW.trod_int under_i64 hx
  exact ⟨k, hcs, bounds_i64 hwf⟩
theorem under_tag : ∃ fs : Array Field, Try.prog.underlying 104 = some (.struct fs) ∧ fs.map (·.type) = #[3, 3, 3, 3] ∧ oneCellFields Try.prog fs = true ∧ Try.prog.cellsOf 104 = fs.size :=
  structOk_of (by kernel_rfl)
/-- the numbers of a tag that came in -/
def tgB (x : Tg) : Prop := inB x.id ∧ inB x.ow ∧ inB x.he ∧ inB x.pt
theorem tag_cells {fuel : Nat} {cs : List Value} {x : DataW H × List MemPlace} (h : DataW.trod enc Try.prog w base spare held fuel 104 cs = some x) :
    ∃ t : Tg, tgR t cs w ∧ tgB t := by
  obtain ⟨fs, hs, hts, hone, hC⟩ := under_tag
  have hsz : fs.size = 4 := by
    have := congrArg Array.size hts
    simpa using this
  obtain ⟨hl, hf⟩ := open_cells hs hone h hC
  have ty : ∀ (i : Nat) (t : TypeId), #[3, 3, 3, 3][i]? = some t → ∃ f : Field, fs[i]? = some f ∧ f.type = t := by
    intro i t hi
    rw [← hts, Array.getElem?_map, Option.map_eq_some_iff] at hi
    exact hi
  obtain ⟨f0, i0, e0⟩ := ty 0 _ rfl
  obtain ⟨f1, i1, e1⟩ := ty 1 _ rfl
  obtain ⟨f2, i2, e2⟩ := ty 2 _ rfl
  obtain ⟨f3, i3, e3⟩ := ty 3 _ rfl
  obtain ⟨u0, y0, m0, c0, t0⟩ := hf 0 f0 i0
  obtain ⟨u1, y1, m1, c1, t1⟩ := hf 1 f1 i1
  obtain ⟨u2, y2, m2, c2, t2⟩ := hf 2 f2 i2
  obtain ⟨u3, y3, m3, c3, t3⟩ := hf 3 f3 i3
  rw [e0] at t0
  rw [e1] at t1
  rw [e2] at t2
  rw [e3] at t3
  obtain ⟨a, rfl, b0⟩ := open_i64 under_i64 t0
  obtain ⟨b, rfl, b1⟩ := open_i64 under_i64 t1
  obtain ⟨c, rfl, b2⟩ := open_i64 under_i64 t2
  obtain ⟨d, rfl, b3⟩ := open_i64 under_i64 t3
  refine ⟨⟨a, b, c, d⟩, ?_, b0, b1, b2, b3⟩
  apply List.ext_getElem?
  intro i
  match i with
  | 0 => rw [c0]; rfl
  | 1 => rw [c1]; rfl
  | 2 => rw [c2]; rfl
  | 3 => rw [c3]; rfl
  | i + 4 => rw [List.getElem?_eq_none (by omega)]; rfl
theorem open_tags {r : Reach} {b0 : Nat} {v : Value} {d : DataW H} {p : List MemPlace} (hv : Value.okWide Try.prog w r b0 25 v) (h : DataW.Trod enc Try.prog w base spare held 25 v d p) :
    ∃ A n c xs, v = .slice A n c ∧ Lst 4 tgR w A n c xs ∧ ∀ a ∈ xs, tgB a :=
  open_lst (e := 104) (by kernel_rfl) (by kernel_rfl) tg_rep (fun fuel cs x hx => tag_cells hx) hv h
end
end Go.Proofs.Ytoeknbogaclfdaa
