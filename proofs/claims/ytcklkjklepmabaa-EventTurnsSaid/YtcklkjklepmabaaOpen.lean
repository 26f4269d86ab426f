/-
  Arguments of a call opened: bytes, structs whose fields are one cell each, events. From the kit's reading of Go's data (DataW) to this claim's own words.
-/
import Derived.Test.YtcklkjklepmabaaEvRight
import Derived.ProofKit
import Derived.OpenShut
import Derived.ShutString
import Derived.ChangeOld
import Derived.Below
import Derived.Deep.Slices
import Derived.Deep.Fields
import Derived.ChangeSame
namespace Go.Proofs.Ytcklkjklepmabaa
open Go.ChangeShapes Go.WideShapes Go.ChangeAt Go.RowKit Go.Deep
set_option linter.unusedVariables false
set_option maxRecDepth 100000

/-- the cells of a slice that came in, as bytes -/
theorem sl_open {w : World} {x : Addr} {len cap : Nat} {zs : List Int} (hl : len ≤ cap) (hm : cap ≤ maxLen) (hz : len ≤ zs.length) (hcell : ∀ i, i < zs.length → w.cell? (x.add i) = some (.int .u8 (zs.getD i 0))) (hwz : ∀ n ∈ zs, (Lit.int .u8 n).wf = true) :
    Sl w (some x) len cap ((zs.take len).map fun z => UInt8.ofNat z.toNat) := by
  refine ⟨by simp; omega, hl, hm, by simp; omega, fun _ => ⟨x, rfl, fun j u hu => ?_⟩⟩
  simp only [List.getElem?_map, List.getElem?_take] at hu
  split at hu
  · rename_i hj
    have hj2 : j < zs.length := by omega
    rw [hcell j hj2]
    rw [List.getElem?_eq_getElem hj2] at hu
    simp only [Option.map_some, Option.some.injEq] at hu
    have hb := bounds_u8 (hwz zs[j] (List.getElem_mem hj2))
    rw [← hu, List.getD_eq_getElem?_getD, List.getElem?_eq_getElem hj2]
    simp only [Option.getD_some, UInt8.toNat_ofNat', Option.some.injEq, Value.int.injEq, true_and]
    omega
  · simp at hu

section
variable {H : Type} {enc : TypeId × Value → H} {w : World} {base : Nat} {spare : Nat → Bool} {held : Bool}
theorem open_bytes {fuel : Nat} {u : Value} {x : DataW H × List MemPlace} (h : DataW.trod enc Try.prog w base spare held fuel 22 [u] = some x) : ∃ A n c l, u = .slice A n c ∧ Sl w A n c l := by
  rcases open_ints under_bytes under_u8 (by kernel_rfl) h with ⟨hcs, _⟩ | ⟨a, len, cap, zs, hcs, _, hl, hm, hz, _, hcell, hwz⟩
  · simp at hcs
    subst hcs
    exact ⟨_, _, _, [], rfl, Sl.nil _⟩
  · simp at hcs
    subst hcs
    exact ⟨_, _, _, _, rfl, sl_open hl hm (by rw [hz]; split <;> omega) hcell hwz⟩
theorem open_i64 {fuel : Nat} {u : Value} {x : DataW H × List MemPlace} {t : TypeId} (ht : Try.prog.underlying t = some (.int .i64)) (h : DataW.trod enc Try.prog w base spare held fuel t [u] = some x) : ∃ k : Int, u = .int .i64 k ∧ -9223372036854775808 ≤ k ∧ k ≤ 9223372036854775807 := by
  obtain ⟨k, hcs, _, hwf⟩ := DataW.trod_int ht h
  simp at hcs
  exact ⟨k, hcs, bounds_i64 hwf⟩
theorem open_str {fuel : Nat} {u : Value} {x : DataW H × List MemPlace} (h : DataW.trod enc Try.prog w base spare held fuel 9 [u] = some x) : ∃ s : ByteArray, u = .string s ∧ s.size ≤ maxLen := by
  obtain ⟨s, hcs, _, hs⟩ := DataW.trod_string under_str h
  simp at hcs
  exact ⟨s, hcs, hs⟩
/-- a struct's cells: each field's own reading -/
theorem open_cells {t : TypeId} {fs : Array Field} {fuel : Nat} {cs : List Value} {x : DataW H × List MemPlace} (hs : Try.prog.underlying t = some (.struct fs)) (hone : oneCellFields Try.prog fs = true)
    (h : DataW.trod enc Try.prog w base spare held fuel t cs = some x) (hC : Try.prog.cellsOf t = fs.size) :
    cs.length = fs.size ∧ ∀ (i : Nat) (f : Field), fs[i]? = some f → ∃ (u : Value) (y : DataW H × List MemPlace) (m : Nat), cs[i]? = some u ∧ DataW.trod enc Try.prog w base spare held m f.type [u] = some y := by
  obtain ⟨xs, n, _, _, hlen, hxl, hf⟩ := DataW.trod_struct hs h
  rw [hC] at hlen
  refine ⟨hlen, fun i f hi => ?_⟩
  obtain ⟨ho, hk⟩ := hone_of hone i f hi
  have hil : i < fs.size := (Array.getElem?_eq_some_iff.1 hi).1
  have h1 := hf i f hi
  rw [ho, hk, List.drop_eq_getElem_cons (by omega), List.take_succ_cons, List.take_zero, List.getElem?_eq_getElem (by omega)] at h1
  exact ⟨_, _, n, List.getElem?_eq_getElem (by omega), h1⟩
def structOk (P : Program) (t : TypeId) (ts : Array TypeId) : Bool := match P.underlying t with
  | some (.struct fs) => (fs.map (·.type) == ts) && (oneCellFields P fs && P.cellsOf t == fs.size)
  | _ => false
theorem structOk_of {P : Program} {t : TypeId} {ts : Array TypeId} (h : structOk P t ts = true) : ∃ fs : Array Field, P.underlying t = some (.struct fs) ∧ fs.map (·.type) = ts ∧ oneCellFields P fs = true ∧ P.cellsOf t = fs.size := by
  unfold structOk at h
  split at h
  · rename_i fs hu
    simp only [Bool.and_eq_true, beq_iff_eq] at h
    exact ⟨fs, hu, h.1, h.2.1, h.2.2⟩
  · cases h
theorem under_event : ∃ fs : Array Field, Try.prog.underlying 28 = some (.struct fs) ∧ fs.map (·.type) = #[3, 3, 3, 22, 9] ∧ oneCellFields Try.prog fs = true ∧ Try.prog.cellsOf 28 = fs.size :=
  structOk_of (by kernel_rfl)
theorem under_i64 : Try.prog.underlying 3 = some (.int .i64) := by kernel_rfl
theorem event_cells {fuel : Nat} {cs : List Value} {x : DataW H × List MemPlace} (h : DataW.trod enc Try.prog w base spare held fuel 28 cs = some x) :
    ∃ (k o m : Int) (A : Option Addr) (n c : Nat) (l : List UInt8) (s : ByteArray), cs = [.int .i64 k, .int .i64 o, .int .i64 m, .slice A n c, .string s] ∧ Sl w A n c l ∧ s.size ≤ maxLen ∧
      (-9223372036854775808 ≤ k ∧ k ≤ 9223372036854775807) ∧ (-9223372036854775808 ≤ o ∧ o ≤ 9223372036854775807) ∧ (-9223372036854775808 ≤ m ∧ m ≤ 9223372036854775807) := by
  obtain ⟨fs, hs, hts, hone, hC⟩ := under_event
  have hsz : fs.size = 5 := by
    have := congrArg Array.size hts
    simpa using this
  obtain ⟨hl, hf⟩ := open_cells hs hone h hC
  have ty : ∀ (i : Nat) (t : TypeId), #[3, 3, 3, 22, 9][i]? = some t → ∃ f : Field, fs[i]? = some f ∧ f.type = t := by
    intro i t hi
    rw [← hts, Array.getElem?_map, Option.map_eq_some_iff] at hi
    exact hi
  obtain ⟨f0, i0, e0⟩ := ty 0 _ rfl
  obtain ⟨f1, i1, e1⟩ := ty 1 _ rfl
  obtain ⟨f2, i2, e2⟩ := ty 2 _ rfl
  obtain ⟨f3, i3, e3⟩ := ty 3 _ rfl
  obtain ⟨f4, i4, e4⟩ := ty 4 _ rfl
  obtain ⟨u0, y0, m0, c0, t0⟩ := hf 0 f0 i0
  obtain ⟨u1, y1, m1, c1, t1⟩ := hf 1 f1 i1
  obtain ⟨u2, y2, m2, c2, t2⟩ := hf 2 f2 i2
  obtain ⟨u3, y3, m3, c3, t3⟩ := hf 3 f3 i3
  obtain ⟨u4, y4, m4, c4, t4⟩ := hf 4 f4 i4
  rw [e0] at t0
  rw [e1] at t1
  rw [e2] at t2
  rw [e3] at t3
  rw [e4] at t4
  obtain ⟨k, rfl, b0⟩ := open_i64 under_i64 t0
  obtain ⟨o, rfl, b1⟩ := open_i64 under_i64 t1
  obtain ⟨m, rfl, b2⟩ := open_i64 under_i64 t2
  obtain ⟨A, n, c, l, rfl, hsl⟩ := open_bytes t3
  obtain ⟨s, rfl, hss⟩ := open_str t4
  refine ⟨k, o, m, A, n, c, l, s, ?_, hsl, hss, b0, b1, b2⟩
  apply List.ext_getElem?
  intro i
  match i with
  | 0 => rw [c0]; rfl
  | 1 => rw [c1]; rfl
  | 2 => rw [c2]; rfl
  | 3 => rw [c3]; rfl
  | 4 => rw [c4]; rfl
  | i + 5 => rw [List.getElem?_eq_none (by omega)]; rfl
/-- an event that came in by value -/
theorem open_event {r : Reach} {b0 : Nat} {v : Value} {d : DataW H} {p : List MemPlace} (hv : Value.okWide Try.prog w r b0 28 v) (h : DataW.Trod enc Try.prog w base spare held 28 v d p) :
    ∃ (k o m : Int) (A : Option Addr) (n c : Nat) (l : List UInt8) (s : ByteArray), v = evV k o m A n c s ∧ Sl w A n c l ∧ s.size ≤ maxLen ∧
      (-9223372036854775808 ≤ k ∧ k ≤ 9223372036854775807) ∧ (-9223372036854775808 ≤ o ∧ o ≤ 9223372036854775807) ∧ (-9223372036854775808 ≤ m ∧ m ≤ 9223372036854775807) := by
  obtain ⟨fs, hs, _⟩ := under_event
  obtain ⟨cs, rfl, _⟩ := okWide_struct hs hv
  obtain ⟨fuel, hf⟩ := h
  obtain ⟨k, o, m, A, n, c, l, s, hcs, h1⟩ := event_cells hf
  refine ⟨k, o, m, A, n, c, l, s, ?_, h1⟩
  have : cs.toList = [.int .i64 k, .int .i64 o, .int .i64 m, .slice A n c, .string s] := by simpa [Value.cells] using hcs
  rw [← Array.toArray_toList (xs := cs), this]
end
end Go.Proofs.Ytcklkjklepmabaa
