/-
  Arguments of a call opened: bytes, structs whose fields are one cell each. From the kit's reading of Go's data (DataW) to this claim's own words.
-/
/-
  Slices of rows of cells that came in, opened.
-/
/-
  Marks and a record that came in, opened.
-/
/-
  Slices of integers and of tags that came in, opened.
-/
/-
  Entries that came in, opened.
-/
/-
  A message that came in, opened.
-/
import Derived.Test.YtoeknbogaclfdaaZCore
import Derived.ProofKit
import Derived.OpenShut
import Derived.ShutString
import Derived.ChangeOld
import Derived.Below
import Derived.Deep.Slices
import Derived.Deep.Fields
import Derived.ChangeSame
import Derived.Test.YtoeknbogaclfdaaZFromMsgPlainToHd2
import Derived.Test.YtoeknbogaclfdaaZFromTextToGet
import Derived.Test.YtoeknbogaclfdaaZFromSumToFrameRt
import Derived.Test.YtoeknbogaclfdaaZFromMsPartsToMakeMPlain
namespace Go.Proofs.Ytoeknbogaclfdaa
open Go.ChangeShapes Go.WideShapes Go.ChangeAt Go.RowKit Go.Deep
set_option linter.unusedVariables false
set_option maxRecDepth 100000
theorem sl_open {w : World} {x : Addr} {len cap : Nat} {zs : List Int} (hl : len ≤ cap) (hm : cap ≤ maxLen) (hz : len ≤ zs.length) (hcell : ∀ i, i < zs.length → w.cell? (x.add i) = some (.int .u8 (zs.getD i 0))) (hwz : ∀ n ∈ zs, (Lit.int .u8 n).wf = true) :
    Sl w (some x) len cap ((zs.take len).map fun z => UInt8.ofNat z.toNat) := by
  refine ⟨by simp; omega, hl, hm, by simp; omega, fun _ => ⟨x, rfl, fun j u hu => ?_⟩⟩
  simp only [List.getElem?_map, List.getElem?_take] at hu
  split at hu
  · rename_i hj
    have hj2 : j < zs.length := by omega
    rw [hcell j hj2]
    rw [List.getElem?_eq_getElem hj2] at hu
    simp only [Option.map_some, Option.some.injEq] at hu
    have hb := bounds_u8 (hwz zs[j] (List.getElem_mem hj2))
    rw [← hu, List.getD_eq_getElem?_getD, List.getElem?_eq_getElem hj2]
    simp only [Option.getD_some, UInt8.toNat_ofNat', Option.some.injEq, Value.int.injEq, true_and]
    omega
  · simp at hu
section
variable {H : Type} {enc : TypeId × Value → H} {w : World} {base : Nat} {spare : Nat → Bool} {held : Bool}
theorem open_bytes {fuel : Nat} {u : Value} {x : DataW H × List MemPlace} (h : DataW.trod enc Try.prog w base spare held fuel 23 [u] = some x) : ∃ A n c l, u = .slice A n c ∧ Sl w A n c l := by
  rcases open_ints under_bytes under_u8 (by kernel_rfl) h with ⟨hcs, _⟩ | ⟨a, len, cap, zs, hcs, _, hl, hm, hz, _, hcell, hwz⟩
  · simp at hcs
    subst hcs
    exact ⟨_, _, _, [], rfl, Sl.nil _⟩
  · simp at hcs
    subst hcs
    exact ⟨_, _, _, _, rfl, sl_open hl hm (by rw [hz]; split <;> omega) hcell hwz⟩
theorem open_i64 {fuel : Nat} {u : Value} {x : DataW H × List MemPlace} {t : TypeId} (ht : Try.prog.underlying t = some (.int .i64)) (h : DataW.trod enc Try.prog w base spare held fuel t [u] = some x) : ∃ k : Int, u = .int .i64 k ∧ -9223372036854775808 ≤ k ∧ k ≤ 9223372036854775807 := by
  obtain ⟨k, hcs, _, hwf⟩ := DataW.trod_int ht h
  simp at hcs
  exact ⟨k, hcs, bounds_i64 hwf⟩
theorem open_str {fuel : Nat} {u : Value} {x : DataW H × List MemPlace} (h : DataW.trod enc Try.prog w base spare held fuel 9 [u] = some x) : ∃ s : ByteArray, u = .string s ∧ s.size ≤ maxLen := by
  obtain ⟨s, hcs, _, hs⟩ := DataW.trod_string under_str h
  simp at hcs
  exact ⟨s, hcs, hs⟩
theorem open_cells {t : TypeId} {fs : Array Field} {fuel : Nat} {cs : List Value} {x : DataW H × List MemPlace} (hs : Try.prog.underlying t = some (.struct fs)) (hone : oneCellFields Try.prog fs = true)
    (h : DataW.trod enc Try.prog w base spare held fuel t cs = some x) (hC : Try.prog.cellsOf t = fs.size) :
    cs.length = fs.size ∧ ∀ (i : Nat) (f : Field), fs[i]? = some f → ∃ (u : Value) (y : DataW H × List MemPlace) (m : Nat), cs[i]? = some u ∧ DataW.trod enc Try.prog w base spare held m f.type [u] = some y := by
  obtain ⟨xs, n, _, _, hlen, hxl, hf⟩ := DataW.trod_struct hs h
  rw [hC] at hlen
  refine ⟨hlen, fun i f hi => ?_⟩
  obtain ⟨ho, hk⟩ := hone_of hone i f hi
  have hil : i < fs.size := (Array.getElem?_eq_some_iff.1 hi).1
  have h1 := hf i f hi
  rw [ho, hk, List.drop_eq_getElem_cons (by omega), List.take_succ_cons, List.take_zero, List.getElem?_eq_getElem (by omega)] at h1
  exact ⟨_, _, n, List.getElem?_eq_getElem (by omega), h1⟩
def structOk (P : Program) (t : TypeId) (ts : Array TypeId) : Bool := match P.underlying t with
  | some (.struct fs) => (fs.map (·.type) == ts) && (oneCellFields P fs && P.cellsOf t == fs.size)
  | _ => false
theorem structOk_of {P : Program} {t : TypeId} {ts : Array TypeId} (h : structOk P t ts = true) : ∃ fs : Array Field, P.underlying t = some (.struct fs) ∧ fs.map (·.type) = ts ∧ oneCellFields P fs = true ∧ P.cellsOf t = fs.size := by
  unfold structOk at h
  split at h
  · rename_i fs hu
    simp only [Bool.and_eq_true, beq_iff_eq] at h
    exact ⟨fs, hu, h.1, h.2.1, h.2.2⟩
  · cases h
theorem under_i64 : Try.prog.underlying 3 = some (.int .i64) := by kernel_rfl
end
end Go.Proofs.Ytoeknbogaclfdaa

namespace Go.Proofs.Ytoeknbogaclfdaa
open Go.ChangeShapes Go.WideShapes Go.ChangeAt Go.RowKit Go.Deep
set_option linter.unusedVariables false
set_option maxRecDepth 100000
section
variable {H : Type} {enc : TypeId × Value → H} {w : World} {base : Nat} {spare : Nat → Bool} {held : Bool}
theorem open_lst_cells {α : Type} {size : Nat} {R : α → List Value → World → Prop} {Q : α → Prop} {t e : TypeId} (ht : Try.prog.underlying t = some (.slice e)) (hsz : Try.prog.cellsOf e = size) (hR : Rep size R)
    (hel : ∀ (fuel : Nat) (cs : List Value) (x : DataW H × List MemPlace), DataW.trod enc Try.prog w base spare held fuel e cs = some x → ∃ a, R a cs w ∧ Q a)
    {fuel : Nat} {u : Value} {x : DataW H × List MemPlace} (h : DataW.trod enc Try.prog w base spare held fuel t [u] = some x) : ∃ A n c xs, u = .slice A n c ∧ Lst size R w A n c xs ∧ ∀ a ∈ xs, Q a := by
  rcases open_slice ht h with ⟨hcs, _⟩ | ⟨a, len, cap, m, n, D, Pl, hcs, _, hl, hm, hmm, _, hx⟩
  · simp at hcs
    subst hcs
    exact ⟨_, _, _, [], rfl, Lst.nil _, by simp⟩
  · simp at hcs
    subst hcs
    have hlm : len ≤ m := by rw [hmm]; split <;> omega
    have step : ∀ k, k ≤ len → ∃ (xs : List α) (css : List (List Value)), xs.length = k ∧ All2 R w xs css ∧ (∀ x ∈ xs, Q x) ∧ ∀ (j : Nat) (v : Value), css.flatten[j]? = some v → w.cell? (a.add j) = some v := by
      intro k
      induction k with
      | zero => exact fun _ => ⟨[], [], rfl, .nil, by simp, fun j v hv => by simp at hv⟩
      | succ k ih =>
        intro hk
        obtain ⟨xs, css, e1, e2, e3, e4⟩ := ih (by omega)
        obtain ⟨cs, c1, c2⟩ := hx k (by omega)
        obtain ⟨y, hy, hq⟩ := hel _ _ _ c2
        obtain ⟨_, hcl, hcc⟩ := World.cells?_some c1
        rw [hsz] at hcl hcc
        refine ⟨xs ++ [y], css ++ [cs], by simp [e1], e2.append (.cons hy .nil), ?_, ?_⟩
        · intro z hz
          rcases List.mem_append.1 hz with hz | hz
          · exact e3 z hz
          · simp at hz
            exact hz ▸ hq
        · intro j v hv
          have hfl := e2.flat hR
          rw [e1] at hfl
          rw [List.flatten_append, List.flatten_cons, List.flatten_nil, List.append_nil, List.getElem?_append] at hv
          split at hv
          · exact e4 j v hv
          · rename_i hj
            rw [hfl] at hj hv
            have hjl : j - k * size < cs.length := (List.getElem?_eq_some_iff.1 hv).1
            have := hcc (j - k * size) (by omega)
            rw [add_add, show k * size + (j - k * size) = j by omega] at this
            rw [this]
            exact hv
    obtain ⟨xs, css, e1, e2, e3, e4⟩ := step len (Nat.le_refl _)
    exact ⟨some a, len, cap, xs, rfl, ⟨e1, hl, hm, css, e2, by rw [e2.flat hR, e1], fun _ => ⟨a, rfl, e4⟩⟩, e3⟩
end
end Go.Proofs.Ytoeknbogaclfdaa

namespace Go.Proofs.Ytoeknbogaclfdaa
open Go.ChangeShapes Go.WideShapes Go.ChangeAt Go.RowKit Go.Deep
set_option linter.unusedVariables false
set_option maxRecDepth 100000
section
variable {H : Type} {enc : TypeId × Value → H} {w : World} {base : Nat} {spare : Nat → Bool} {held : Bool}
theorem under_mark : ∃ fs : Array Field, Try.prog.underlying TMk = some (.struct fs) ∧ fs.map (·.type) = #[3, 9, 3, 4] ∧ oneCellFields Try.prog fs = true ∧ Try.prog.cellsOf TMk = fs.size :=
  structOk_of (by kernel_rfl)
theorem under_bool : Try.prog.underlying 4 = some .bool := by kernel_rfl
theorem open_bool1 {fuel : Nat} {u : Value} {x : DataW H × List MemPlace} (h : DataW.trod enc Try.prog w base spare held fuel 4 [u] = some x) : ∃ s : Bool, u = .bool s := by
  obtain ⟨s, hcs, _⟩ := DataW.trod_bool under_bool h
  simp at hcs
  exact ⟨s, hcs⟩
theorem mark_cells {fuel : Nat} {cs : List Value} {x : DataW H × List MemPlace} (h : DataW.trod enc Try.prog w base spare held fuel TMk cs = some x) :
    ∃ m : Mk, mkR m cs w ∧ m.nm.size ≤ maxLen := by
  obtain ⟨fs, hs, hts, hone, hC⟩ := under_mark
  have hsz : fs.size = 4 := by
    have := congrArg Array.size hts
    simpa using this
  obtain ⟨hl, hf⟩ := open_cells hs hone h hC
  have ty : ∀ (i : Nat) (t : TypeId), #[3, 9, 3, 4][i]? = some t → ∃ f : Field, fs[i]? = some f ∧ f.type = t := by
    intro i t hi
    rw [← hts, Array.getElem?_map, Option.map_eq_some_iff] at hi
    exact hi
  obtain ⟨f0, i0, e0⟩ := ty 0 _ rfl
  obtain ⟨f1, i1, e1⟩ := ty 1 _ rfl
  obtain ⟨f2, i2, e2⟩ := ty 2 _ rfl
  obtain ⟨f3, i3, e3⟩ := ty 3 _ rfl
  obtain ⟨u0, y0, m0, c0, t0⟩ := hf 0 f0 i0
  obtain ⟨u1, y1, m1, c1, t1⟩ := hf 1 f1 i1
  obtain ⟨u2, y2, m2, c2, t2⟩ := hf 2 f2 i2
  obtain ⟨u3, y3, m3, c3, t3⟩ := hf 3 f3 i3
  rw [e0] at t0
  rw [e1] at t1
  rw [e2] at t2
  rw [e3] at t3
  obtain ⟨k0, rfl, _⟩ := open_i64 under_i64 t0
  obtain ⟨s, rfl, hss⟩ := open_str t1
  obtain ⟨k2, rfl, _⟩ := open_i64 under_i64 t2
  obtain ⟨g, rfl⟩ := open_bool1 t3
  refine ⟨⟨k0, s, k2, g⟩, ?_, hss⟩
  unfold mkR
  apply List.ext_getElem?
  intro i
  match i with
  | 0 => rw [c0]; rfl
  | 1 => rw [c1]; rfl
  | 2 => rw [c2]; rfl
  | 3 => rw [c3]; rfl
  | i + 4 => rw [List.getElem?_eq_none (by omega)]; rfl
def structAt (P : Program) (t : TypeId) (ts : Array (TypeId × Nat × Nat)) (N : Nat) : Bool := match P.underlying t with
  | some (.struct fs) => (fs.map (fun f => (f.type, f.offset, P.cellsOf f.type)) == ts) && P.cellsOf t == N
  | _ => false
theorem structAt_of {P : Program} {t : TypeId} {ts : Array (TypeId × Nat × Nat)} {N : Nat} (h : structAt P t ts N = true) : ∃ fs : Array Field, P.underlying t = some (.struct fs) ∧ fs.map (fun f => (f.type, f.offset, P.cellsOf f.type)) = ts ∧ P.cellsOf t = N := by
  unfold structAt at h
  split at h
  · rename_i fs hu
    simp only [Bool.and_eq_true, beq_iff_eq] at h
    exact ⟨fs, hu, h.1, h.2⟩
  · cases h
theorem open_at {t : TypeId} {fs : Array Field} {ts : Array (TypeId × Nat × Nat)} {N fuel : Nat} {cs : List Value} {x : DataW H × List MemPlace} (hs : Try.prog.underlying t = some (.struct fs)) (hts : fs.map (fun f => (f.type, f.offset, Try.prog.cellsOf f.type)) = ts) (hC : Try.prog.cellsOf t = N)
    (h : DataW.trod enc Try.prog w base spare held fuel t cs = some x) :
    cs.length = N ∧ ∀ (i : Nat) (ty : TypeId) (off k : Nat), ts[i]? = some (ty, off, k) → ∃ (m : Nat) (y : DataW H × List MemPlace), DataW.trod enc Try.prog w base spare held m ty ((cs.drop off).take k) = some y := by
  obtain ⟨xs, n, _, _, hlen, hxl, hf⟩ := DataW.trod_struct hs h
  rw [hC] at hlen
  refine ⟨hlen, fun i ty off k hi => ?_⟩
  rw [← hts, Array.getElem?_map, Option.map_eq_some_iff] at hi
  obtain ⟨f, hfi, e⟩ := hi
  simp only [Prod.mk.injEq] at e
  obtain ⟨rfl, rfl, rfl⟩ := e
  have h1 := hf i f hfi
  have hil : i < xs.length := by rw [hxl]; exact (Array.getElem?_eq_some_iff.1 hfi).1
  rw [List.getElem?_eq_getElem hil] at h1
  exact ⟨n, _, h1⟩
end
end Go.Proofs.Ytoeknbogaclfdaa

namespace Go.Proofs.Ytoeknbogaclfdaa
open Go.ChangeShapes Go.WideShapes Go.ChangeAt Go.RowKit Go.Deep
set_option linter.unusedVariables false
set_option maxRecDepth 100000
section
variable {H : Type} {enc : TypeId × Value → H} {w : World} {base : Nat} {spare : Nat → Bool} {held : Bool}
def inB (x : Int) : Prop := -9223372036854775808 ≤ x ∧ x ≤ 9223372036854775807
theorem under_tag : ∃ fs : Array Field, Try.prog.underlying 104 = some (.struct fs) ∧ fs.map (·.type) = #[3, 3, 3, 3] ∧ oneCellFields Try.prog fs = true ∧ Try.prog.cellsOf 104 = fs.size :=
  structOk_of (by kernel_rfl)
def tgB (x : Tg) : Prop := inB x.id ∧ inB x.ow ∧ inB x.he ∧ inB x.pt
theorem tag_cells {fuel : Nat} {cs : List Value} {x : DataW H × List MemPlace} (h : DataW.trod enc Try.prog w base spare held fuel 104 cs = some x) :
    ∃ t : Tg, tgR t cs w ∧ tgB t := by
  obtain ⟨fs, hs, hts, hone, hC⟩ := under_tag
  have hsz : fs.size = 4 := by
    have := congrArg Array.size hts
    simpa using this
  obtain ⟨hl, hf⟩ := open_cells hs hone h hC
  have ty : ∀ (i : Nat) (t : TypeId), #[3, 3, 3, 3][i]? = some t → ∃ f : Field, fs[i]? = some f ∧ f.type = t := by
    intro i t hi
    rw [← hts, Array.getElem?_map, Option.map_eq_some_iff] at hi
    exact hi
  obtain ⟨f0, i0, e0⟩ := ty 0 _ rfl
  obtain ⟨f1, i1, e1⟩ := ty 1 _ rfl
  obtain ⟨f2, i2, e2⟩ := ty 2 _ rfl
  obtain ⟨f3, i3, e3⟩ := ty 3 _ rfl
  obtain ⟨u0, y0, m0, c0, t0⟩ := hf 0 f0 i0
  obtain ⟨u1, y1, m1, c1, t1⟩ := hf 1 f1 i1
  obtain ⟨u2, y2, m2, c2, t2⟩ := hf 2 f2 i2
  obtain ⟨u3, y3, m3, c3, t3⟩ := hf 3 f3 i3
  rw [e0] at t0
  rw [e1] at t1
  rw [e2] at t2
  rw [e3] at t3
  obtain ⟨a, rfl, b0⟩ := open_i64 under_i64 t0
  obtain ⟨b, rfl, b1⟩ := open_i64 under_i64 t1
  obtain ⟨c, rfl, b2⟩ := open_i64 under_i64 t2
  obtain ⟨d, rfl, b3⟩ := open_i64 under_i64 t3
  refine ⟨⟨a, b, c, d⟩, ?_, b0, b1, b2, b3⟩
  apply List.ext_getElem?
  intro i
  match i with
  | 0 => rw [c0]; rfl
  | 1 => rw [c1]; rfl
  | 2 => rw [c2]; rfl
  | 3 => rw [c3]; rfl
  | i + 4 => rw [List.getElem?_eq_none (by omega)]; rfl
end
end Go.Proofs.Ytoeknbogaclfdaa

namespace Go.Proofs.Ytoeknbogaclfdaa
open Go.ChangeShapes Go.WideShapes Go.ChangeAt Go.RowKit Go.Deep
set_option linter.unusedVariables false
set_option maxRecDepth 100000
section
variable {H : Type} {enc : TypeId × Value → H} {w : World} {base : Nat} {spare : Nat → Bool} {held : Bool}
theorem under_entry : ∃ fs : Array Field, Try.prog.underlying 71 = some (.struct fs) ∧ fs.map (·.type) = #[3, 3, 23] ∧ oneCellFields Try.prog fs = true ∧ Try.prog.cellsOf 71 = fs.size :=
  structOk_of (by kernel_rfl)
theorem entry_cells {fuel : Nat} {cs : List Value} {x : DataW H × List MemPlace} (h : DataW.trod enc Try.prog w base spare held fuel 71 cs = some x) :
    ∃ (t s : Int) (A : Option Addr) (n c : Nat) (l : List UInt8), cs = [.int .i64 t, .int .i64 s, .slice A n c] ∧ Sl w A n c l ∧
      (-9223372036854775808 ≤ t ∧ t ≤ 9223372036854775807) ∧ (-9223372036854775808 ≤ s ∧ s ≤ 9223372036854775807) := by
  obtain ⟨fs, hs, hts, hone, hC⟩ := under_entry
  have hsz : fs.size = 3 := by
    have := congrArg Array.size hts
    simpa using this
  obtain ⟨hl, hf⟩ := open_cells hs hone h hC
  have ty : ∀ (i : Nat) (t : TypeId), #[3, 3, 23][i]? = some t → ∃ f : Field, fs[i]? = some f ∧ f.type = t := by
    intro i t hi
    rw [← hts, Array.getElem?_map, Option.map_eq_some_iff] at hi
    exact hi
  obtain ⟨f0, i0, e0⟩ := ty 0 _ rfl
  obtain ⟨f1, i1, e1⟩ := ty 1 _ rfl
  obtain ⟨f2, i2, e2⟩ := ty 2 _ rfl
  obtain ⟨u0, y0, m0, c0, t0⟩ := hf 0 f0 i0
  obtain ⟨u1, y1, m1, c1, t1⟩ := hf 1 f1 i1
  obtain ⟨u2, y2, m2, c2, t2⟩ := hf 2 f2 i2
  rw [e0] at t0
  rw [e1] at t1
  rw [e2] at t2
  obtain ⟨k, rfl, b0⟩ := open_i64 under_i64 t0
  obtain ⟨o, rfl, b1⟩ := open_i64 under_i64 t1
  obtain ⟨A, n, c, l, rfl, hsl⟩ := open_bytes t2
  refine ⟨k, o, A, n, c, l, ?_, hsl, b0, b1⟩
  apply List.ext_getElem?
  intro i
  match i with
  | 0 => rw [c0]; rfl
  | 1 => rw [c1]; rfl
  | 2 => rw [c2]; rfl
  | i + 3 => rw [List.getElem?_eq_none (by omega)]; rfl
end
end Go.Proofs.Ytoeknbogaclfdaa

namespace Go.Proofs.Ytoeknbogaclfdaa
open Go.ChangeShapes Go.WideShapes Go.ChangeAt Go.RowKit Go.Deep
set_option linter.unusedVariables false
set_option linter.unusedSimpArgs false
set_option linter.unnecessarySimpa false
set_option maxRecDepth 100000
section
variable {H : Type} {enc : TypeId × Value → H} {w : World} {base : Nat} {spare : Nat → Bool} {held : Bool}
theorem under_msg : ∃ fs : Array Field, Try.prog.underlying TMs = some (.struct fs) ∧ fs.map (fun f => (f.type, f.offset, Try.prog.cellsOf f.type)) = #[(3, 0, 1), (3, 1, 1), (3, 2, 1), (3, 3, 1), (3, 4, 1), (3, 5, 1), (25, 6, 1), (26, 7, 1), (27, 8, 1), (23, 9, 1)] ∧ Try.prog.cellsOf TMs = 10 :=
  structAt_of (by kernel_rfl)
theorem ten_list {cs : List Value} (h : cs.length = 10) : ∃ a b c d e f g i j k, cs = [a, b, c, d, e, f, g, i, j, k] := by
  obtain _ | ⟨a, _ | ⟨b, _ | ⟨c, _ | ⟨d, _ | ⟨e, _ | ⟨f, _ | ⟨g, _ | ⟨i, _ | ⟨j, _ | ⟨k, _ | ⟨q, l⟩⟩⟩⟩⟩⟩⟩⟩⟩⟩⟩ := cs <;> simp at h
  exact ⟨a, b, c, d, e, f, g, i, j, k, rfl⟩
theorem open_msg {r : Reach} {b0 : Nat} {v : Value} {d : DataW H} {p : List MemPlace} (hv : Value.okWide Try.prog w r b0 TMs v) (h : DataW.Trod enc Try.prog w base spare held TMs v d p) :
    ∃ (m : Ms) (A1 : Option Addr) (An1 Ac1 : Nat) (A2 : Option Addr) (An2 Ac2 : Nat) (A3 : Option Addr) (An3 Ac3 : Nat) (A4 : Option Addr) (An4 Ac4 : Nat), v = msV m A1 An1 Ac1 A2 An2 Ac2 A3 An3 Ac3 A4 An4 Ac4 ∧ MsR w m A1 An1 Ac1 A2 An2 Ac2 A3 An3 Ac3 A4 An4 Ac4 ∧ (∀ x ∈ m.marks, x.nm.size ≤ maxLen) ∧ EnFit m.ents := by
  obtain ⟨fs, hs, hts, hC⟩ := under_msg
  obtain ⟨cs, rfl, _⟩ := okWide_struct hs hv
  obtain ⟨fuel, hf⟩ := h
  obtain ⟨hl, hg⟩ := open_at hs hts hC hf
  obtain ⟨c0, c1, c2, c3, c4, c5, c6, c7, c8, c9, hcs⟩ := ten_list hl
  rw [hcs] at hg
  obtain ⟨n0, y0, t0⟩ := hg 0 _ _ _ rfl
  obtain ⟨n1, y1, t1⟩ := hg 1 _ _ _ rfl
  obtain ⟨n2, y2, t2⟩ := hg 2 _ _ _ rfl
  obtain ⟨n3, y3, t3⟩ := hg 3 _ _ _ rfl
  obtain ⟨n4, y4, t4⟩ := hg 4 _ _ _ rfl
  obtain ⟨n5, y5, t5⟩ := hg 5 _ _ _ rfl
  obtain ⟨n6, y6, t6⟩ := hg 6 _ _ _ rfl
  obtain ⟨n7, y7, t7⟩ := hg 7 _ _ _ rfl
  obtain ⟨n8, y8, t8⟩ := hg 8 _ _ _ rfl
  obtain ⟨n9, y9, t9⟩ := hg 9 _ _ _ rfl
  simp only [List.drop_zero, List.drop_succ_cons, List.take_succ_cons, List.take_zero] at t0 t1 t2 t3 t4 t5 t6 t7 t8 t9
  obtain ⟨k0, rfl, _⟩ := open_i64 under_i64 t0
  obtain ⟨k1, rfl, _⟩ := open_i64 under_i64 t1
  obtain ⟨k2, rfl, _⟩ := open_i64 under_i64 t2
  obtain ⟨k3, rfl, _⟩ := open_i64 under_i64 t3
  obtain ⟨k4, rfl, _⟩ := open_i64 under_i64 t4
  obtain ⟨k5, rfl, _⟩ := open_i64 under_i64 t5
  obtain ⟨A1, An1, Ac1, ch, rfl, hch, _⟩ := open_lst_cells (α := Tg) (size := 4) (R := tgR) (Q := tgB) (e := 104) (by kernel_rfl) (by kernel_rfl) tg_rep (fun fuel cs x hx => tag_cells hx) t6
  obtain ⟨A2, An2, Ac2, en, rfl, hen, hq⟩ := open_lst_cells (α := En) (size := 3) (R := enR) (Q := fun x => x.t ≤ 9223372036854775807 ∧ x.s ≤ 9223372036854775807) (e := TEn) (by kernel_rfl) (by kernel_rfl) en_rep (fun fuel cs x hx => by
    obtain ⟨t, s, A, n, c, l, rfl, hsl, b0, b1⟩ := entry_cells hx
    exact ⟨⟨t, s, l⟩, ⟨A, n, c, rfl, hsl⟩, b0.2, b1.2⟩) t7
  obtain ⟨A3, An3, Ac3, mk, rfl, hmk, hm⟩ := open_lst_cells (α := Mk) (size := 4) (R := mkR) (Q := fun x => x.nm.size ≤ maxLen) (e := TMk) under_mks (by kernel_rfl) mk_rep (fun fuel cs x hx => mark_cells hx) t8
  obtain ⟨A4, An4, Ac4, da, rfl, hda⟩ := open_bytes t9
  refine ⟨⟨k0, k1, k2, k3, k4, k5, ch, en, mk, da⟩, A1, An1, Ac1, A2, An2, Ac2, A3, An3, Ac3, A4, An4, Ac4, ?_, ⟨hch, hen, hmk, hda⟩, hm, hq⟩
  have : cs.toList = [.int .i64 k0, .int .i64 k1, .int .i64 k2, .int .i64 k3, .int .i64 k4, .int .i64 k5, .slice A1 An1 Ac1, .slice A2 An2 Ac2, .slice A3 An3 Ac3, .slice A4 An4 Ac4] := by simpa [Value.cells] using hcs
  show Value.agg cs = Value.agg _
  rw [← Array.toArray_toList (xs := cs), this]
end
end Go.Proofs.Ytoeknbogaclfdaa
