/-
  Arguments of a call opened: bytes, structs whose fields are one cell each. From the kit's reading of Go's data (DataW) to this claim's own words.
-/
import Derived.Test.YtoeknbogaclfdaaZCore
import Derived.ProofKit
import Derived.OpenShut
import Derived.ShutString
import Derived.ChangeOld
import Derived.Below
import Derived.Deep.Slices
import Derived.Deep.Fields
import Derived.ChangeSame
namespace Go.Proofs.Ytoeknbogaclfdaa
open Go.ChangeShapes Go.WideShapes Go.ChangeAt Go.RowKit Go.Deep
set_option linter.unusedVariables false
set_option maxRecDepth 100000

/-- the cells of a slice that came in, as bytes -/
theorem sl_open {w : World} {x : Addr} {len cap : Nat} {zs : List Int} (hl : len ≤ cap) (hm : cap ≤ maxLen) (hz : len ≤ zs.length) (hcell : ∀ i, i < zs.length → w.cell? (x.add i) = some (.int .u8 (zs.getD i 0))) (hwz : ∀ n ∈ zs, (Lit.int .u8 n).wf = true) :
    Sl w (some x) len cap ((zs.take len).map fun z => UInt8.ofNat z.toNat) := by
  refine ⟨by simp; omega, hl, hm, by simp; omega, fun _ => ⟨x, rfl, fun j u hu => ?_⟩⟩
  simp only [List.getElem?_map, List.getElem?_take] at hu
  split at hu
  · rename_i hj
    have hj2 : j < zs.length := by omega
    rw [hcell j hj2]
    rw [List.getElem?_eq_getElem hj2] at hu
    simp only [Option.map_some, Option.some.injEq] at hu
    have hb := bounds_u8 (hwz zs[j] (List.getElem_mem hj2))
    rw [← hu, List.getD_eq_getElem?_getD, List.getElem?_eq_getElem hj2]
    simp only [Option.getD_some, UInt8.toNat_ofNat', Option.some.injEq, Value.int.injEq, true_and]
    omega
  · simp at hu

section
variable {H : Type} {enc : TypeId × Value → H} {w : World} {base : Nat} {spare : Nat → Bool} {held : Bool}
theorem open_bytes {fuel : Nat} {u : Value} {x : DataW H × List MemPlace} (h : DataW.trod enc Try.prog w base spare held fuel 23 [u] = some x) : ∃ A n c l, u = .slice A n c ∧ Sl w A n c l := by
  rcases open_ints under_bytes under_u8 (by kernel_rfl) h with ⟨hcs, _⟩ | ⟨a, len, cap, zs, hcs, _, hl, hm, hz, _, hcell, hwz⟩
  · simp at hcs
    subst hcs
    exact ⟨_, _, _, [], rfl, Sl.nil _⟩
  · simp at hcs
    subst hcs
    exact ⟨_, _, _, _, rfl, sl_open hl hm (by rw [hz]; split <;> omega) hcell hwz⟩
theorem open_i64 {fuel : Nat} {u : Value} {x : DataW H × List MemPlace} {t : TypeId} (ht : Try.prog.underlying t = some (.int .i64)) (h : DataW.trod enc Try.prog w base spare held fuel t [u] = some x) : ∃ k : Int, u = .int .i64 k ∧ -9223372036854775808 ≤ k ∧ k ≤ 9223372036854775807 := by
  obtain ⟨k, hcs, _, hwf⟩ := DataW.trod_int ht h
  simp at hcs
  exact ⟨k, hcs, bounds_i64 hwf⟩
theorem open_str {fuel : Nat} {u : Value} {x : DataW H × List MemPlace} (h : DataW.trod enc Try.prog w base spare held fuel 9 [u] = some x) : ∃ s : ByteArray, u = .string s ∧ s.size ≤ maxLen := by
  obtain ⟨s, hcs, _, hs⟩ := DataW.trod_string under_str h
  simp at hcs
  exact ⟨s, hcs, hs⟩
/-- a struct's cells: each field's own reading -/
theorem open_cells {t : TypeId} {fs : Array Field} {fuel : Nat} {cs : List Value} {x : DataW H × List MemPlace} (hs : Try.prog.underlying t = some (.struct fs)) (hone : oneCellFields Try.prog fs = true)
    (h : DataW.trod enc Try.prog w base spare held fuel t cs = some x) (hC : Try.prog.cellsOf t = fs.size) :
    cs.length = fs.size ∧ ∀ (i : Nat) (f : Field), fs[i]? = some f → ∃ (u : Value) (y : DataW H × List MemPlace) (m : Nat), cs[i]? = some u ∧ DataW.trod enc Try.prog w base spare held m f.type [u] = some y := by
  obtain ⟨xs, n, _, _, hlen, hxl, hf⟩ := DataW.trod_struct hs h
  rw [hC] at hlen
  refine ⟨hlen, fun i f hi => ?_⟩
  obtain ⟨ho, hk⟩ := hone_of hone i f hi
  have hil : i < fs.size := (Array.getElem?_eq_some_iff.1 hi).1
  have h1 := hf i f hi
  rw [ho, hk, List.drop_eq_getElem_cons (by omega), List.take_succ_cons, List.take_zero, List.getElem?_eq_getElem (by omega)] at h1
  exact ⟨_, _, n, List.getElem?_eq_getElem (by omega), h1⟩
def structOk (P : Program) (t : TypeId) (ts : Array TypeId) : Bool := match P.underlying t with
  | some (.struct fs) => (fs.map (·.type) == ts) && (oneCellFields P fs && P.cellsOf t == fs.size)
  | _ => false
theorem structOk_of {P : Program} {t : TypeId} {ts : Array TypeId} (h : structOk P t ts = true) : ∃ fs : Array Field, P.underlying t = some (.struct fs) ∧ fs.map (·.type) = ts ∧ oneCellFields P fs = true ∧ P.cellsOf t = fs.size := by
  unfold structOk at h
  split at h
  · rename_i fs hu
    simp only [Bool.and_eq_true, beq_iff_eq] at h
    exact ⟨fs, hu, h.1, h.2.1, h.2.2⟩
  · cases h
theorem under_i64 : Try.prog.underlying 3 = some (.int .i64) := by kernel_rfl
end
end Go.Proofs.Ytoeknbogaclfdaa
