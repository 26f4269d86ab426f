/-
  Rows of rows of bytes.
-/
import Derived.Test.YtcchlkialgjamaaLst
import Derived.Test.YtcchlkialgjamaaOpenLst
namespace Go.Proofs.Ytcchlkialgjamaa
open Go.ChangeShapes Go.WideShapes Go.ChangeAt Go.RowKit Go.Deep
set_option linter.unusedVariables false
set_option linter.unusedSimpArgs false
set_option maxRecDepth 100000

abbrev TRow : TypeId := 22
theorem info_row : (Try.prog.info? TRow).map (fun i => (i.zero, i.size, i.bytes)) = some (some (.slice none 0 0), 1, 24) := by kernel_rfl
theorem under_rows : Try.prog.underlying 48 = some (.slice TRow) := by kernel_rfl
def blR (x : List UInt8) (cs : List Value) (w : World) : Prop := ∃ A n c, cs = [.slice A n c] ∧ Sl w A n c x
theorem pts_row {A : Option Addr} {n c k : Nat} (h : Pts [.slice A n c] k) : ∃ ad, A = some ad ∧ 0 < n ∧ ad.block = k :=
  pts_slice h (by intro ad m c' hm; simp at hm; exact ⟨hm.1.symm, hm.2.1⟩)
theorem bl_rep : Rep 1 blR where
  len := by rintro x cs w ⟨A, n, c, rfl, _⟩; rfl
  one := by
    rintro x cs w ⟨A, n, c, rfl, _⟩ u hu
    simp at hu
    subst hu
    rfl
  keep := by
    rintro x cs w w' ⟨A, n, c, rfl, hs⟩ hk
    exact ⟨A, n, c, rfl, hs.keepBlk fun ad e hn => hk _ ⟨ad, n, c, by simp [e], hn, rfl⟩⟩
  lt := by
    rintro x cs w ⟨A, n, c, rfl, hs⟩ k hp
    obtain ⟨ad, e, hn, rfl⟩ := pts_row hp
    exact hs.blk ad e hn
/-- a row of rows that came in -/
abbrev RowsI (w : World) (A : Option Addr) (n c : Nat) (rows : List (List UInt8)) : Prop := Lst 1 blR w A n c rows
/-- the row at a place: its slot, and what it is -/
theorem row_at {w : World} {A : Option Addr} {n c i : Nat} {rows : List (List UInt8)} (h : Lst 1 blR w A n c rows) (hi : i < n) :
    ∃ ga oa r Ar nr cr, A = some ⟨ga, oa, none⟩ ∧ rows[i]? = some r ∧ w.cell? ⟨ga, oa + i, none⟩ = some (.slice Ar nr cr) ∧ Sl w Ar nr cr r := by
  obtain ⟨ga, oa, x, cs, rfl, hx, ⟨Aa, na, ca, rfl, sa⟩, ha⟩ := h.at2 bl_rep (by omega) hi
  exact ⟨ga, oa, x, Aa, na, ca, rfl, hx, by have := ha 0 _ rfl; simpa using this, sa⟩
section
variable {H : Type} {enc : TypeId × Value → H} {w : World} {base : Nat} {spare : Nat → Bool} {held : Bool}
theorem row_cells {fuel : Nat} {cs : List Value} {x : DataW H × List MemPlace} (h : DataW.trod enc Try.prog w base spare held fuel 22 cs = some x) : ∃ l, blR l cs w := by
  rcases open_ints under_bytes under_u8 (by kernel_rfl) h with ⟨hcs, _⟩ | ⟨a, len, cap, zs, hcs, _, hl, hm, hz, _, hcell, hwz⟩
  · exact ⟨[], _, _, _, hcs, Sl.nil _⟩
  · exact ⟨_, _, _, _, hcs, sl_open hl hm (by rw [hz]; split <;> omega) hcell hwz⟩
theorem open_rows {r : Reach} {b0 : Nat} {v : Value} {d : DataW H} {p : List MemPlace} (hv : Value.okWide Try.prog w r b0 48 v) (h : DataW.Trod enc Try.prog w base spare held 48 v d p) :
    ∃ A n c rows, v = .slice A n c ∧ Lst 1 blR w A n c rows := by
  obtain ⟨A, n, c, rows, e, hl, _⟩ := open_lst (Q := fun _ => True) (e := 22) (by kernel_rfl) (by kernel_rfl) bl_rep (fun fuel cs x hx => by
    obtain ⟨l, hl⟩ := row_cells hx
    exact ⟨l, hl, trivial⟩) hv h
  exact ⟨A, n, c, rows, e, hl⟩
end
end Go.Proofs.Ytcchlkialgjamaa
