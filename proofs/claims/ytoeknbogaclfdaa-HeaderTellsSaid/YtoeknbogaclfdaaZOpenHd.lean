/-
  Marks and a record that came in, opened.
-/
import Derived.Test.YtoeknbogaclfdaaZOpenLst
import Derived.Test.YtoeknbogaclfdaaZOpen0
import Derived.Test.YtoeknbogaclfdaaZHd2
namespace Go.Proofs.Ytoeknbogaclfdaa
open Go.ChangeShapes Go.WideShapes Go.ChangeAt Go.RowKit Go.Deep
set_option linter.unusedVariables false
set_option maxRecDepth 100000
section
variable {H : Type} {enc : TypeId × Value → H} {w : World} {base : Nat} {spare : Nat → Bool} {held : Bool}
theorem under_mark : ∃ fs : Array Field, Try.prog.underlying TMk = some (.struct fs) ∧ fs.map (·.type) = #[3, 9, 3, 4] ∧ oneCellFields Try.prog fs = true ∧ Try.prog.cellsOf TMk = fs.size :=
  structOk_of (by kernel_rfl)
theorem under_lay : ∃ fs : Array Field, Try.prog.underlying 41 = some (.struct fs) ∧ fs.map (·.type) = #[3, 3, 3] ∧ oneCellFields Try.prog fs = true ∧ Try.prog.cellsOf 41 = fs.size :=
  structOk_of (by kernel_rfl)
theorem under_bool : Try.prog.underlying 4 = some .bool := by kernel_rfl
theorem open_bool1 {fuel : Nat} {u : Value} {x : DataW H × List MemPlace} (h : DataW.trod enc Try.prog w base spare held fuel 4 [u] = some x) : ∃ s : Bool, u = .bool s := by
  obtain ⟨s, hcs, _⟩ := DataW.trod_bool under_bool h
  simp at hcs
  exact ⟨s, hcs⟩
theorem mark_cells {fuel : Nat} {cs : List Value} {x : DataW H × List MemPlace} (h : DataW.trod enc Try.prog w base spare held fuel TMk cs = some x) :
    ∃ m : Mk, mkR m cs w ∧ m.nm.size ≤ maxLen := by
  obtain ⟨fs, hs, hts, hone, hC⟩ := under_mark
  have hsz : fs.size = 4 := by
    have := congrArg Array.size hts
    simpa using this
  obtain ⟨hl, hf⟩ := open_cells hs hone h hC
  have ty : ∀ (i : Nat) (t : TypeId), #[3, 9, 3, 4][i]? = some t → ∃ f : Field, fs[i]? = some f ∧ f.type = t := by
    intro i t hi
    rw [← hts, Array.getElem?_map, Option.map_eq_some_iff] at hi
    exact hi
  obtain ⟨f0, i0, e0⟩ := ty 0 _ rfl
  obtain ⟨f1, i1, e1⟩ := ty 1 _ rfl
  obtain ⟨f2, i2, e2⟩ := ty 2 _ rfl
  obtain ⟨f3, i3, e3⟩ := ty 3 _ rfl
  obtain ⟨u0, y0, m0, c0, t0⟩ := hf 0 f0 i0
  obtain ⟨u1, y1, m1, c1, t1⟩ := hf 1 f1 i1
  obtain ⟨u2, y2, m2, c2, t2⟩ := hf 2 f2 i2
  obtain ⟨u3, y3, m3, c3, t3⟩ := hf 3 f3 i3
  rw [e0] at t0
  rw [e1] at t1
  rw [e2] at t2
  rw [e3] at t3
  obtain ⟨k0, rfl, _⟩ := open_i64 under_i64 t0
  obtain ⟨s, rfl, hss⟩ := open_str t1
  obtain ⟨k2, rfl, _⟩ := open_i64 under_i64 t2
  obtain ⟨g, rfl⟩ := open_bool1 t3
  refine ⟨⟨k0, s, k2, g⟩, ?_, hss⟩
  unfold mkR
  apply List.ext_getElem?
  intro i
  match i with
  | 0 => rw [c0]; rfl
  | 1 => rw [c1]; rfl
  | 2 => rw [c2]; rfl
  | 3 => rw [c3]; rfl
  | i + 4 => rw [List.getElem?_eq_none (by omega)]; rfl
theorem lay_cells {fuel : Nat} {cs : List Value} {x : DataW H × List MemPlace} (h : DataW.trod enc Try.prog w base spare held fuel 41 cs = some x) :
    ∃ a b c : Int, cs = [.int .i64 a, .int .i64 b, .int .i64 c] := by
  obtain ⟨fs, hs, hts, hone, hC⟩ := under_lay
  have hsz : fs.size = 3 := by
    have := congrArg Array.size hts
    simpa using this
  obtain ⟨hl, hf⟩ := open_cells hs hone h hC
  have ty : ∀ (i : Nat) (t : TypeId), #[3, 3, 3][i]? = some t → ∃ f : Field, fs[i]? = some f ∧ f.type = t := by
    intro i t hi
    rw [← hts, Array.getElem?_map, Option.map_eq_some_iff] at hi
    exact hi
  obtain ⟨f0, i0, e0⟩ := ty 0 _ rfl
  obtain ⟨f1, i1, e1⟩ := ty 1 _ rfl
  obtain ⟨f2, i2, e2⟩ := ty 2 _ rfl
  obtain ⟨u0, y0, m0, c0, t0⟩ := hf 0 f0 i0
  obtain ⟨u1, y1, m1, c1, t1⟩ := hf 1 f1 i1
  obtain ⟨u2, y2, m2, c2, t2⟩ := hf 2 f2 i2
  rw [e0] at t0
  rw [e1] at t1
  rw [e2] at t2
  obtain ⟨k0, rfl, _⟩ := open_i64 under_i64 t0
  obtain ⟨k1, rfl, _⟩ := open_i64 under_i64 t1
  obtain ⟨k2, rfl, _⟩ := open_i64 under_i64 t2
  refine ⟨k0, k1, k2, ?_⟩
  apply List.ext_getElem?
  intro i
  match i with
  | 0 => rw [c0]; rfl
  | 1 => rw [c1]; rfl
  | 2 => rw [c2]; rfl
  | i + 3 => rw [List.getElem?_eq_none (by omega)]; rfl
/-- a struct whose fields lie at offsets, of some cells each -/
def structAt (P : Program) (t : TypeId) (ts : Array (TypeId × Nat × Nat)) (N : Nat) : Bool := match P.underlying t with
  | some (.struct fs) => (fs.map (fun f => (f.type, f.offset, P.cellsOf f.type)) == ts) && P.cellsOf t == N
  | _ => false
theorem structAt_of {P : Program} {t : TypeId} {ts : Array (TypeId × Nat × Nat)} {N : Nat} (h : structAt P t ts N = true) : ∃ fs : Array Field, P.underlying t = some (.struct fs) ∧ fs.map (fun f => (f.type, f.offset, P.cellsOf f.type)) = ts ∧ P.cellsOf t = N := by
  unfold structAt at h
  split at h
  · rename_i fs hu
    simp only [Bool.and_eq_true, beq_iff_eq] at h
    exact ⟨fs, hu, h.1, h.2⟩
  · cases h
theorem open_at {t : TypeId} {fs : Array Field} {ts : Array (TypeId × Nat × Nat)} {N fuel : Nat} {cs : List Value} {x : DataW H × List MemPlace} (hs : Try.prog.underlying t = some (.struct fs)) (hts : fs.map (fun f => (f.type, f.offset, Try.prog.cellsOf f.type)) = ts) (hC : Try.prog.cellsOf t = N)
    (h : DataW.trod enc Try.prog w base spare held fuel t cs = some x) :
    cs.length = N ∧ ∀ (i : Nat) (ty : TypeId) (off k : Nat), ts[i]? = some (ty, off, k) → ∃ (m : Nat) (y : DataW H × List MemPlace), DataW.trod enc Try.prog w base spare held m ty ((cs.drop off).take k) = some y := by
  obtain ⟨xs, n, _, _, hlen, hxl, hf⟩ := DataW.trod_struct hs h
  rw [hC] at hlen
  refine ⟨hlen, fun i ty off k hi => ?_⟩
  rw [← hts, Array.getElem?_map, Option.map_eq_some_iff] at hi
  obtain ⟨f, hfi, e⟩ := hi
  simp only [Prod.mk.injEq] at e
  obtain ⟨rfl, rfl, rfl⟩ := e
  have h1 := hf i f hfi
  have hil : i < xs.length := by rw [hxl]; exact (Array.getElem?_eq_some_iff.1 hfi).1
  rw [List.getElem?_eq_getElem hil] at h1
  exact ⟨n, _, h1⟩
theorem under_head : ∃ fs : Array Field, Try.prog.underlying THd = some (.struct fs) ∧ fs.map (fun f => (f.type, f.offset, Try.prog.cellsOf f.type)) = #[(3, 0, 1), (41, 1, 3), (3, 4, 1), (3, 5, 1), (27, 6, 1)] ∧ Try.prog.cellsOf THd = 7 :=
  structAt_of (by kernel_rfl)
theorem seven_list {cs : List Value} (h : cs.length = 7) : ∃ a b c d e f g, cs = [a, b, c, d, e, f, g] := by
  obtain _ | ⟨a, _ | ⟨b, _ | ⟨c, _ | ⟨d, _ | ⟨e, _ | ⟨f, _ | ⟨g, _ | ⟨i, l⟩⟩⟩⟩⟩⟩⟩⟩ := cs <;> simp at h
  exact ⟨a, b, c, d, e, f, g, rfl⟩
theorem open_head {r : Reach} {b0 : Nat} {v : Value} {d : DataW H} {p : List MemPlace} (hv : Value.okWide Try.prog w r b0 THd v) (h : DataW.Trod enc Try.prog w base spare held THd v d p) :
    ∃ (h : Hd) (A : Option Addr) (n c : Nat), v = hdV h A n c ∧ Lst 4 mkR w A n c h.marks ∧ ∀ x ∈ h.marks, x.nm.size ≤ maxLen := by
  obtain ⟨fs, hs, hts, hC⟩ := under_head
  obtain ⟨cs, rfl, _⟩ := okWide_struct hs hv
  obtain ⟨fuel, hf⟩ := h
  obtain ⟨hl, hg⟩ := open_at hs hts hC hf
  obtain ⟨c0, c1, c2, c3, c4, c5, c6, hcs⟩ := seven_list hl
  rw [hcs] at hg
  obtain ⟨n0, y0, t0⟩ := hg 0 _ _ _ rfl
  obtain ⟨n1, y1, t1⟩ := hg 1 _ _ _ rfl
  obtain ⟨n2, y2, t2⟩ := hg 2 _ _ _ rfl
  obtain ⟨n3, y3, t3⟩ := hg 3 _ _ _ rfl
  obtain ⟨n4, y4, t4⟩ := hg 4 _ _ _ rfl
  simp only [List.drop_zero, List.drop_succ_cons, List.take_succ_cons, List.take_zero] at t0 t1 t2 t3 t4
  obtain ⟨k0, rfl, _⟩ := open_i64 under_i64 t0
  obtain ⟨k1, k2, k3, e1⟩ := lay_cells t1
  obtain ⟨k4, rfl, _⟩ := open_i64 under_i64 t2
  obtain ⟨k5, rfl, _⟩ := open_i64 under_i64 t3
  obtain ⟨A, n, c, xs, rfl, hls, hq⟩ := open_lst_cells (α := Mk) (size := 4) (R := mkR) (Q := fun x => x.nm.size ≤ maxLen) (e := TMk) under_mks (by kernel_rfl) mk_rep (fun fuel cs x hx => mark_cells hx) t4
  simp only [List.cons.injEq, and_true] at e1
  obtain ⟨rfl, rfl, rfl⟩ := e1
  refine ⟨⟨k0, k1, k2, k3, k4, k5, xs⟩, A, n, c, ?_, hls, hq⟩
  have : cs.toList = [.int .i64 k0, .int .i64 k1, .int .i64 k2, .int .i64 k3, .int .i64 k4, .int .i64 k5, .slice A n c] := by simpa [Value.cells] using hcs
  show Value.agg cs = Value.agg _
  rw [← Array.toArray_toList (xs := cs), this]
end
end Go.Proofs.Ytoeknbogaclfdaa
