/-
  Records out of bytes: contract of the program's parse.
-/
import Derived.Test.YtoeknbogaclfdaaZFromTagParseToMkGet
namespace Go.Proofs.Ytoeknbogaclfdaa
open Go.RowKit
set_option linter.unusedVariables false
set_option linter.unusedSimpArgs false
set_option linter.unnecessarySimpa false
set_option maxRecDepth 100000

theorem blk_cell {w : World} {g : Nat} {C : Array Value} {e : TypeId} (h : w.heap[g]? = some (.cells C e (0, 0))) (j : Nat) {u : Value} (hu : C[j]? = some u := by rfl) : w.cell? ⟨g, j, none⟩ = some u := (cell_of_row w g j C e (0, 0) h).trans hu
theorem blk_frozen {w : World} {g : Nat} {C : Array Value} {e : TypeId} (h : w.heap[g]? = some (.cells C e (0, 0))) (j : Nat) : w.frozen? ⟨g, j, none⟩ = false := by simp [World.frozen?, h]
theorem blk_set {w : World} {g : Nat} {C : Array Value} {e : TypeId} (h : w.heap[g]? = some (.cells C e (0, 0))) (j : Nat) (u : Value) : (w.setCell ⟨g, j, none⟩ u).heap[g]? = some (.cells (C.setIfInBounds j u) e (0, 0)) := by simp [World.setCell, Array.getElem?_modify, h]
theorem blk_far {w : World} {g : Nat} {o : Obj} (h : w.heap[g]? = some o) {p : Addr} (hp : p.block ≠ g) (u : Value) : (w.setCell p u).heap[g]? = some o := (Below.heap_setCell _ _ _ _ (fun e => hp e.symm)).trans h
theorem blk_ext {w w' : World} {g : Nat} {o : Obj} (h : w.heap[g]? = some o) (hx : Ext w w') : w'.heap[g]? = some o := (Below.block hx g (Array.getElem?_eq_some_iff.1 h).1).trans h
theorem OwnL.farM {w : World} {B : Nat} {A : Option Addr} {n c : Nat} {xs : List Mk} (h : OwnL TMk 4 mkR w B A n c xs) {p : Addr} (hp : ∀ g, rowOf A c = some g → g ≠ p.block) (u : Value) : OwnL TMk 4 mkR (w.setCell p u) B A n c xs := by
  obtain ⟨css, h1, h2, h3⟩ := h.own
  exact ⟨h.len, css, h1.mono (fun x cs _ hr => hr), h2.far hp u, h3⟩
theorem wpList_append_flatB {P : Program} {α : Type} {size : Nat} {R : α → List Value → World → Prop} (hR : Rep size R) (hnp : ∀ (x : α) (cs : List Value) (w : World), R x cs w → ∀ k, ¬ Pts cs k)
    {ops : Array Oper} {rest : List Oper} {o : Oper} {a : Act} {Q : Exit → Act → World → Prop} {w : World} (hgd : o.guard = none) (s y : Operand) (t tx : TypeId)
    (ho : o.op = .call { callee := .builtin .append, args := #[s, y], argTypes := #[t, tx] }) (B : Nat) (hB : B ≤ w.heap.size)
    (e e' : TypeId) (i : TypeInfo) (z : Value) (bytes : Nat) (ht : P.underlying t = some (.slice e)) (htx : P.underlying tx = some (.slice e')) (hi : P.info? e = some i) (hz : i.zero = some z)
    (hsize : i.size = size) (hby : i.bytes = bytes) (hzs : z.cells.size = size)
    (A : Option Addr) (n c : Nat) (xs : List α) (hsv : a.eval s = .slice A n c) (hown : OwnL e size R w B A n c xs) (A2 : Option Addr) (m c2 : Nat) (ys : List α) (hy : a.eval y = .slice A2 m c2) (hl : Lst size R w A2 m c2 ys)
    (N : Nat) (hN : n + m = N) (zs : List α) (hzs' : xs ++ ys = zs) (h63 : N ≤ maxLen) (hbytes : N * bytes ≤ 140737488355328)
    (h : ∀ A' c' w', OwnL e size R w' B A' N c' zs → (∀ g o, g < B → w.heap[g]? = some o → w'.heap[g]? = some o) → (∀ w0, Ext w0 w → w0.heap.size ≤ B → Ext w0 w') → B ≤ w'.heap.size → wpList P ops Q rest (a.put o.dst (.slice A' N c')) w') : wpList P ops Q (o :: rest) a w := by
  subst hN hzs'
  obtain ⟨css, ha, ho1, hp⟩ := hown.own
  obtain ⟨dss, hb, hsrc⟩ := hl.src (P := P) hR htx
  refine wpList_append_mine _ hgd s y t tx ho B e i z size bytes ht hi hz hsize hby hzs A n c _ hsv ho1 _ hy m _ hsrc h63 hbytes hB ?_
  intro A3 c3 w3 hown3 hg3 hr3
  have hrow : ∀ k, rowOf A c = some k → B ≤ k := fun k hk => (ho1.row_ge k hk).1
  refine h A3 c3 w3 ?_ (fun g ob hg hgb => ?_) (fun w0 hx h0 => below_grown hx (ho1.low h0) hg3 hx.size) (Nat.le_trans hB hg3.size)
  · refine OwnL.more hR hown.len hl.len ha hp hb (fun cs hcs k hk => ?_) hown3 hg3 hr3
    obtain ⟨x, hr⟩ := hb.mem cs hcs
    exact absurd hk (hnp _ _ _ hr k)
  · refine (hg3.block g (Array.getElem?_eq_some_iff.1 hgb).1 (fun e => ?_)).trans hgb
    have := hrow g e.symm
    omega

theorem nums6_yes {b : List UInt8} {a : Int} (h0 : gvC b (atN b a 0) = true) (h1 : gvC b (atN b a 1) = true) (h2 : gvC b (atN b a 2) = true) (h3 : gvC b (atN b a 3) = true) (h4 : gvC b (atN b a 4) = true) (h5 : gvC b (atN b a 5) = true) :
    numsF 6 b a = some ([gvA b (atN b a 0), gvA b (atN b a 1), gvA b (atN b a 2), gvA b (atN b a 3), gvA b (atN b a 4), gvA b (atN b a 5)], atN b a 6) := by
  simp only [atN] at h0 h1 h2 h3 h4 h5
  simp only [numsF, h0, h1, h2, h3, h4, h5, if_true, Option.map_some, atN]
theorem nums6_no {b : List UInt8} {a : Int} {j : Nat} (hj : j < 6) (h : gvC b (atN b a j) = false) : numsF 6 b a = none := by
  have hj4 : j = 0 ∨ j = 1 ∨ j = 2 ∨ j = 3 ∨ j = 4 ∨ j = 5 := by omega
  rcases hj4 with rfl | rfl | rfl | rfl | rfl | rfl <;> simp only [atN] at h <;> simp [numsF, h]
theorem parseH_none {rf : Bool} {b : List UInt8} (h : numsF 6 b 0 = none) : parseH rf b = none := by unfold parseH; rw [h]; rfl
theorem mks_stop {rf : Bool} {N k : Nat} {b : List UInt8} {a : Int} {out : List Mk} {o : Option (List Mk × Int)} (h : (mksG rf (N - k) b a).map (fun q => (out ++ q.1, q.2)) = o) (hk : k < N) (hp : mkG rf b a = none) : o = none := by
  obtain ⟨f, hf⟩ : ∃ f, N - k = f + 1 := ⟨N - k - 1, by omega⟩
  rw [hf, mksG, hp] at h
  exact h.symm
theorem mks_next {rf : Bool} {N k : Nat} {b : List UInt8} {a d : Int} {x : Mk} {out : List Mk} {o : Option (List Mk × Int)} (h : (mksG rf (N - k) b a).map (fun q => (out ++ q.1, q.2)) = o) (hk : k < N) (hp : mkG rf b a = some (x, d)) :
    (mksG rf (N - (k + 1)) b d).map (fun q => ((out ++ [x]) ++ q.1, q.2)) = o := by
  obtain ⟨f, hf⟩ : ∃ f, N - k = f + 1 := ⟨N - k - 1, by omega⟩
  rw [hf, mksG, hp, Option.bind_some] at h
  rw [show N - (k + 1) = f by omega, ← h, Option.map_map]
  congr 1
  funext l
  simp
theorem set4 {w : World} {g : Nat} {u0 u1 u2 u3 : Value} (h0 : w.cell? ⟨g, 0, none⟩ = some u0) (h1 : w.cell? ⟨g, 1, none⟩ = some u1) (h2 : w.cell? ⟨g, 2, none⟩ = some u2) (h3 : w.cell? ⟨g, 3, none⟩ = some u3) (v0 v1 v2 v3 : Value) :
    ∃ W, W = (((w.setCell ⟨g, 0, none⟩ v0).setCell ⟨g, 1, none⟩ v1).setCell ⟨g, 2, none⟩ v2).setCell ⟨g, 3, none⟩ v3 ∧
      W.cell? ⟨g, 0, none⟩ = some v0 ∧ W.cell? ⟨g, 1, none⟩ = some v1 ∧ W.cell? ⟨g, 2, none⟩ = some v2 ∧ W.cell? ⟨g, 3, none⟩ = some v3 := by
  have co : ∀ (u : World) (i j : Nat) (v : Value), i ≠ j → (u.setCell ⟨g, i, none⟩ v).cell? ⟨g, j, none⟩ = u.cell? ⟨g, j, none⟩ := fun u i j v hij => World.cell?_setCell_other _ _ _ _ (fun e => hij (by injection e))
  refine ⟨_, rfl, ?_, ?_, ?_, ?_⟩
  · rw [co _ _ _ _ (by omega), co _ _ _ _ (by omega), co _ _ _ _ (by omega)]
    exact World.cell?_setCell_same _ _ _ h0
  · rw [co _ _ _ _ (by omega), co _ _ _ _ (by omega)]
    exact World.cell?_setCell_same _ _ _ (by rw [co _ _ _ _ (by omega)]; exact h1)
  · rw [co _ _ _ _ (by omega)]
    exact World.cell?_setCell_same _ _ _ (by rw [co _ _ _ _ (by omega), co _ _ _ _ (by omega)]; exact h2)
  · exact World.cell?_setCell_same _ _ _ (by rw [co _ _ _ _ (by omega), co _ _ _ _ (by omega), co _ _ _ _ (by omega)]; exact h3)
theorem gvA_pos (b : List UInt8) (a : Int) : 0 ≤ gvA b a := by unfold gvA; split <;> omega
def hd0 : Hd := ⟨0, 0, 0, 0, 0, 0, []⟩
abbrev zeroH : Array Value := #[.int .i64 0, .int .i64 0, .int .i64 0, .int .i64 0, .int .i64 0, .int .i64 0, .slice none 0 0]
set_option maxHeartbeats 4000000 in
theorem header_parse {A : Option Addr} {n c : Nat} {b : List UInt8} {w : World} (hb : Sl w A n c b) (hn6 : n ≤ 1000000) {o : Option Hd} (ho : Hid (parseH false b = o)) :
    Calls Try.prog 60 #[.slice A n c] w fun e w' => ∃ A' n' c', e = .returned (.tuple #[hdV (o.getD hd0) A' n' c', .bool o.isSome]) ∧ OwnL TMk 4 mkR w' w.heap.size A' n' c' (o.getD hd0).marks ∧ Ext w w' := by
  have h63 := hb.n63
  obtain ⟨i0, hi0, hz0, hz1, hz2⟩ := info_parts info_mk
  go_enter Try.func60, Try.ntmps60
  go_wp2_with fail
  go_loopw [6, 21] (fun av jv wr => ∃ (j : Nat) (d y0 y1 y2 y3 y4 y5 y6 : Int), j ≤ 7 ∧ av = .int .i64 d ∧ jv = .int .i64 j ∧ wr = ((w.alloc (.cells #[.int .i64 0, .int .i64 0, .int .i64 0, .int .i64 0, .int .i64 0, .int .i64 0, .slice none 0 0] 43)).alloc (.cells #[.int .i64 y0, .int .i64 y1, .int .i64 y2, .int .i64 y3, .int .i64 y4, .int .i64 y5, .slice none 0 0] 43)).alloc (.cells #[.int .i64 y6] INT) ∧ Hid (atN b 0 j = d) ∧ Hid ((0 < j → y0 = gvA b (atN b 0 0) ∧ gvC b (atN b 0 0) = true) ∧ (1 < j → y1 = gvA b (atN b 0 1) ∧ gvC b (atN b 0 1) = true) ∧ (2 < j → y2 = gvA b (atN b 0 2) ∧ gvC b (atN b 0 2) = true) ∧ (3 < j → y3 = gvA b (atN b 0 3) ∧ gvC b (atN b 0 3) = true) ∧ (4 < j → y4 = gvA b (atN b 0 4) ∧ gvC b (atN b 0 4) = true) ∧ (5 < j → y5 = gvA b (atN b 0 5) ∧ gvC b (atN b 0 5) = true) ∧ (6 < j → y6 = gvA b (atN b 0 6) ∧ gvC b (atN b 0 6) = true))) (fun _ j _ => 7 - (intOf j).toNat)
  case atStart => exact ⟨0, 0, 0, 0, 0, 0, 0, 0, 0, by omega, rfl, rfl, rfl, rfl, by simp [Hid]⟩
  case round =>
    obtain ⟨j, d, y0, y1, y2, y3, y4, y5, y6, hj, rfl, rfl, rfl, hd, hy⟩ := hrel
    have hj8 : j = 0 ∨ j = 1 ∨ j = 2 ∨ j = 3 ∨ j = 4 ∨ j = 5 ∨ j = 6 ∨ 7 ≤ j := by omega
    rcases hj8 with rfl | rfl | rfl | rfl | rfl | rfl | rfl | hj7
    · have ix : ∀ u, (Instr.index 122 (.agg #[.pointer (some ⟨w.heap.size + 1, 0, none⟩), .pointer (some ⟨w.heap.size + 1, 1, none⟩), .pointer (some ⟨w.heap.size + 1, 2, none⟩), .pointer (some ⟨w.heap.size + 1, 3, none⟩), .pointer (some ⟨w.heap.size + 1, 4, none⟩), .pointer (some ⟨w.heap.size + 1, 5, none⟩), .pointer (some ⟨w.heap.size + 2, 0, none⟩)]) (.int .i64 0)).run Try.prog u = .ok (.pointer (some ⟨w.heap.size + 1, 0, none⟩)) u := fun _ => by kernel_rfl
      obtain ⟨X, hX⟩ : ∃ q, gvA b d = q := ⟨_, rfl⟩
      obtain ⟨Y, hY⟩ : ∃ q, gvB b d = q := ⟨_, rfl⟩
      obtain ⟨Z, hZ⟩ : ∃ q, gvC b d = q := ⟨_, rfl⟩
      have HV := Lib.hid (And.intro hX (And.intro hY hZ))
      clear hX hY hZ
      cases Z with
      | false =>
        have hf : gvC b (atN b 0 0) = false := by rw [hd.out]; exact HV.out.2.2
        have hon : none = o := by
          rw [← ho.out]
          first
            | exact (parseH_none (nums6_no (j := 0) (by omega) hf)).symm
            | (have hyx := hy.out
               unfold parseH
               rw [nums6_yes (hyx.1 (by omega)).2 (hyx.2.1 (by omega)).2 (hyx.2.2.1 (by omega)).2 (hyx.2.2.2.1 (by omega)).2 (hyx.2.2.2.2.1 (by omega)).2 (hyx.2.2.2.2.2.1 (by omega)).2, Option.bind_some]
               unfold mksO
               simp only
               rw [if_neg (by rw [hf]; simp)]
               rfl)
        subst hon
        clear hd hy ho hf
        go_wp2_with fail
        refine (bits_GetVar_h (hb.ext (((Ext.alloc _ _).allocs _).allocs _)) HV).mono ?_
        rintro e _ ⟨rfl, rfl⟩
        go_wp2_with fail
        refine bodyPost_ret (v := .tuple #[hdV hd0 none 0 0, .bool false]) ?hres rfl ⟨_, _, _, rfl, OwnL.nil _ _ _ _, ?hxx⟩
        case hres => simp [results, Try.results60, go_sem, hd0]
        case hxx => (repeat (first | (with_reducible exact Ext.refl _) | (with_reducible assumption) | (with_reducible refine Ext.draws ?_) | (with_reducible refine Ext.allocs ?_ _) | (with_reducible refine Ext.sets ?_ ?_ _) | (with_reducible exact Nat.le_refl _) | (exact (by simp)) | (exact (by simp; omega))))
      | true =>
        have HD : Hid (atN b 0 1 = Y) := by
          unfold Hid
          rw [← HV.out.2.1, ← hd.out]
          rfl
        have hdx := hd.out
        have h1x := HV.out
        have HY2 : X = gvA b (atN b 0 0) ∧ gvC b (atN b 0 0) = true := by
          rw [hdx, h1x.1]
          exact ⟨rfl, h1x.2.2⟩
        have HY3 : Hid ((0 < 1 → X = gvA b (atN b 0 0) ∧ gvC b (atN b 0 0) = true) ∧ (1 < 1 → y1 = gvA b (atN b 0 1) ∧ gvC b (atN b 0 1) = true) ∧ (2 < 1 → y2 = gvA b (atN b 0 2) ∧ gvC b (atN b 0 2) = true) ∧ (3 < 1 → y3 = gvA b (atN b 0 3) ∧ gvC b (atN b 0 3) = true) ∧ (4 < 1 → y4 = gvA b (atN b 0 4) ∧ gvC b (atN b 0 4) = true) ∧ (5 < 1 → y5 = gvA b (atN b 0 5) ∧ gvC b (atN b 0 5) = true) ∧ (6 < 1 → y6 = gvA b (atN b 0 6) ∧ gvC b (atN b 0 6) = true)) := by
          have hyx := hy.out
          unfold Hid
          refine ⟨fun h => ?_, fun h => ?_, fun h => ?_, fun h => ?_, fun h => ?_, fun h => ?_, fun h => ?_⟩ <;> first | exact HY2 | exact hyx.1 (by omega) | exact hyx.2.1 (by omega) | exact hyx.2.2.1 (by omega) | exact hyx.2.2.2.1 (by omega) | exact hyx.2.2.2.2.1 (by omega) | exact hyx.2.2.2.2.2.1 (by omega) | exact hyx.2.2.2.2.2.2 (by omega) | (exfalso; omega)
        clear hdx h1x HY2 hy
        go_wp2_with fail
        refine (bits_GetVar_h (hb.ext (((Ext.alloc _ _).allocs _).allocs _)) HV).mono ?_
        rintro e _ ⟨rfl, rfl⟩
        go_wp2_with fail
        go_roundw
        case rel => exact ⟨1, Y, X, y1, y2, y3, y4, y5, y6, by omega, rfl, rfl, rfl, HD, HY3⟩
        case measure => simp [intOf]
    · have ix : ∀ u, (Instr.index 122 (.agg #[.pointer (some ⟨w.heap.size + 1, 0, none⟩), .pointer (some ⟨w.heap.size + 1, 1, none⟩), .pointer (some ⟨w.heap.size + 1, 2, none⟩), .pointer (some ⟨w.heap.size + 1, 3, none⟩), .pointer (some ⟨w.heap.size + 1, 4, none⟩), .pointer (some ⟨w.heap.size + 1, 5, none⟩), .pointer (some ⟨w.heap.size + 2, 0, none⟩)]) (.int .i64 1)).run Try.prog u = .ok (.pointer (some ⟨w.heap.size + 1, 1, none⟩)) u := fun _ => by kernel_rfl
      obtain ⟨X, hX⟩ : ∃ q, gvA b d = q := ⟨_, rfl⟩
      obtain ⟨Y, hY⟩ : ∃ q, gvB b d = q := ⟨_, rfl⟩
      obtain ⟨Z, hZ⟩ : ∃ q, gvC b d = q := ⟨_, rfl⟩
      have HV := Lib.hid (And.intro hX (And.intro hY hZ))
      clear hX hY hZ
      cases Z with
      | false =>
        have hf : gvC b (atN b 0 1) = false := by rw [hd.out]; exact HV.out.2.2
        have hon : none = o := by
          rw [← ho.out]
          first
            | exact (parseH_none (nums6_no (j := 1) (by omega) hf)).symm
            | (have hyx := hy.out
               unfold parseH
               rw [nums6_yes (hyx.1 (by omega)).2 (hyx.2.1 (by omega)).2 (hyx.2.2.1 (by omega)).2 (hyx.2.2.2.1 (by omega)).2 (hyx.2.2.2.2.1 (by omega)).2 (hyx.2.2.2.2.2.1 (by omega)).2, Option.bind_some]
               unfold mksO
               simp only
               rw [if_neg (by rw [hf]; simp)]
               rfl)
        subst hon
        clear hd hy ho hf
        go_wp2_with fail
        refine (bits_GetVar_h (hb.ext (((Ext.alloc _ _).allocs _).allocs _)) HV).mono ?_
        rintro e _ ⟨rfl, rfl⟩
        go_wp2_with fail
        refine bodyPost_ret (v := .tuple #[hdV hd0 none 0 0, .bool false]) ?hres rfl ⟨_, _, _, rfl, OwnL.nil _ _ _ _, ?hxx⟩
        case hres => simp [results, Try.results60, go_sem, hd0]
        case hxx => (repeat (first | (with_reducible exact Ext.refl _) | (with_reducible assumption) | (with_reducible refine Ext.draws ?_) | (with_reducible refine Ext.allocs ?_ _) | (with_reducible refine Ext.sets ?_ ?_ _) | (with_reducible exact Nat.le_refl _) | (exact (by simp)) | (exact (by simp; omega))))
      | true =>
        have HD : Hid (atN b 0 2 = Y) := by
          unfold Hid
          rw [← HV.out.2.1, ← hd.out]
          rfl
        have hdx := hd.out
        have h1x := HV.out
        have HY2 : X = gvA b (atN b 0 1) ∧ gvC b (atN b 0 1) = true := by
          rw [hdx, h1x.1]
          exact ⟨rfl, h1x.2.2⟩
        have HY3 : Hid ((0 < 2 → y0 = gvA b (atN b 0 0) ∧ gvC b (atN b 0 0) = true) ∧ (1 < 2 → X = gvA b (atN b 0 1) ∧ gvC b (atN b 0 1) = true) ∧ (2 < 2 → y2 = gvA b (atN b 0 2) ∧ gvC b (atN b 0 2) = true) ∧ (3 < 2 → y3 = gvA b (atN b 0 3) ∧ gvC b (atN b 0 3) = true) ∧ (4 < 2 → y4 = gvA b (atN b 0 4) ∧ gvC b (atN b 0 4) = true) ∧ (5 < 2 → y5 = gvA b (atN b 0 5) ∧ gvC b (atN b 0 5) = true) ∧ (6 < 2 → y6 = gvA b (atN b 0 6) ∧ gvC b (atN b 0 6) = true)) := by
          have hyx := hy.out
          unfold Hid
          refine ⟨fun h => ?_, fun h => ?_, fun h => ?_, fun h => ?_, fun h => ?_, fun h => ?_, fun h => ?_⟩ <;> first | exact HY2 | exact hyx.1 (by omega) | exact hyx.2.1 (by omega) | exact hyx.2.2.1 (by omega) | exact hyx.2.2.2.1 (by omega) | exact hyx.2.2.2.2.1 (by omega) | exact hyx.2.2.2.2.2.1 (by omega) | exact hyx.2.2.2.2.2.2 (by omega) | (exfalso; omega)
        clear hdx h1x HY2 hy
        go_wp2_with fail
        refine (bits_GetVar_h (hb.ext (((Ext.alloc _ _).allocs _).allocs _)) HV).mono ?_
        rintro e _ ⟨rfl, rfl⟩
        go_wp2_with fail
        go_roundw
        case rel => exact ⟨2, Y, y0, X, y2, y3, y4, y5, y6, by omega, rfl, rfl, rfl, HD, HY3⟩
        case measure => simp [intOf]
    · have ix : ∀ u, (Instr.index 122 (.agg #[.pointer (some ⟨w.heap.size + 1, 0, none⟩), .pointer (some ⟨w.heap.size + 1, 1, none⟩), .pointer (some ⟨w.heap.size + 1, 2, none⟩), .pointer (some ⟨w.heap.size + 1, 3, none⟩), .pointer (some ⟨w.heap.size + 1, 4, none⟩), .pointer (some ⟨w.heap.size + 1, 5, none⟩), .pointer (some ⟨w.heap.size + 2, 0, none⟩)]) (.int .i64 2)).run Try.prog u = .ok (.pointer (some ⟨w.heap.size + 1, 2, none⟩)) u := fun _ => by kernel_rfl
      obtain ⟨X, hX⟩ : ∃ q, gvA b d = q := ⟨_, rfl⟩
      obtain ⟨Y, hY⟩ : ∃ q, gvB b d = q := ⟨_, rfl⟩
      obtain ⟨Z, hZ⟩ : ∃ q, gvC b d = q := ⟨_, rfl⟩
      have HV := Lib.hid (And.intro hX (And.intro hY hZ))
      clear hX hY hZ
      cases Z with
      | false =>
        have hf : gvC b (atN b 0 2) = false := by rw [hd.out]; exact HV.out.2.2
        have hon : none = o := by
          rw [← ho.out]
          first
            | exact (parseH_none (nums6_no (j := 2) (by omega) hf)).symm
            | (have hyx := hy.out
               unfold parseH
               rw [nums6_yes (hyx.1 (by omega)).2 (hyx.2.1 (by omega)).2 (hyx.2.2.1 (by omega)).2 (hyx.2.2.2.1 (by omega)).2 (hyx.2.2.2.2.1 (by omega)).2 (hyx.2.2.2.2.2.1 (by omega)).2, Option.bind_some]
               unfold mksO
               simp only
               rw [if_neg (by rw [hf]; simp)]
               rfl)
        subst hon
        clear hd hy ho hf
        go_wp2_with fail
        refine (bits_GetVar_h (hb.ext (((Ext.alloc _ _).allocs _).allocs _)) HV).mono ?_
        rintro e _ ⟨rfl, rfl⟩
        go_wp2_with fail
        refine bodyPost_ret (v := .tuple #[hdV hd0 none 0 0, .bool false]) ?hres rfl ⟨_, _, _, rfl, OwnL.nil _ _ _ _, ?hxx⟩
        case hres => simp [results, Try.results60, go_sem, hd0]
        case hxx => (repeat (first | (with_reducible exact Ext.refl _) | (with_reducible assumption) | (with_reducible refine Ext.draws ?_) | (with_reducible refine Ext.allocs ?_ _) | (with_reducible refine Ext.sets ?_ ?_ _) | (with_reducible exact Nat.le_refl _) | (exact (by simp)) | (exact (by simp; omega))))
      | true =>
        have HD : Hid (atN b 0 3 = Y) := by
          unfold Hid
          rw [← HV.out.2.1, ← hd.out]
          rfl
        have hdx := hd.out
        have h1x := HV.out
        have HY2 : X = gvA b (atN b 0 2) ∧ gvC b (atN b 0 2) = true := by
          rw [hdx, h1x.1]
          exact ⟨rfl, h1x.2.2⟩
        have HY3 : Hid ((0 < 3 → y0 = gvA b (atN b 0 0) ∧ gvC b (atN b 0 0) = true) ∧ (1 < 3 → y1 = gvA b (atN b 0 1) ∧ gvC b (atN b 0 1) = true) ∧ (2 < 3 → X = gvA b (atN b 0 2) ∧ gvC b (atN b 0 2) = true) ∧ (3 < 3 → y3 = gvA b (atN b 0 3) ∧ gvC b (atN b 0 3) = true) ∧ (4 < 3 → y4 = gvA b (atN b 0 4) ∧ gvC b (atN b 0 4) = true) ∧ (5 < 3 → y5 = gvA b (atN b 0 5) ∧ gvC b (atN b 0 5) = true) ∧ (6 < 3 → y6 = gvA b (atN b 0 6) ∧ gvC b (atN b 0 6) = true)) := by
          have hyx := hy.out
          unfold Hid
          refine ⟨fun h => ?_, fun h => ?_, fun h => ?_, fun h => ?_, fun h => ?_, fun h => ?_, fun h => ?_⟩ <;> first | exact HY2 | exact hyx.1 (by omega) | exact hyx.2.1 (by omega) | exact hyx.2.2.1 (by omega) | exact hyx.2.2.2.1 (by omega) | exact hyx.2.2.2.2.1 (by omega) | exact hyx.2.2.2.2.2.1 (by omega) | exact hyx.2.2.2.2.2.2 (by omega) | (exfalso; omega)
        clear hdx h1x HY2 hy
        go_wp2_with fail
        refine (bits_GetVar_h (hb.ext (((Ext.alloc _ _).allocs _).allocs _)) HV).mono ?_
        rintro e _ ⟨rfl, rfl⟩
        go_wp2_with fail
        go_roundw
        case rel => exact ⟨3, Y, y0, y1, X, y3, y4, y5, y6, by omega, rfl, rfl, rfl, HD, HY3⟩
        case measure => simp [intOf]
    · have ix : ∀ u, (Instr.index 122 (.agg #[.pointer (some ⟨w.heap.size + 1, 0, none⟩), .pointer (some ⟨w.heap.size + 1, 1, none⟩), .pointer (some ⟨w.heap.size + 1, 2, none⟩), .pointer (some ⟨w.heap.size + 1, 3, none⟩), .pointer (some ⟨w.heap.size + 1, 4, none⟩), .pointer (some ⟨w.heap.size + 1, 5, none⟩), .pointer (some ⟨w.heap.size + 2, 0, none⟩)]) (.int .i64 3)).run Try.prog u = .ok (.pointer (some ⟨w.heap.size + 1, 3, none⟩)) u := fun _ => by kernel_rfl
      obtain ⟨X, hX⟩ : ∃ q, gvA b d = q := ⟨_, rfl⟩
      obtain ⟨Y, hY⟩ : ∃ q, gvB b d = q := ⟨_, rfl⟩
      obtain ⟨Z, hZ⟩ : ∃ q, gvC b d = q := ⟨_, rfl⟩
      have HV := Lib.hid (And.intro hX (And.intro hY hZ))
      clear hX hY hZ
      cases Z with
      | false =>
        have hf : gvC b (atN b 0 3) = false := by rw [hd.out]; exact HV.out.2.2
        have hon : none = o := by
          rw [← ho.out]
          first
            | exact (parseH_none (nums6_no (j := 3) (by omega) hf)).symm
            | (have hyx := hy.out
               unfold parseH
               rw [nums6_yes (hyx.1 (by omega)).2 (hyx.2.1 (by omega)).2 (hyx.2.2.1 (by omega)).2 (hyx.2.2.2.1 (by omega)).2 (hyx.2.2.2.2.1 (by omega)).2 (hyx.2.2.2.2.2.1 (by omega)).2, Option.bind_some]
               unfold mksO
               simp only
               rw [if_neg (by rw [hf]; simp)]
               rfl)
        subst hon
        clear hd hy ho hf
        go_wp2_with fail
        refine (bits_GetVar_h (hb.ext (((Ext.alloc _ _).allocs _).allocs _)) HV).mono ?_
        rintro e _ ⟨rfl, rfl⟩
        go_wp2_with fail
        refine bodyPost_ret (v := .tuple #[hdV hd0 none 0 0, .bool false]) ?hres rfl ⟨_, _, _, rfl, OwnL.nil _ _ _ _, ?hxx⟩
        case hres => simp [results, Try.results60, go_sem, hd0]
        case hxx => (repeat (first | (with_reducible exact Ext.refl _) | (with_reducible assumption) | (with_reducible refine Ext.draws ?_) | (with_reducible refine Ext.allocs ?_ _) | (with_reducible refine Ext.sets ?_ ?_ _) | (with_reducible exact Nat.le_refl _) | (exact (by simp)) | (exact (by simp; omega))))
      | true =>
        have HD : Hid (atN b 0 4 = Y) := by
          unfold Hid
          rw [← HV.out.2.1, ← hd.out]
          rfl
        have hdx := hd.out
        have h1x := HV.out
        have HY2 : X = gvA b (atN b 0 3) ∧ gvC b (atN b 0 3) = true := by
          rw [hdx, h1x.1]
          exact ⟨rfl, h1x.2.2⟩
        have HY3 : Hid ((0 < 4 → y0 = gvA b (atN b 0 0) ∧ gvC b (atN b 0 0) = true) ∧ (1 < 4 → y1 = gvA b (atN b 0 1) ∧ gvC b (atN b 0 1) = true) ∧ (2 < 4 → y2 = gvA b (atN b 0 2) ∧ gvC b (atN b 0 2) = true) ∧ (3 < 4 → X = gvA b (atN b 0 3) ∧ gvC b (atN b 0 3) = true) ∧ (4 < 4 → y4 = gvA b (atN b 0 4) ∧ gvC b (atN b 0 4) = true) ∧ (5 < 4 → y5 = gvA b (atN b 0 5) ∧ gvC b (atN b 0 5) = true) ∧ (6 < 4 → y6 = gvA b (atN b 0 6) ∧ gvC b (atN b 0 6) = true)) := by
          have hyx := hy.out
          unfold Hid
          refine ⟨fun h => ?_, fun h => ?_, fun h => ?_, fun h => ?_, fun h => ?_, fun h => ?_, fun h => ?_⟩ <;> first | exact HY2 | exact hyx.1 (by omega) | exact hyx.2.1 (by omega) | exact hyx.2.2.1 (by omega) | exact hyx.2.2.2.1 (by omega) | exact hyx.2.2.2.2.1 (by omega) | exact hyx.2.2.2.2.2.1 (by omega) | exact hyx.2.2.2.2.2.2 (by omega) | (exfalso; omega)
        clear hdx h1x HY2 hy
        go_wp2_with fail
        refine (bits_GetVar_h (hb.ext (((Ext.alloc _ _).allocs _).allocs _)) HV).mono ?_
        rintro e _ ⟨rfl, rfl⟩
        go_wp2_with fail
        go_roundw
        case rel => exact ⟨4, Y, y0, y1, y2, X, y4, y5, y6, by omega, rfl, rfl, rfl, HD, HY3⟩
        case measure => simp [intOf]
    · have ix : ∀ u, (Instr.index 122 (.agg #[.pointer (some ⟨w.heap.size + 1, 0, none⟩), .pointer (some ⟨w.heap.size + 1, 1, none⟩), .pointer (some ⟨w.heap.size + 1, 2, none⟩), .pointer (some ⟨w.heap.size + 1, 3, none⟩), .pointer (some ⟨w.heap.size + 1, 4, none⟩), .pointer (some ⟨w.heap.size + 1, 5, none⟩), .pointer (some ⟨w.heap.size + 2, 0, none⟩)]) (.int .i64 4)).run Try.prog u = .ok (.pointer (some ⟨w.heap.size + 1, 4, none⟩)) u := fun _ => by kernel_rfl
      obtain ⟨X, hX⟩ : ∃ q, gvA b d = q := ⟨_, rfl⟩
      obtain ⟨Y, hY⟩ : ∃ q, gvB b d = q := ⟨_, rfl⟩
      obtain ⟨Z, hZ⟩ : ∃ q, gvC b d = q := ⟨_, rfl⟩
      have HV := Lib.hid (And.intro hX (And.intro hY hZ))
      clear hX hY hZ
      cases Z with
      | false =>
        have hf : gvC b (atN b 0 4) = false := by rw [hd.out]; exact HV.out.2.2
        have hon : none = o := by
          rw [← ho.out]
          first
            | exact (parseH_none (nums6_no (j := 4) (by omega) hf)).symm
            | (have hyx := hy.out
               unfold parseH
               rw [nums6_yes (hyx.1 (by omega)).2 (hyx.2.1 (by omega)).2 (hyx.2.2.1 (by omega)).2 (hyx.2.2.2.1 (by omega)).2 (hyx.2.2.2.2.1 (by omega)).2 (hyx.2.2.2.2.2.1 (by omega)).2, Option.bind_some]
               unfold mksO
               simp only
               rw [if_neg (by rw [hf]; simp)]
               rfl)
        subst hon
        clear hd hy ho hf
        go_wp2_with fail
        refine (bits_GetVar_h (hb.ext (((Ext.alloc _ _).allocs _).allocs _)) HV).mono ?_
        rintro e _ ⟨rfl, rfl⟩
        go_wp2_with fail
        refine bodyPost_ret (v := .tuple #[hdV hd0 none 0 0, .bool false]) ?hres rfl ⟨_, _, _, rfl, OwnL.nil _ _ _ _, ?hxx⟩
        case hres => simp [results, Try.results60, go_sem, hd0]
        case hxx => (repeat (first | (with_reducible exact Ext.refl _) | (with_reducible assumption) | (with_reducible refine Ext.draws ?_) | (with_reducible refine Ext.allocs ?_ _) | (with_reducible refine Ext.sets ?_ ?_ _) | (with_reducible exact Nat.le_refl _) | (exact (by simp)) | (exact (by simp; omega))))
      | true =>
        have HD : Hid (atN b 0 5 = Y) := by
          unfold Hid
          rw [← HV.out.2.1, ← hd.out]
          rfl
        have hdx := hd.out
        have h1x := HV.out
        have HY2 : X = gvA b (atN b 0 4) ∧ gvC b (atN b 0 4) = true := by
          rw [hdx, h1x.1]
          exact ⟨rfl, h1x.2.2⟩
        have HY3 : Hid ((0 < 5 → y0 = gvA b (atN b 0 0) ∧ gvC b (atN b 0 0) = true) ∧ (1 < 5 → y1 = gvA b (atN b 0 1) ∧ gvC b (atN b 0 1) = true) ∧ (2 < 5 → y2 = gvA b (atN b 0 2) ∧ gvC b (atN b 0 2) = true) ∧ (3 < 5 → y3 = gvA b (atN b 0 3) ∧ gvC b (atN b 0 3) = true) ∧ (4 < 5 → X = gvA b (atN b 0 4) ∧ gvC b (atN b 0 4) = true) ∧ (5 < 5 → y5 = gvA b (atN b 0 5) ∧ gvC b (atN b 0 5) = true) ∧ (6 < 5 → y6 = gvA b (atN b 0 6) ∧ gvC b (atN b 0 6) = true)) := by
          have hyx := hy.out
          unfold Hid
          refine ⟨fun h => ?_, fun h => ?_, fun h => ?_, fun h => ?_, fun h => ?_, fun h => ?_, fun h => ?_⟩ <;> first | exact HY2 | exact hyx.1 (by omega) | exact hyx.2.1 (by omega) | exact hyx.2.2.1 (by omega) | exact hyx.2.2.2.1 (by omega) | exact hyx.2.2.2.2.1 (by omega) | exact hyx.2.2.2.2.2.1 (by omega) | exact hyx.2.2.2.2.2.2 (by omega) | (exfalso; omega)
        clear hdx h1x HY2 hy
        go_wp2_with fail
        refine (bits_GetVar_h (hb.ext (((Ext.alloc _ _).allocs _).allocs _)) HV).mono ?_
        rintro e _ ⟨rfl, rfl⟩
        go_wp2_with fail
        go_roundw
        case rel => exact ⟨5, Y, y0, y1, y2, y3, X, y5, y6, by omega, rfl, rfl, rfl, HD, HY3⟩
        case measure => simp [intOf]
    · have ix : ∀ u, (Instr.index 122 (.agg #[.pointer (some ⟨w.heap.size + 1, 0, none⟩), .pointer (some ⟨w.heap.size + 1, 1, none⟩), .pointer (some ⟨w.heap.size + 1, 2, none⟩), .pointer (some ⟨w.heap.size + 1, 3, none⟩), .pointer (some ⟨w.heap.size + 1, 4, none⟩), .pointer (some ⟨w.heap.size + 1, 5, none⟩), .pointer (some ⟨w.heap.size + 2, 0, none⟩)]) (.int .i64 5)).run Try.prog u = .ok (.pointer (some ⟨w.heap.size + 1, 5, none⟩)) u := fun _ => by kernel_rfl
      obtain ⟨X, hX⟩ : ∃ q, gvA b d = q := ⟨_, rfl⟩
      obtain ⟨Y, hY⟩ : ∃ q, gvB b d = q := ⟨_, rfl⟩
      obtain ⟨Z, hZ⟩ : ∃ q, gvC b d = q := ⟨_, rfl⟩
      have HV := Lib.hid (And.intro hX (And.intro hY hZ))
      clear hX hY hZ
      cases Z with
      | false =>
        have hf : gvC b (atN b 0 5) = false := by rw [hd.out]; exact HV.out.2.2
        have hon : none = o := by
          rw [← ho.out]
          first
            | exact (parseH_none (nums6_no (j := 5) (by omega) hf)).symm
            | (have hyx := hy.out
               unfold parseH
               rw [nums6_yes (hyx.1 (by omega)).2 (hyx.2.1 (by omega)).2 (hyx.2.2.1 (by omega)).2 (hyx.2.2.2.1 (by omega)).2 (hyx.2.2.2.2.1 (by omega)).2 (hyx.2.2.2.2.2.1 (by omega)).2, Option.bind_some]
               unfold mksO
               simp only
               rw [if_neg (by rw [hf]; simp)]
               rfl)
        subst hon
        clear hd hy ho hf
        go_wp2_with fail
        refine (bits_GetVar_h (hb.ext (((Ext.alloc _ _).allocs _).allocs _)) HV).mono ?_
        rintro e _ ⟨rfl, rfl⟩
        go_wp2_with fail
        refine bodyPost_ret (v := .tuple #[hdV hd0 none 0 0, .bool false]) ?hres rfl ⟨_, _, _, rfl, OwnL.nil _ _ _ _, ?hxx⟩
        case hres => simp [results, Try.results60, go_sem, hd0]
        case hxx => (repeat (first | (with_reducible exact Ext.refl _) | (with_reducible assumption) | (with_reducible refine Ext.draws ?_) | (with_reducible refine Ext.allocs ?_ _) | (with_reducible refine Ext.sets ?_ ?_ _) | (with_reducible exact Nat.le_refl _) | (exact (by simp)) | (exact (by simp; omega))))
      | true =>
        have HD : Hid (atN b 0 6 = Y) := by
          unfold Hid
          rw [← HV.out.2.1, ← hd.out]
          rfl
        have hdx := hd.out
        have h1x := HV.out
        have HY2 : X = gvA b (atN b 0 5) ∧ gvC b (atN b 0 5) = true := by
          rw [hdx, h1x.1]
          exact ⟨rfl, h1x.2.2⟩
        have HY3 : Hid ((0 < 6 → y0 = gvA b (atN b 0 0) ∧ gvC b (atN b 0 0) = true) ∧ (1 < 6 → y1 = gvA b (atN b 0 1) ∧ gvC b (atN b 0 1) = true) ∧ (2 < 6 → y2 = gvA b (atN b 0 2) ∧ gvC b (atN b 0 2) = true) ∧ (3 < 6 → y3 = gvA b (atN b 0 3) ∧ gvC b (atN b 0 3) = true) ∧ (4 < 6 → y4 = gvA b (atN b 0 4) ∧ gvC b (atN b 0 4) = true) ∧ (5 < 6 → X = gvA b (atN b 0 5) ∧ gvC b (atN b 0 5) = true) ∧ (6 < 6 → y6 = gvA b (atN b 0 6) ∧ gvC b (atN b 0 6) = true)) := by
          have hyx := hy.out
          unfold Hid
          refine ⟨fun h => ?_, fun h => ?_, fun h => ?_, fun h => ?_, fun h => ?_, fun h => ?_, fun h => ?_⟩ <;> first | exact HY2 | exact hyx.1 (by omega) | exact hyx.2.1 (by omega) | exact hyx.2.2.1 (by omega) | exact hyx.2.2.2.1 (by omega) | exact hyx.2.2.2.2.1 (by omega) | exact hyx.2.2.2.2.2.1 (by omega) | exact hyx.2.2.2.2.2.2 (by omega) | (exfalso; omega)
        clear hdx h1x HY2 hy
        go_wp2_with fail
        refine (bits_GetVar_h (hb.ext (((Ext.alloc _ _).allocs _).allocs _)) HV).mono ?_
        rintro e _ ⟨rfl, rfl⟩
        go_wp2_with fail
        go_roundw
        case rel => exact ⟨6, Y, y0, y1, y2, y3, y4, X, y6, by omega, rfl, rfl, rfl, HD, HY3⟩
        case measure => simp [intOf]
    · have ix : ∀ u, (Instr.index 122 (.agg #[.pointer (some ⟨w.heap.size + 1, 0, none⟩), .pointer (some ⟨w.heap.size + 1, 1, none⟩), .pointer (some ⟨w.heap.size + 1, 2, none⟩), .pointer (some ⟨w.heap.size + 1, 3, none⟩), .pointer (some ⟨w.heap.size + 1, 4, none⟩), .pointer (some ⟨w.heap.size + 1, 5, none⟩), .pointer (some ⟨w.heap.size + 2, 0, none⟩)]) (.int .i64 6)).run Try.prog u = .ok (.pointer (some ⟨w.heap.size + 2, 0, none⟩)) u := fun _ => by kernel_rfl
      obtain ⟨X, hX⟩ : ∃ q, gvA b d = q := ⟨_, rfl⟩
      obtain ⟨Y, hY⟩ : ∃ q, gvB b d = q := ⟨_, rfl⟩
      obtain ⟨Z, hZ⟩ : ∃ q, gvC b d = q := ⟨_, rfl⟩
      have HV := Lib.hid (And.intro hX (And.intro hY hZ))
      clear hX hY hZ
      cases Z with
      | false =>
        have hf : gvC b (atN b 0 6) = false := by rw [hd.out]; exact HV.out.2.2
        have hon : none = o := by
          rw [← ho.out]
          first
            | exact (parseH_none (nums6_no (j := 6) (by omega) hf)).symm
            | (have hyx := hy.out
               unfold parseH
               rw [nums6_yes (hyx.1 (by omega)).2 (hyx.2.1 (by omega)).2 (hyx.2.2.1 (by omega)).2 (hyx.2.2.2.1 (by omega)).2 (hyx.2.2.2.2.1 (by omega)).2 (hyx.2.2.2.2.2.1 (by omega)).2, Option.bind_some]
               unfold mksO
               simp only
               rw [if_neg (by rw [hf]; simp)]
               rfl)
        subst hon
        clear hd hy ho hf
        go_wp2_with fail
        refine (bits_GetVar_h (hb.ext (((Ext.alloc _ _).allocs _).allocs _)) HV).mono ?_
        rintro e _ ⟨rfl, rfl⟩
        go_wp2_with fail
        refine bodyPost_ret (v := .tuple #[hdV hd0 none 0 0, .bool false]) ?hres rfl ⟨_, _, _, rfl, OwnL.nil _ _ _ _, ?hxx⟩
        case hres => simp [results, Try.results60, go_sem, hd0]
        case hxx => (repeat (first | (with_reducible exact Ext.refl _) | (with_reducible assumption) | (with_reducible refine Ext.draws ?_) | (with_reducible refine Ext.allocs ?_ _) | (with_reducible refine Ext.sets ?_ ?_ _) | (with_reducible exact Nat.le_refl _) | (exact (by simp)) | (exact (by simp; omega))))
      | true =>
        have HD : Hid (atN b 0 7 = Y) := by
          unfold Hid
          rw [← HV.out.2.1, ← hd.out]
          rfl
        have hdx := hd.out
        have h1x := HV.out
        have HY2 : X = gvA b (atN b 0 6) ∧ gvC b (atN b 0 6) = true := by
          rw [hdx, h1x.1]
          exact ⟨rfl, h1x.2.2⟩
        have HY3 : Hid ((0 < 7 → y0 = gvA b (atN b 0 0) ∧ gvC b (atN b 0 0) = true) ∧ (1 < 7 → y1 = gvA b (atN b 0 1) ∧ gvC b (atN b 0 1) = true) ∧ (2 < 7 → y2 = gvA b (atN b 0 2) ∧ gvC b (atN b 0 2) = true) ∧ (3 < 7 → y3 = gvA b (atN b 0 3) ∧ gvC b (atN b 0 3) = true) ∧ (4 < 7 → y4 = gvA b (atN b 0 4) ∧ gvC b (atN b 0 4) = true) ∧ (5 < 7 → y5 = gvA b (atN b 0 5) ∧ gvC b (atN b 0 5) = true) ∧ (6 < 7 → X = gvA b (atN b 0 6) ∧ gvC b (atN b 0 6) = true)) := by
          have hyx := hy.out
          unfold Hid
          refine ⟨fun h => ?_, fun h => ?_, fun h => ?_, fun h => ?_, fun h => ?_, fun h => ?_, fun h => ?_⟩ <;> first | exact HY2 | exact hyx.1 (by omega) | exact hyx.2.1 (by omega) | exact hyx.2.2.1 (by omega) | exact hyx.2.2.2.1 (by omega) | exact hyx.2.2.2.2.1 (by omega) | exact hyx.2.2.2.2.2.1 (by omega) | exact hyx.2.2.2.2.2.2 (by omega) | (exfalso; omega)
        clear hdx h1x HY2 hy
        go_wp2_with fail
        refine (bits_GetVar_h (hb.ext (((Ext.alloc _ _).allocs _).allocs _)) HV).mono ?_
        rintro e _ ⟨rfl, rfl⟩
        go_wp2_with fail
        go_roundw
        case rel => exact ⟨7, Y, y0, y1, y2, y3, y4, y5, X, by omega, rfl, rfl, rfl, HD, HY3⟩
        case measure => simp [intOf]
    · have hyx := hy.out
      have hn := nums6_yes (hyx.1 (by omega)).2 (hyx.2.1 (by omega)).2 (hyx.2.2.1 (by omega)).2 (hyx.2.2.2.1 (by omega)).2 (hyx.2.2.2.2.1 (by omega)).2 (hyx.2.2.2.2.2.1 (by omega)).2
      rw [← (hyx.1 (by omega)).1, ← (hyx.2.1 (by omega)).1, ← (hyx.2.2.1 (by omega)).1, ← (hyx.2.2.2.1 (by omega)).1, ← (hyx.2.2.2.2.1 (by omega)).1, ← (hyx.2.2.2.2.2.1 (by omega)).1] at hn
      have h6 := hyx.2.2.2.2.2.2 (by omega)
      have hb7 : gvB b (atN b 0 6) = d := by rw [← hd.out, show j = 7 by omega]; rfl
      have hy6 : 0 ≤ y6 := by rw [h6.1]; exact gvA_pos _ _
      have ho1 := ho.out
      unfold parseH mksO at ho1
      rw [hn, Option.bind_some] at ho1
      simp only at ho1
      rw [h6.2, ← h6.1, hb7] at ho1
      obtain ⟨N, rfl⟩ := Int.eq_ofNat_of_zero_le hy6
      rw [Int.toNat_natCast] at ho1
      have dj : decide ((j : Int) < 7) = false := by simp; omega
      have djn : decide (j < 7) = false := by simp; omega
      clear hyx hn h6 hb7 hy6 hd hy ho
      by_cases h17 : 17 < N
      · have d17 : decide ((17 : Int) < (N : Int)) = true := by simp; omega
        rw [if_neg (by rintro ⟨_, h⟩; omega)] at ho1
        obtain rfl : none = o := ho1
        go_wp2_with fail
        refine bodyPost_ret (v := .tuple #[hdV hd0 none 0 0, .bool false]) ?hres rfl ⟨_, _, _, rfl, OwnL.nil _ _ _ _, ?hxx⟩
        case hres => simp [results, Try.results60, go_sem, hd0]
        case hxx => (repeat (first | (with_reducible exact Ext.refl _) | (with_reducible assumption) | (with_reducible refine Ext.draws ?_) | (with_reducible refine Ext.allocs ?_ _) | (with_reducible refine Ext.sets ?_ ?_ _) | (with_reducible exact Nat.le_refl _) | (exact (by simp)) | (exact (by simp; omega))))
      · have d17 : decide ((17 : Int) < (N : Int)) = false := by simp; omega
        rw [if_pos ⟨rfl, by omega⟩] at ho1
        obtain ⟨o2, ho2⟩ : ∃ q, mksG false N b d = q := ⟨_, rfl⟩
        rw [ho2] at ho1
        have HO2 : Hid ((mksG false (N - 0) b d).map (fun q => (([] : List Mk) ++ q.1, q.2)) = o2) := by
          unfold Hid
          rw [Nat.sub_zero, ho2]
          cases o2 <;> simp
        have HOO := Lib.hid ho1
        clear ho1 ho2
        obtain ⟨w3, hw3⟩ : ∃ q, q = ((w.alloc (.cells #[.int .i64 0, .int .i64 0, .int .i64 0, .int .i64 0, .int .i64 0, .int .i64 0, .slice none 0 0] THd)).alloc (.cells #[.int .i64 y0, .int .i64 y1, .int .i64 y2, .int .i64 y3, .int .i64 y4, .int .i64 y5, .slice none 0 0] THd)).alloc (.cells #[.int .i64 (N : Int)] INT) := ⟨_, rfl⟩
        have gx3 : Ext w w3 := by rw [hw3]; exact ((Ext.alloc _ _).allocs _).allocs _
        have hsz3 : w.heap.size + 3 ≤ w3.heap.size := by rw [hw3]; simp
        have B2 : Hid (w3.heap[w.heap.size]? = some (.cells zeroH THd (0, 0))) := by
          unfold Hid
          rw [hw3]
          exact blk_ext (blk_ext (heap_alloc_new w _) (Ext.alloc _ _)) (Ext.alloc _ _)
        have B4 : Hid (w3.heap[w.heap.size + 1]? = some (.cells #[.int .i64 y0, .int .i64 y1, .int .i64 y2, .int .i64 y3, .int .i64 y4, .int .i64 y5, .slice none 0 0] THd (0, 0))) := by
          unfold Hid
          rw [hw3]
          have e : (w.alloc (.cells #[.int .i64 0, .int .i64 0, .int .i64 0, .int .i64 0, .int .i64 0, .int .i64 0, .slice none 0 0] THd)).heap.size = w.heap.size + 1 := by simp
          have := heap_alloc_new (w.alloc (.cells #[.int .i64 0, .int .i64 0, .int .i64 0, .int .i64 0, .int .i64 0, .int .i64 0, .slice none 0 0] THd)) (.cells #[.int .i64 y0, .int .i64 y1, .int .i64 y2, .int .i64 y3, .int .i64 y4, .int .i64 y5, .slice none 0 0] THd)
          rw [e] at this
          exact blk_ext this (Ext.alloc _ _)
        go_wp2_with fail
        rw [← hw3]
        clear hw3
        go_loopw [6, 41] (fun av iv wr => ∃ (k : Nat) (d : Int) (Ao : Option Addr) (co : Nat) (out : List Mk), k ≤ N ∧ av = .int .i64 d ∧ iv = .int .i64 k ∧ Hid (wr.heap[w.heap.size]? = some (.cells zeroH THd (0, 0))) ∧ Hid (wr.heap[w.heap.size + 1]? = some (.cells #[.int .i64 y0, .int .i64 y1, .int .i64 y2, .int .i64 y3, .int .i64 y4, .int .i64 y5, .slice Ao k co] THd (0, 0))) ∧ OwnL TMk 4 mkR wr (w.heap.size + 3) Ao k co out ∧ Hid ((mksG false (N - k) b d).map (fun q => (out ++ q.1, q.2)) = o2) ∧ Ext w wr ∧ w.heap.size + 3 ≤ wr.heap.size) (fun _ i _ => N - (intOf i).toNat)
        case atStart => exact ⟨0, d, none, 0, [], by omega, rfl, rfl, B2, B4, OwnL.nil _ _ _ _, HO2, gx3, hsz3⟩
        case round =>
          clear B2 B4 HO2 gx3 hsz3 dj djn
          obtain ⟨k, d', Ao, co, out, hk, rfl, rfl, B2, B4, hown, hrk, gxr, hszr⟩ := hrel
          have hne0 : w.heap.size ≠ wr.heap.size := by omega
          have hne1 : w.heap.size + 1 ≠ wr.heap.size := by omega
          by_cases hlt : k < N
          · obtain ⟨p, hp⟩ : ∃ p, mkG false b d' = p := ⟨_, rfl⟩
            have HP := Lib.hid hp
            go_wp2_with fail
            refine (header_mark ((hb.ext gxr).ext (Ext.alloc _ _)) hn6 HP).mono ?_
            rintro e w2 ⟨m, to, rfl, hmp, hx2⟩
            have z0 : w2.cell? ⟨wr.heap.size, 0, none⟩ = some (.int .i64 0) := hx2.cell (cell_new wr #[.int .i64 0, .string ⟨#[]⟩, .int .i64 0, .bool false] TMk 0)
            have f0 : w2.frozen? ⟨wr.heap.size, 0, none⟩ = false := hx2.frozenH (cell_new wr #[.int .i64 0, .string ⟨#[]⟩, .int .i64 0, .bool false] TMk 0) (frozen_new _ _ _ _)
            have z1 : w2.cell? ⟨wr.heap.size, 1, none⟩ = some (.string ⟨#[]⟩) := hx2.cell (cell_new wr #[.int .i64 0, .string ⟨#[]⟩, .int .i64 0, .bool false] TMk 1)
            have f1 : w2.frozen? ⟨wr.heap.size, 1, none⟩ = false := hx2.frozenH (cell_new wr #[.int .i64 0, .string ⟨#[]⟩, .int .i64 0, .bool false] TMk 1) (frozen_new _ _ _ _)
            have z2 : w2.cell? ⟨wr.heap.size, 2, none⟩ = some (.int .i64 0) := hx2.cell (cell_new wr #[.int .i64 0, .string ⟨#[]⟩, .int .i64 0, .bool false] TMk 2)
            have f2 : w2.frozen? ⟨wr.heap.size, 2, none⟩ = false := hx2.frozenH (cell_new wr #[.int .i64 0, .string ⟨#[]⟩, .int .i64 0, .bool false] TMk 2) (frozen_new _ _ _ _)
            have z3 : w2.cell? ⟨wr.heap.size, 3, none⟩ = some (.bool false) := hx2.cell (cell_new wr #[.int .i64 0, .string ⟨#[]⟩, .int .i64 0, .bool false] TMk 3)
            have f3 : w2.frozen? ⟨wr.heap.size, 3, none⟩ = false := hx2.frozenH (cell_new wr #[.int .i64 0, .string ⟨#[]⟩, .int .i64 0, .bool false] TMk 3) (frozen_new _ _ _ _)
            have gx2 : Ext w w2 := (gxr.allocs _).trans hx2
            have hsz2 : wr.heap.size < w2.heap.size := World.block_lt_of_cell? _ _ z0
            have B22 := blk_ext (blk_ext B2.out (Ext.alloc _ _)) hx2
            have B42 := blk_ext (blk_ext B4.out (Ext.alloc _ _)) hx2
            have hrowlt := hown.row_lt
            have hown2 := (hown.ext mk_rep (Ext.alloc wr (.cells #[.int .i64 0, .string ⟨#[]⟩, .int .i64 0, .bool false] TMk))).ext mk_rep hx2
            obtain ⟨m1, m2, m3, m4⟩ := m
            obtain ⟨W, hW, s0, s1, s2, s3⟩ := set4 z0 z1 z2 z3 (.int .i64 m1) (.string m2) (.int .i64 m3) (.bool m4)
            have B2W : W.heap[w.heap.size]? = some (.cells zeroH THd (0, 0)) := by
              rw [hW]
              exact blk_far (blk_far (blk_far (blk_far B22 (fun e => hne0 e.symm) _) (fun e => hne0 e.symm) _) (fun e => hne0 e.symm) _) (fun e => hne0 e.symm) _
            have B4W : W.heap[w.heap.size + 1]? = some (.cells #[.int .i64 y0, .int .i64 y1, .int .i64 y2, .int .i64 y3, .int .i64 y4, .int .i64 y5, .slice Ao k co] THd (0, 0)) := by
              rw [hW]
              exact blk_far (blk_far (blk_far (blk_far B42 (fun e => hne1 e.symm) _) (fun e => hne1 e.symm) _) (fun e => hne1 e.symm) _) (fun e => hne1 e.symm) _
            have gxW : Ext w W := by
              rw [hW]
              have h0 : w.heap.size ≤ wr.heap.size := by omega
              exact (((gx2.sets h0 _).sets h0 _).sets h0 _).sets h0 _
            have hrn : ∀ g, rowOf Ao co = some g → g ≠ wr.heap.size := fun g hg e => by have := (hrowlt g hg).2; omega
            have hownW : OwnL TMk 4 mkR W (w.heap.size + 3) Ao k co out := by
              rw [hW]
              exact (((hown2.farM hrn _).farM hrn _).farM hrn _).farM hrn _
            have hszW : w.heap.size + 3 ≤ W.heap.size := by rw [hW]; simp; omega
            clear hown2 hown B22 B42 B2 B4 hx2 hrowlt
            cases p with
            | none =>
              obtain rfl := mks_stop hrk.out hlt hp
              obtain rfl : none = o := HOO.out
              have B2H := Lib.hid B2W
              have k0 : W.cell? ⟨w.heap.size, 0, none⟩ = some (.int .i64 0) := blk_cell B2H.out 0
              have l0 : W.frozen? ⟨w.heap.size, 0, none⟩ = false := blk_frozen B2H.out 0
              rw [hW] at k0 l0
              have k1 : W.cell? ⟨w.heap.size, 1, none⟩ = some (.int .i64 0) := blk_cell B2H.out 1
              have l1 : W.frozen? ⟨w.heap.size, 1, none⟩ = false := blk_frozen B2H.out 1
              rw [hW] at k1 l1
              have k2 : W.cell? ⟨w.heap.size, 2, none⟩ = some (.int .i64 0) := blk_cell B2H.out 2
              have l2 : W.frozen? ⟨w.heap.size, 2, none⟩ = false := blk_frozen B2H.out 2
              rw [hW] at k2 l2
              have k3 : W.cell? ⟨w.heap.size, 3, none⟩ = some (.int .i64 0) := blk_cell B2H.out 3
              have l3 : W.frozen? ⟨w.heap.size, 3, none⟩ = false := blk_frozen B2H.out 3
              rw [hW] at k3 l3
              have k4 : W.cell? ⟨w.heap.size, 4, none⟩ = some (.int .i64 0) := blk_cell B2H.out 4
              have l4 : W.frozen? ⟨w.heap.size, 4, none⟩ = false := blk_frozen B2H.out 4
              rw [hW] at k4 l4
              have k5 : W.cell? ⟨w.heap.size, 5, none⟩ = some (.int .i64 0) := blk_cell B2H.out 5
              have l5 : W.frozen? ⟨w.heap.size, 5, none⟩ = false := blk_frozen B2H.out 5
              rw [hW] at k5 l5
              have k6 : W.cell? ⟨w.heap.size, 6, none⟩ = some (.slice none 0 0) := blk_cell B2H.out 6
              have l6 : W.frozen? ⟨w.heap.size, 6, none⟩ = false := blk_frozen B2H.out 6
              rw [hW] at k6 l6
              rw [hW] at gxW
              clear hrk HOO hp B2W B4W hownW hW s0 s1 s2 s3 B2H hmp
              go_wp2_with fail
              refine bodyPost_ret (v := .tuple #[hdV hd0 none 0 0, .bool false]) ?hres rfl ⟨_, _, _, rfl, OwnL.nil _ _ _ _, ?hxx⟩
              case hres => simp [results, Try.results60, go_sem, hd0, k0, k1, k2, k3, k4, k5, k6]
              case hxx => (repeat (first | (with_reducible exact Ext.refl _) | (with_reducible assumption) | (with_reducible refine Ext.draws ?_) | (with_reducible refine Ext.allocs ?_ _) | (with_reducible refine Ext.sets ?_ ?_ _) | (with_reducible exact Nat.le_refl _) | (exact (by simp)) | (exact (by simp; omega))))
            | some p =>
              obtain rfl := hmp p rfl
              have HN := Lib.hid (mks_next hrk.out hlt hp)
              have x6 := blk_cell B4W 6
              have lit := (mk_lit W ⟨m1, m2, m3, m4⟩).lst
              rw [show W.heap.size = w2.heap.size by rw [hW]; simp] at lit
              have B2H := Lib.hid (blk_ext B2W (Ext.alloc W (.cells #[.int .i64 m1, .string m2, .int .i64 m3, .bool m4] TMk)))
              have B4H := Lib.hid (blk_ext B4W (Ext.alloc W (.cells #[.int .i64 m1, .string m2, .int .i64 m3, .bool m4] TMk)))
              have LIT := Lib.hid lit
              have HOWN := Lib.hid hownW
              have HSZ := Lib.hid hszW
              have GXW := Lib.hid gxW
              clear hrk hp B2W B4W hmp lit hownW hszW gxW gx2
              subst hW
              go_wp2_with (
                at_builtin
                refine wpList_append_flatB mk_rep (fun x cs w h => mk_nop h) rfl _ _ _ _ rfl (w.heap.size + 3) (by have := HSZ.out; rw [World.size_alloc]; omega) TMk TMk i0 _ 40 under_mks under_mks hi0 hz0 hz1 hz2 rfl Ao k co out rfl (HOWN.out.ext mk_rep (Ext.alloc _ _)) _ 1 1 [⟨m1, m2, m3, m4⟩] rfl LIT.out (k + 1) rfl _ rfl (by simp only [maxLen]; omega) (by omega) ?_
                intro A3 c3 w5 hb3 hkeep hext hsz5
                have B25 := Lib.hid (hkeep _ _ (by omega) B2H.out)
                have B45 := Lib.hid (hkeep _ _ (by omega) B4H.out)
                have q6 := blk_cell B45.out 6
                have r6 := blk_frozen B45.out 6)
              have hgx5 := (hext w (GXW.out.allocs _) (by omega)).sets (p := ⟨w.heap.size + 1, 6, none⟩) (by simp) (.slice A3 (k + 1) c3)
              have hB2 : Hid ((w5.setCell ⟨w.heap.size + 1, 6, none⟩ (.slice A3 (k + 1) c3)).heap[w.heap.size]? = some (.cells zeroH THd (0, 0))) := blk_far B25.out (by simp) _
              have hB4 : Hid ((w5.setCell ⟨w.heap.size + 1, 6, none⟩ (.slice A3 (k + 1) c3)).heap[w.heap.size + 1]? = some (.cells #[.int .i64 y0, .int .i64 y1, .int .i64 y2, .int .i64 y3, .int .i64 y4, .int .i64 y5, .slice A3 (k + 1) c3] THd (0, 0))) := by
                unfold Hid
                have := blk_set B45.out 6 (.slice A3 (k + 1) c3)
                simpa using this
              have hown5 := hb3.farM (p := ⟨w.heap.size + 1, 6, none⟩) (fun g hg => by have := (hb3.row_lt g hg).1; simp only; omega) (.slice A3 (k + 1) c3)
              clear q6 r6 B25 B45 hext hkeep B2H B4H LIT HOWN HSZ hb3 GXW gxr x6 s0 s1 s2 s3
              go_wp2_with fail
              go_roundw
              case rel => exact ⟨k + 1, to, A3, c3, _, by omega, rfl, by go_num, hB2, hB4, hown5, HN, hgx5, by simp; omega⟩
              case measure => simp [intOf]; omega
          · obtain rfl : k = N := by omega
            have hr1 := hrk.out
            rw [Nat.sub_self] at hr1
            have e2 : o2 = some (out, d') := by rw [← hr1]; simp [mksG]
            have e3 := HOO.out
            rw [e2, Option.map_some] at e3
            obtain rfl : some (hdOf [y0, y1, y2, y3, y4, y5] out) = o := e3
            clear hrk hr1 e2 HOO
            have k0 : wr.cell? ⟨w.heap.size, 0, none⟩ = some (.int .i64 0) := blk_cell B2.out 0
            have l0 : wr.frozen? ⟨w.heap.size, 0, none⟩ = false := blk_frozen B2.out 0
            have x0 : wr.cell? ⟨w.heap.size + 1, 0, none⟩ = some (.int .i64 y0) := blk_cell B4.out 0
            have k1 : wr.cell? ⟨w.heap.size, 1, none⟩ = some (.int .i64 0) := blk_cell B2.out 1
            have l1 : wr.frozen? ⟨w.heap.size, 1, none⟩ = false := blk_frozen B2.out 1
            have x1 : wr.cell? ⟨w.heap.size + 1, 1, none⟩ = some (.int .i64 y1) := blk_cell B4.out 1
            have k2 : wr.cell? ⟨w.heap.size, 2, none⟩ = some (.int .i64 0) := blk_cell B2.out 2
            have l2 : wr.frozen? ⟨w.heap.size, 2, none⟩ = false := blk_frozen B2.out 2
            have x2 : wr.cell? ⟨w.heap.size + 1, 2, none⟩ = some (.int .i64 y2) := blk_cell B4.out 2
            have k3 : wr.cell? ⟨w.heap.size, 3, none⟩ = some (.int .i64 0) := blk_cell B2.out 3
            have l3 : wr.frozen? ⟨w.heap.size, 3, none⟩ = false := blk_frozen B2.out 3
            have x3 : wr.cell? ⟨w.heap.size + 1, 3, none⟩ = some (.int .i64 y3) := blk_cell B4.out 3
            have k4 : wr.cell? ⟨w.heap.size, 4, none⟩ = some (.int .i64 0) := blk_cell B2.out 4
            have l4 : wr.frozen? ⟨w.heap.size, 4, none⟩ = false := blk_frozen B2.out 4
            have x4 : wr.cell? ⟨w.heap.size + 1, 4, none⟩ = some (.int .i64 y4) := blk_cell B4.out 4
            have k5 : wr.cell? ⟨w.heap.size, 5, none⟩ = some (.int .i64 0) := blk_cell B2.out 5
            have l5 : wr.frozen? ⟨w.heap.size, 5, none⟩ = false := blk_frozen B2.out 5
            have x5 : wr.cell? ⟨w.heap.size + 1, 5, none⟩ = some (.int .i64 y5) := blk_cell B4.out 5
            have k6 : wr.cell? ⟨w.heap.size, 6, none⟩ = some (.slice none 0 0) := blk_cell B2.out 6
            have l6 : wr.frozen? ⟨w.heap.size, 6, none⟩ = false := blk_frozen B2.out 6
            have x6 : wr.cell? ⟨w.heap.size + 1, 6, none⟩ = some (.slice Ao k co) := blk_cell B4.out 6
            have hrow : ∀ g, rowOf Ao co = some g → g ≠ w.heap.size := fun g hg e => by have := (hown.row_lt g hg).1; omega
            go_wp2_with fail
            refine bodyPost_ret (v := .tuple #[hdV ⟨y0, y1, y2, y3, y4, y5, out⟩ Ao k co, .bool true]) ?hres rfl ⟨_, _, _, rfl, ?hown, ?hxx⟩
            case hres => simp [results, Try.results60, go_sem, k0, k1, k2, k3, k4, k5, k6]
            case hown => exact (((((((hown.farM hrow _).farM hrow _).farM hrow _).farM hrow _).farM hrow _).farM hrow _).farM hrow _).low (by omega)
            case hxx => (repeat (first | (with_reducible exact Ext.refl _) | (with_reducible assumption) | (with_reducible refine Ext.draws ?_) | (with_reducible refine Ext.allocs ?_ _) | (with_reducible refine Ext.sets ?_ ?_ _) | (with_reducible exact Nat.le_refl _) | (exact (by simp)) | (exact (by simp; omega))))
end Go.Proofs.Ytoeknbogaclfdaa
