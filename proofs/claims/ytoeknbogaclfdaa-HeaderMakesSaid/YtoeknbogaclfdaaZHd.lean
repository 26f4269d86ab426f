/-
  Records: contracts of Newest, Seen, Find of the program, and of the reference's Seen.
-/
import Derived.Test.YtoeknbogaclfdaaZMk
import Derived.Test.YtoeknbogaclfdaaZFlat
namespace Go.Proofs.Ytoeknbogaclfdaa
open Go.RowKit
set_option linter.unusedVariables false
set_option linter.unusedSimpArgs false
set_option linter.unnecessarySimpa false
set_option maxRecDepth 100000

abbrev hdV (h : Hd) (A : Option Addr) (n c : Nat) : Value := .agg #[.int .i64 h.size, .int .i64 h.order, .int .i64 h.unit, .int .i64 h.count, .int .i64 h.next, .int .i64 h.seq, .slice A n c]
def newF (p : Bool × Int) (x : Mk) : Bool × Int := (true, if p.1 = false ∨ p.2 < x.id then x.id else p.2)
def newestI (l : List Mk) : Int := (l.foldl newF (false, 0)).2
theorem newF_fst : ∀ (l : List Mk) (p : Bool × Int), (l.foldl newF p).1 = (p.1 || decide (0 < l.length))
  | [], p => by simp
  | x :: l, p => by
    rw [List.foldl_cons, newF_fst l]
    simp [newF]
theorem newest_next {xs : List Mk} {k : Nat} {x : Mk} (h : xs[k]? = some x) : newestI (xs.take (k + 1)) = if k = 0 ∨ newestI (xs.take k) < x.id then x.id else newestI (xs.take k) := by
  have hl : (xs.take k).length = k := by rw [List.length_take]; have := (List.getElem?_eq_some_iff.1 h).1; omega
  have h1 := newF_fst (xs.take k) (false, 0)
  rw [hl] at h1
  unfold newestI
  rw [List.take_add_one, h]
  rw [List.foldl_append]
  generalize (xs.take k).foldl newF (false, 0) = p at h1 ⊢
  show (if p.1 = false ∨ p.2 < x.id then x.id else p.2) = _
  rw [h1]
  have e : ((false || decide (0 < k)) = false) = (k = 0) := by
    simp only [Bool.false_or, decide_eq_false_iff_not]
    exact propext (by omega)
  simp only [e]
theorem header_Newest (h : Hd) {A : Option Addr} {n c : Nat} {w : World} (hl : Lst 4 mkR w A n c h.marks) {r : Int} (hr : Hid (newestI h.marks = r)) :
    Calls Try.prog 27 #[hdV h A n c] w fun e w' => e = .returned (.int .i64 r) ∧ Ext w w' := by
  have h63 := hl.n63
  obtain ⟨h1, h2, h3, h4, h5, h6, xs⟩ := h
  simp only at hl hr
  go_enter Try.func27, Try.ntmps27
  go_wp2_with fail
  go_loopw [3, 9] (fun v i wr => ∃ (k : Nat) (d : Int), k ≤ n ∧ v = .int .i64 d ∧ i = .int .i64 k ∧ Hid (newestI (xs.take k) = d) ∧ Ext w wr) (fun _ i _ => n - (intOf i).toNat)
  case atStart => exact ⟨0, 0, by omega, rfl, rfl, rfl, Ext.alloc _ _⟩
  case round =>
    obtain ⟨k, d, hk, rfl, rfl, hd, hxr⟩ := hrel
    by_cases hlt : k < n
    · skip
      obtain ⟨ga, oa, x, cs, rfl, hx, rfl, ha⟩ := hl.at2 mk_rep (by omega) hlt
      have a0 : wr.cell? ⟨ga, oa + k * 4, none⟩ = _ := hxr.cell (ha 0 _ rfl)
      have a1 := hxr.cell (ha 1 _ rfl)
      have a2 := hxr.cell (ha 2 _ rfl)
      have a3 := hxr.cell (ha 3 _ rfl)
      clear ha
      have hn := newest_next hx
      rw [hd.out] at hn
      by_cases hc : k = 0 ∨ d < x.id
      · rw [if_pos hc] at hn
        have HN := Lib.hid hn
        clear hn hx hd
        obtain ⟨x1, x2, x3, x4⟩ := x
        simp only at a0 a1 a2 a3 hc HN
        by_cases hk0 : k = 0
        · have hkb : ((k : Int) == 0) = true := by simp; omega
          clear hc hk0
          go_wp2_with fail
          go_roundw
          case rel => exact ⟨k + 1, x1, by omega, rfl, by go_num, HN, hxr.allocs _⟩
          case measure => simp [intOf]; omega
        · have hkb : ((k : Int) == 0) = false := by simp; omega
          have hdx : d < x1 := by omega
          clear hc hk0
          go_wp2_with fail
          go_roundw
          case rel => exact ⟨k + 1, x1, by omega, rfl, by go_num, HN, hxr.allocs _⟩
          case measure => simp [intOf]; omega
      · rw [if_neg hc] at hn
        have HN := Lib.hid hn
        clear hn hx hd
        obtain ⟨x1, x2, x3, x4⟩ := x
        simp only at a0 a1 a2 a3 hc HN
        have hkb : ((k : Int) == 0) = false := by simp; omega
        have hdx : decide (d < x1) = false := by simp; omega
        clear hc
        go_wp2_with fail
        go_roundw
        case rel => exact ⟨k + 1, d, by omega, rfl, by go_num, HN, hxr.allocs _⟩
        case measure => simp [intOf]; omega
    · obtain rfl : k = n := by omega
      have e := hd.out
      rw [List.take_of_length_le (by rw [hl.len]; exact Nat.le_refl _), hr.out] at e
      subst e
      clear hd hr
      go_wp2_with fail
      go_ret
      exact ⟨rfl, hxr⟩
/-- a row of one mark, written down -/
theorem mk_lit (w : World) (x : Mk) : OwnL TMk 4 mkR (w.alloc (.cells #[.int .i64 x.id, .string x.nm, .int .i64 x.sz, .bool x.gone] TMk)) w.heap.size (some ⟨w.heap.size, 0, none⟩) 1 1 [x] :=
  ⟨rfl, [[.int .i64 x.id, .string x.nm, .int .i64 x.sz, .bool x.gone]], .cons rfl .nil, Own.made w w.heap.size TMk 4 #[.int .i64 x.id, .string x.nm, .int .i64 x.sz, .bool x.gone] 1 1 (Nat.le_refl _) (Nat.le_refl _) (by simp [maxLen]) rfl, fun cs hcs k hk => by simp at hcs; subst hcs; exact absurd hk (mk_nop (x := x) (w := w) rfl k)⟩
theorem seenL_next {xs : List Mk} {k : Nat} {x : Mk} (h : xs[k]? = some x) : seenL (xs.take (k + 1)) = if seenM x = true then seenL (xs.take k) ++ [x] else seenL (xs.take k) := by
  rw [List.take_add_one, h, seenL_app]
  show _ ++ seenL [x] = _
  unfold seenL
  split
  · rename_i e; rw [List.filter_cons_of_pos e, List.filter_nil]
  · rename_i e; rw [List.filter_cons_of_neg e, List.filter_nil, List.append_nil]
/-- names that are no longer than a row may be -/
def Shorts (l : List Mk) : Prop := ∀ x ∈ l, x.nm.size ≤ 1000
theorem Shorts.at_ {l : List Mk} (h : Shorts l) {k : Nat} {x : Mk} (hx : l[k]? = some x) : x.nm.size ≤ 1000 := h x (List.mem_of_getElem? hx)
set_option maxHeartbeats 1000000 in
theorem header_Seen (h : Hd) {A : Option Addr} {n c : Nat} {w : World} (hl : Lst 4 mkR w A n c h.marks) (hs : Hid (Shorts h.marks)) (hn : n ≤ 1000) {R : List Mk} (hr : Hid (seenL h.marks = R)) :
    Calls Try.prog 25 #[hdV h A n c] w fun e w' => ∃ A' n' c', e = .returned (.slice A' n' c') ∧ OwnL TMk 4 mkR w' w.heap.size A' n' c' R ∧ Ext w w' := by
  have h63 := hl.n63
  obtain ⟨i0, hi0, hz0, hz1, hz2⟩ := info_parts info_mk
  obtain ⟨h1, h2, h3, h4, h5, h6, xs⟩ := h
  simp only at hl hr hs
  go_enter Try.func25, Try.ntmps25
  go_wp2_with fail
  go_loopw [3, 9] (fun v i wr => ∃ (k : Nat) (Ao : Option Addr) (m co : Nat) (out : List Mk), k ≤ n ∧ m ≤ k ∧ v = .slice Ao m co ∧ i = .int .i64 k ∧ OwnL TMk 4 mkR wr w.heap.size Ao m co out ∧ Hid (seenL (xs.take k) = out) ∧ Ext w wr) (fun _ i _ => n - (intOf i).toNat)
  case atStart => exact ⟨0, none, 0, 0, [], by omega, by omega, rfl, rfl, OwnL.nil _ _ _ _, rfl, Ext.alloc _ _⟩
  case round =>
    obtain ⟨k, Ao, m, co, out, hk, hm, rfl, rfl, hown, hd, hxr⟩ := hrel
    by_cases hlt : k < n
    · skip
      obtain ⟨ga, oa, x, cs, rfl, hx, rfl, ha⟩ := hl.at2 mk_rep (by omega) hlt
      have a0 : wr.cell? ⟨ga, oa + k * 4, none⟩ = _ := hxr.cell (ha 0 _ rfl)
      have a1 := hxr.cell (ha 1 _ rfl)
      have a2 := hxr.cell (ha 2 _ rfl)
      have a3 := hxr.cell (ha 3 _ rfl)
      clear ha
      have hn := seenL_next hx
      rw [hd.out] at hn
      have hsz := hs.out.at_ hx
      obtain ⟨q, hq⟩ : ∃ q, seenM x = q := ⟨_, rfl⟩
      have HQ := Lib.hid hq
      rw [hq] at hn
      clear hx hd
      cases q with
      | false =>
        have HN : Hid (seenL (xs.take (k + 1)) = out) := by unfold Hid; rw [hn]; rfl
        clear hn hq
        obtain ⟨x1, x2, x3, x4⟩ := x
        simp only at a0 a1 a2 a3 hsz
        go_wp2_with fail
        refine (header_seen ⟨x1, x2, x3, x4⟩ _ (by simp only; omega) HQ).mono ?_
        rintro e w2 ⟨rfl, hx2⟩
        go_wp2_with fail
        go_roundw
        case rel => exact ⟨k + 1, Ao, m, co, out, by omega, by omega, rfl, by go_num, (hown.ext mk_rep (Ext.alloc _ _)).ext mk_rep hx2, HN, (hxr.allocs _).trans hx2⟩
        case measure => simp [intOf]; omega
      | true =>
        have HN : Hid (seenL (xs.take (k + 1)) = out ++ [x]) := by unfold Hid; rw [hn]; rfl
        clear hn hq
        obtain ⟨x1, x2, x3, x4⟩ := x
        simp only at a0 a1 a2 a3 hsz
        go_wp2_with fail
        refine (header_seen ⟨x1, x2, x3, x4⟩ _ (by simp only; omega) HQ).mono ?_
        rintro e w2 ⟨rfl, hx2⟩
        have c0 : w2.cell? ⟨wr.heap.size, 0, none⟩ = some (.int .i64 x1) := hx2.cell (cell_new wr #[.int .i64 x1, .string x2, .int .i64 x3, .bool x4] TMk 0)
        have c1 : w2.cell? ⟨wr.heap.size, 1, none⟩ = some (.string x2) := hx2.cell (cell_new wr #[.int .i64 x1, .string x2, .int .i64 x3, .bool x4] TMk 1)
        have c2 : w2.cell? ⟨wr.heap.size, 2, none⟩ = some (.int .i64 x3) := hx2.cell (cell_new wr #[.int .i64 x1, .string x2, .int .i64 x3, .bool x4] TMk 2)
        have c3 : w2.cell? ⟨wr.heap.size, 3, none⟩ = some (.bool x4) := hx2.cell (cell_new wr #[.int .i64 x1, .string x2, .int .i64 x3, .bool x4] TMk 3)
        have hown2 := (hown.ext mk_rep (Ext.alloc wr (.cells #[.int .i64 x1, .string x2, .int .i64 x3, .bool x4] TMk))).ext mk_rep hx2
        have hx3 := (hxr.allocs (.cells #[.int .i64 x1, .string x2, .int .i64 x3, .bool x4] TMk)).trans hx2
        have lit := (mk_lit w2 ⟨x1, x2, x3, x4⟩).lst
        clear hx2 a0 a1 a2 a3
        go_wp2_with (
          at_builtin
          refine wpList_append_flat (w0 := w) mk_rep (fun x cs w h => mk_nop h) rfl _ _ _ _ rfl TMk TMk i0 _ 40 under_mks under_mks hi0 hz0 hz1 hz2 rfl Ao m co out rfl (hown2.ext mk_rep (Ext.alloc _ _)) _ 1 1 [⟨x1, x2, x3, x4⟩] rfl lit (m + 1) rfl _ rfl (by simp only [maxLen]; omega) (by omega) (hx3.allocs _) ?_
          intro A3 c3 w3 hb3 hx4)
        go_wp2_with fail
        go_roundw
        case rel => exact ⟨k + 1, A3, m + 1, c3, _, by omega, by omega, rfl, by go_num, hb3, HN, hx4⟩
        case measure => simp [intOf]; omega
    · obtain rfl : k = n := by omega
      have e := hd.out
      rw [List.take_of_length_le (by rw [hl.len]; exact Nat.le_refl _), hr.out] at e
      subst e
      clear hd hr
      go_wp2_with fail
      go_ret
      exact ⟨_, _, _, rfl, hown, hxr⟩
end Go.Proofs.Ytoeknbogaclfdaa
