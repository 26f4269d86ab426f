/-
  Records: contracts of the program's Find and Same, of the reference's Seen and SameHead.
-/
/-
  Records alike: contracts of the program's Same and of the reference's SameHead.
-/
import Derived.Test.YtoeknbogaclfdaaZFromMkToMkSame
namespace Go.Proofs.Ytoeknbogaclfdaa
open Go.RowKit
set_option linter.unusedVariables false
set_option linter.unusedSimpArgs false
set_option linter.unnecessarySimpa false
set_option maxRecDepth 100000

abbrev THd : TypeId := 43
theorem frozen_new (w : World) (cs : Array Value) (e : TypeId) (j : Nat) : (w.alloc (.cells cs e)).frozen? ⟨w.heap.size, j, none⟩ = false := by
  unfold World.frozen?
  simp only [heap_alloc_new]
  simp
theorem Ext.frozenH {a b : World} (h : Ext a b) {p : Addr} {u : Value} (hc : a.cell? p = some u) (hf : a.frozen? p = false) : b.frozen? p = false := by
  rw [Below.frozen h (World.block_lt_of_cell? a p hc)]
  exact hf
set_option maxHeartbeats 1000000 in
theorem ref_Seen (h : Hd) {A : Option Addr} {n c : Nat} {w : World} (hl : Lst 4 mkR w A n c h.marks) (hs : Hid (Shorts h.marks)) (hn : n ≤ 1000) {R : List Mk} (hr : Hid (seenL h.marks = R)) :
    Calls Try.prog 30 #[hdV h A n c] w fun e w' => ∃ A' n' c', e = .returned (.slice A' n' c') ∧ OwnL TMk 4 mkR w' w.heap.size A' n' c' R ∧ Ext w w' := by
  have h63 := hl.n63
  obtain ⟨i0, hi0, hz0, hz1, hz2⟩ := info_parts info_mk
  obtain ⟨h1, h2, h3, h4, h5, h6, xs⟩ := h
  simp only at hl hr hs
  go_enter Try.func30, Try.ntmps30
  go_wp2_with fail
  obtain ⟨w1, hw1⟩ : ∃ q, q = w.alloc (.cells #[.int .i64 h1, .int .i64 h2, .int .i64 h3, .int .i64 h4, .int .i64 h5, .int .i64 h6, .slice A n c] THd) := ⟨_, rfl⟩
  have hx1 : Ext w w1 := by rw [hw1]; exact Ext.alloc _ _
  have b6 : w1.cell? ⟨w.heap.size, 6, none⟩ = some (.slice A n c) := by rw [hw1]; exact cell_new _ _ _ 6
  rw [← hw1]
  clear hw1
  go_loopw [3, 4] (fun v i wr => ∃ (k : Nat) (Ao : Option Addr) (m co : Nat) (out : List Mk), k ≤ n ∧ m ≤ k ∧ v = .slice Ao m co ∧ i = .int .i64 k ∧ OwnL TMk 4 mkR wr w1.heap.size Ao m co out ∧ Hid (seenL (xs.take k) = out) ∧ Ext w1 wr) (fun _ i _ => n - (intOf i).toNat)
  case atStart => exact ⟨0, none, 0, 0, [], by omega, by omega, rfl, rfl, OwnL.nil _ _ _ _, rfl, Ext.refl _⟩
  case round =>
    obtain ⟨k, Ao, m, co, out, hk, hm, rfl, rfl, hown, hd, hxr⟩ := hrel
    have hxw := hx1.trans hxr
    replace b6 := hxr.cell b6
    by_cases hlt : k < n
    · skip
      obtain ⟨ga, oa, x, cs, rfl, hx, rfl, ha⟩ := hl.at2 mk_rep (by omega) hlt
      have a0 : wr.cell? ⟨ga, oa + k * 4, none⟩ = _ := hxw.cell (ha 0 _ rfl)
      have a1 := hxw.cell (ha 1 _ rfl)
      have a2 := hxw.cell (ha 2 _ rfl)
      have a3 := hxw.cell (ha 3 _ rfl)
      clear ha
      have hnx := seenL_next hx
      rw [hd.out] at hnx
      have hsz := hs.out.at_ hx
      obtain ⟨q, hq⟩ : ∃ q, tildeB x.nm = q := ⟨_, rfl⟩
      have HQ := Lib.hid hq
      unfold seenM at hnx
      rw [hq] at hnx
      obtain ⟨x1, x2, x3, x4⟩ := x
      simp only at a0 a1 a2 a3 hsz hnx HQ
      clear hx hd hq
      by_cases hsn : x4 = false ∧ q = false
      · obtain ⟨rfl, rfl⟩ := hsn
        have HN : Hid (seenL (xs.take (k + 1)) = out ++ [⟨x1, x2, x3, false⟩]) := by unfold Hid; rw [hnx]; rfl
        have lit := (mk_lit wr ⟨x1, x2, x3, false⟩).lst
        clear hnx
        go_wp2_with fail
        refine (ref_hidden x2 _ (by omega) HQ).mono ?_
        rintro e _ ⟨rfl, rfl⟩
        go_wp2_with (
          at_builtin
          refine wpList_append_flat (w0 := w1) mk_rep (fun x cs w h => mk_nop h) rfl _ _ _ _ rfl TMk TMk i0 _ 40 under_mks under_mks hi0 hz0 hz1 hz2 rfl Ao m co out rfl (hown.ext mk_rep (Ext.alloc _ _)) _ 1 1 [⟨x1, x2, x3, false⟩] rfl lit (m + 1) rfl _ rfl (by simp only [maxLen]; omega) (by omega) (hxr.allocs _) ?_
          intro A3 c3 w3 hb3 hx4)
        go_wp2_with fail
        go_roundw
        case rel => exact ⟨k + 1, A3, m + 1, c3, _, by omega, by omega, rfl, by go_num, hb3, HN, hx4⟩
        case measure => simp [intOf]; omega
      · have HN : Hid (seenL (xs.take (k + 1)) = out) := by
          unfold Hid
          rw [hnx, if_neg]
          cases x4 <;> cases q <;> simp_all
        clear hnx
        cases x4 with
        | true =>
          go_wp2_with fail
          go_roundw
          case rel => exact ⟨k + 1, Ao, m, co, out, by omega, by omega, rfl, by go_num, hown, HN, hxr⟩
          case measure => simp [intOf]; omega
        | false =>
          obtain rfl : q = true := by cases q <;> simp_all
          clear hsn
          go_wp2_with fail
          refine (ref_hidden x2 _ (by omega) HQ).mono ?_
          rintro e _ ⟨rfl, rfl⟩
          go_wp2_with fail
          go_roundw
          case rel => exact ⟨k + 1, Ao, m, co, out, by omega, by omega, rfl, by go_num, hown, HN, hxr⟩
          case measure => simp [intOf]; omega
    · obtain rfl : k = n := by omega
      have e := hd.out
      rw [List.take_of_length_le (by rw [hl.len]; exact Nat.le_refl _), hr.out] at e
      subst e
      clear hd hr
      go_wp2_with fail
      go_ret
      exact ⟨_, _, _, rfl, hown.low hx1.size, hxw⟩
def findM (l : List Mk) (s : ByteArray) : Option Mk := l.find? fun x => seenM x && decide (x.nm = s)
def mk0 : Mk := ⟨0, ⟨#[]⟩, 0, false⟩
theorem find_next {xs : List Mk} {k : Nat} {x : Mk} {s : ByteArray} (h : xs[k]? = some x) : findM (xs.drop k) s = if (seenM x && decide (x.nm = s)) = true then some x else findM (xs.drop (k + 1)) s := by
  obtain ⟨hl, rfl⟩ := List.getElem?_eq_some_iff.1 h
  unfold findM
  rw [List.drop_eq_getElem_cons hl, List.find?_cons]
  split <;> simp_all
set_option maxHeartbeats 1000000 in
theorem header_Find (h : Hd) {A : Option Addr} {n c : Nat} (s : ByteArray) {w : World} (hl : Lst 4 mkR w A n c h.marks) (hs : Hid (Shorts h.marks)) {o : Option Mk} (ho : Hid (findM h.marks s = o)) :
    Calls Try.prog 26 #[hdV h A n c, .string s] w fun e w' => e = .returned (.tuple #[mkV (o.getD mk0), .bool o.isSome]) ∧ Ext w w' := by
  have h63 := hl.n63
  obtain ⟨h1, h2, h3, h4, h5, h6, xs⟩ := h
  simp only at hl ho hs
  go_enter Try.func26, Try.ntmps26
  go_wp2_with fail
  obtain ⟨w0, hw0⟩ : ∃ q, q = w.alloc (.cells #[.int .i64 h1, .int .i64 h2, .int .i64 h3, .int .i64 h4, .int .i64 h5, .int .i64 h6, .slice A n c] THd) := ⟨_, rfl⟩
  obtain ⟨w1, hw1⟩ : ∃ q, q = w0.alloc (.cells #[.int .i64 0, .string ⟨#[]⟩, .int .i64 0, .bool false] TMk) := ⟨_, rfl⟩
  have hx0 : Ext w w0 := by rw [hw0]; exact Ext.alloc _ _
  have hx01 : Ext w0 w1 := by rw [hw1]; exact Ext.alloc _ _
  have hx1 : Ext w w1 := hx0.trans hx01
  have hz : w0.heap.size = w.heap.size + 1 := by rw [hw0]; simp
  have z0 : w1.cell? ⟨w.heap.size + 1, 0, none⟩ = some (.int .i64 0) := by rw [hw1, ← hz]; exact cell_new _ _ _ 0
  have f0 : w1.frozen? ⟨w.heap.size + 1, 0, none⟩ = false := by rw [hw1, ← hz]; exact frozen_new _ _ _ 0
  have z1 : w1.cell? ⟨w.heap.size + 1, 1, none⟩ = some (.string ⟨#[]⟩) := by rw [hw1, ← hz]; exact cell_new _ _ _ 1
  have f1 : w1.frozen? ⟨w.heap.size + 1, 1, none⟩ = false := by rw [hw1, ← hz]; exact frozen_new _ _ _ 1
  have z2 : w1.cell? ⟨w.heap.size + 1, 2, none⟩ = some (.int .i64 0) := by rw [hw1, ← hz]; exact cell_new _ _ _ 2
  have f2 : w1.frozen? ⟨w.heap.size + 1, 2, none⟩ = false := by rw [hw1, ← hz]; exact frozen_new _ _ _ 2
  have z3 : w1.cell? ⟨w.heap.size + 1, 3, none⟩ = some (.bool false) := by rw [hw1, ← hz]; exact cell_new _ _ _ 3
  have f3 : w1.frozen? ⟨w.heap.size + 1, 3, none⟩ = false := by rw [hw1, ← hz]; exact frozen_new _ _ _ 3
  rw [← hw0, ← hw1]
  clear hw0 hw1 hx01 hz hx0 w0
  go_loopw [11] (fun i wr => ∃ (k : Nat), k ≤ n ∧ i = .int .i64 k ∧ Hid (findM (xs.drop k) s = o) ∧ Ext w1 wr) (fun i _ => n - (intOf i).toNat)
  case atStart => exact ⟨0, by omega, rfl, ho, Ext.refl _⟩
  case round =>
    obtain ⟨k, hk, rfl, hd, hxr⟩ := hrel
    have hxw := hx1.trans hxr
    by_cases hlt : k < n
    · skip
      obtain ⟨ga, oa, x, cs, rfl, hx, rfl, ha⟩ := hl.at2 mk_rep (by omega) hlt
      have a0 : wr.cell? ⟨ga, oa + k * 4, none⟩ = _ := hxw.cell (ha 0 _ rfl)
      have a1 := hxw.cell (ha 1 _ rfl)
      have a2 := hxw.cell (ha 2 _ rfl)
      have a3 := hxw.cell (ha 3 _ rfl)
      clear ha
      have hnx := find_next (s := s) hx
      rw [hd.out] at hnx
      have hsz := hs.out.at_ hx
      obtain ⟨q, hq⟩ : ∃ q, seenM x = q := ⟨_, rfl⟩
      have HQ := Lib.hid hq
      rw [hq] at hnx
      obtain ⟨x1, x2, x3, x4⟩ := x
      simp only at a0 a1 a2 a3 hsz hnx HQ
      clear hx hd hq
      obtain ⟨w2, hw2⟩ : ∃ q, q = wr.alloc (.cells #[.int .i64 x1, .string x2, .int .i64 x3, .bool x4] TMk) := ⟨_, rfl⟩
      have hx2 : Ext w1 w2 := by rw [hw2]; exact hxr.allocs _
      have c0 : w2.cell? ⟨wr.heap.size, 0, none⟩ = some (.int .i64 x1) := by rw [hw2]; exact cell_new _ _ _ 0
      have c1 : w2.cell? ⟨wr.heap.size, 1, none⟩ = some (.string x2) := by rw [hw2]; exact cell_new _ _ _ 1
      have c2 : w2.cell? ⟨wr.heap.size, 2, none⟩ = some (.int .i64 x3) := by rw [hw2]; exact cell_new _ _ _ 2
      have c3 : w2.cell? ⟨wr.heap.size, 3, none⟩ = some (.bool x4) := by rw [hw2]; exact cell_new _ _ _ 3
      go_wp2_with fail
      rw [← hw2]
      clear hw2 hxr hxw a0 a1 a2 a3
      refine (header_seen ⟨x1, x2, x3, x4⟩ _ (by simp only; omega) HQ).mono ?_
      rintro e w3 ⟨rfl, hx3⟩
      have gx3 := hx2.trans hx3
      replace c0 := hx3.cell c0
      replace c1 := hx3.cell c1
      replace c2 := hx3.cell c2
      replace c3 := hx3.cell c3
      clear hx2 hx3
      cases q with
      | false =>
        have HN : Hid (findM (xs.drop (k + 1)) s = o) := by unfold Hid; rw [hnx]; rfl
        clear hnx
        go_wp2_with fail
        go_roundw
        case rel => exact ⟨k + 1, by omega, by go_num, HN, gx3⟩
        case measure => simp [intOf]; omega
      | true =>
        by_cases he : x2 = s
        · subst he
          obtain rfl : o = some ⟨x1, x2, x3, x4⟩ := by rw [hnx]; simp
          clear hnx
          replace f0 := gx3.frozenH z0 f0
          replace z0 := gx3.cell z0
          replace f1 := gx3.frozenH z1 f1
          replace z1 := gx3.cell z1
          replace f2 := gx3.frozenH z2 f2
          replace z2 := gx3.cell z2
          replace f3 := gx3.frozenH z3 f3
          replace z3 := gx3.cell z3
          have gw := hx1.trans gx3
          clear hx1 gx3
          go_wp2_with fail
          refine bodyPost_ret (v := .tuple #[mkV ⟨x1, x2, x3, x4⟩, .bool true]) ?hres rfl ⟨rfl, ?hxx⟩
          case hres => simp [results, Try.results26, go_sem, z0, z1, z2, z3]
          case hxx => (repeat (first | (with_reducible exact Ext.refl _) | (with_reducible assumption) | (with_reducible refine Ext.draws ?_) | (with_reducible refine Ext.allocs ?_ _) | (with_reducible refine Ext.sets ?_ ?_ _) | (with_reducible exact Nat.le_refl _) | (exact (by simp)) | (exact (by simp; omega))))
        · have heb : (x2.toList == s.toList) = false := by
            rw [beq_eq_false_iff_ne]
            exact fun h => he (bytes_inj h)
          have HN : Hid (findM (xs.drop (k + 1)) s = o) := by unfold Hid; rw [hnx]; simp [he]
          clear hnx he
          go_wp2_with fail
          go_roundw
          case rel => exact ⟨k + 1, by omega, by go_num, HN, gx3⟩
          case measure => simp [intOf]; omega
    · obtain rfl : k = n := by omega
      have e := hd.out
      rw [List.drop_of_length_le (by rw [hl.len]; exact Nat.le_refl _)] at e
      obtain rfl : o = none := by rw [← e]; rfl
      replace f0 := hxr.frozenH z0 f0
      replace z0 := hxr.cell z0
      replace f1 := hxr.frozenH z1 f1
      replace z1 := hxr.cell z1
      replace f2 := hxr.frozenH z2 f2
      replace z2 := hxr.cell z2
      replace f3 := hxr.frozenH z3 f3
      replace z3 := hxr.cell z3
      clear hd e hx1 hxr ho
      go_wp2_with fail
      refine bodyPost_ret (v := .tuple #[mkV mk0, .bool false]) ?hres rfl ⟨rfl, ?hxx⟩
      case hres => simp [results, Try.results26, go_sem, z0, z1, z2, z3, mk0]
      case hxx => (repeat (first | (with_reducible exact Ext.refl _) | (with_reducible assumption) | (with_reducible refine Ext.draws ?_) | (with_reducible refine Ext.allocs ?_ _) | (with_reducible refine Ext.sets ?_ ?_ _) | (with_reducible exact Nat.le_refl _) | (exact (by simp)) | (exact (by simp; omega))))
end Go.Proofs.Ytoeknbogaclfdaa

namespace Go.Proofs.Ytoeknbogaclfdaa
open Go.RowKit
set_option linter.unusedVariables false
set_option linter.unusedSimpArgs false
set_option linter.unnecessarySimpa false
set_option maxRecDepth 100000

def sameHd (a b : Hd) : Bool := decide (a = b)
set_option maxHeartbeats 1000000 in
theorem header_Same (a b : Hd) {A : Option Addr} {n c : Nat} {A' : Option Addr} {n' c' : Nat} {w : World} (l1 : Lst 4 mkR w A n c a.marks) (l2 : Lst 4 mkR w A' n' c' b.marks) {t : Bool} (ht : Hid (sameHd a b = t)) :
    Calls Try.prog 34 #[hdV a A n c, hdV b A' n' c'] w fun e w' => e = .returned (.bool t) ∧ Ext w w' := by
  have h63 := l1.n63
  have h63' := l2.n63
  obtain ⟨s1, o1, u1, c1, n1, q1, m1⟩ := a
  obtain ⟨s2, o2, u2, c2, n2, q2, m2⟩ := b
  simp only at l1 l2
  by_cases e : s1 = s2
  case neg =>
    skip
    obtain rfl : t = false := by rw [← ht.out]; unfold sameHd; simp [e]
    have q : (s1 == s2) = false := by simpa using e
    clear ht
    go_enter Try.func34, Try.ntmps34
    go_wp2_with fail
    go_ret
    refine ⟨rfl, ?_⟩
    (repeat (first | (with_reducible exact Ext.refl _) | (with_reducible assumption) | (with_reducible refine Ext.draws ?_) | (with_reducible refine Ext.allocs ?_ _) | (with_reducible refine Ext.sets ?_ ?_ _) | (with_reducible exact Nat.le_refl _) | (exact (by simp)) | (exact (by simp; omega))))
  subst e
  by_cases e : o1 = o2
  case neg =>
    skip
    obtain rfl : t = false := by rw [← ht.out]; unfold sameHd; simp [e]
    have q : (o1 == o2) = false := by simpa using e
    clear ht
    go_enter Try.func34, Try.ntmps34
    go_wp2_with fail
    go_ret
    refine ⟨rfl, ?_⟩
    (repeat (first | (with_reducible exact Ext.refl _) | (with_reducible assumption) | (with_reducible refine Ext.draws ?_) | (with_reducible refine Ext.allocs ?_ _) | (with_reducible refine Ext.sets ?_ ?_ _) | (with_reducible exact Nat.le_refl _) | (exact (by simp)) | (exact (by simp; omega))))
  subst e
  by_cases e : u1 = u2
  case neg =>
    skip
    obtain rfl : t = false := by rw [← ht.out]; unfold sameHd; simp [e]
    have q : (u1 == u2) = false := by simpa using e
    clear ht
    go_enter Try.func34, Try.ntmps34
    go_wp2_with fail
    go_ret
    refine ⟨rfl, ?_⟩
    (repeat (first | (with_reducible exact Ext.refl _) | (with_reducible assumption) | (with_reducible refine Ext.draws ?_) | (with_reducible refine Ext.allocs ?_ _) | (with_reducible refine Ext.sets ?_ ?_ _) | (with_reducible exact Nat.le_refl _) | (exact (by simp)) | (exact (by simp; omega))))
  subst e
  by_cases e : c1 = c2
  case neg =>
    skip
    obtain rfl : t = false := by rw [← ht.out]; unfold sameHd; simp [e]
    have q : (c1 == c2) = false := by simpa using e
    clear ht
    go_enter Try.func34, Try.ntmps34
    go_wp2_with fail
    go_ret
    refine ⟨rfl, ?_⟩
    (repeat (first | (with_reducible exact Ext.refl _) | (with_reducible assumption) | (with_reducible refine Ext.draws ?_) | (with_reducible refine Ext.allocs ?_ _) | (with_reducible refine Ext.sets ?_ ?_ _) | (with_reducible exact Nat.le_refl _) | (exact (by simp)) | (exact (by simp; omega))))
  subst e
  by_cases e : n1 = n2
  case neg =>
    skip
    obtain rfl : t = false := by rw [← ht.out]; unfold sameHd; simp [e]
    have q : (n1 == n2) = false := by simpa using e
    clear ht
    go_enter Try.func34, Try.ntmps34
    go_wp2_with fail
    go_ret
    refine ⟨rfl, ?_⟩
    (repeat (first | (with_reducible exact Ext.refl _) | (with_reducible assumption) | (with_reducible refine Ext.draws ?_) | (with_reducible refine Ext.allocs ?_ _) | (with_reducible refine Ext.sets ?_ ?_ _) | (with_reducible exact Nat.le_refl _) | (exact (by simp)) | (exact (by simp; omega))))
  subst e
  by_cases e : q1 = q2
  case neg =>
    skip
    obtain rfl : t = false := by rw [← ht.out]; unfold sameHd; simp [e]
    have q : (q1 == q2) = false := by simpa using e
    clear ht
    go_enter Try.func34, Try.ntmps34
    go_wp2_with fail
    go_ret
    refine ⟨rfl, ?_⟩
    (repeat (first | (with_reducible exact Ext.refl _) | (with_reducible assumption) | (with_reducible refine Ext.draws ?_) | (with_reducible refine Ext.allocs ?_ _) | (with_reducible refine Ext.sets ?_ ?_ _) | (with_reducible exact Nat.le_refl _) | (exact (by simp)) | (exact (by simp; omega))))
  subst e
  have hb : Hid (sameMk m1 m2 = t) := by
    unfold Hid
    rw [← ht.out]
    unfold sameMk sameHd
    simp
  clear ht
  have gx : Ext w ((w.alloc (.cells #[.int .i64 s1, .int .i64 o1, .int .i64 u1, .int .i64 c1, .int .i64 n1, .int .i64 q1, .slice A n c] THd)).alloc (.cells #[.int .i64 s1, .int .i64 o1, .int .i64 u1, .int .i64 c1, .int .i64 n1, .int .i64 q1, .slice A' n' c'] THd)) := (Ext.alloc _ _).allocs _
  go_enter Try.func34, Try.ntmps34
  go_wp2_with fail
  refine (equal_marks (l1.ext mk_rep gx) (l2.ext mk_rep gx) hb).mono ?_
  rintro e w1 ⟨rfl, hx1⟩
  go_wp2_with fail
  go_ret
  exact ⟨rfl, gx.trans hx1⟩
set_option maxHeartbeats 1000000 in
theorem ref_SameHead (a b : Hd) {A : Option Addr} {n c : Nat} {A' : Option Addr} {n' c' : Nat} {w : World} (l1 : Lst 4 mkR w A n c a.marks) (l2 : Lst 4 mkR w A' n' c' b.marks) {t : Bool} (ht : Hid (sameHd a b = t)) :
    Calls Try.prog 24 #[hdV a A n c, hdV b A' n' c'] w fun e w' => e = .returned (.bool t) ∧ Ext w w' := by
  have h63 := l1.n63
  have h63' := l2.n63
  obtain ⟨s1, o1, u1, c1, n1, q1, m1⟩ := a
  obtain ⟨s2, o2, u2, c2, n2, q2, m2⟩ := b
  simp only at l1 l2
  by_cases e : s1 = s2
  case neg =>
    skip
    obtain rfl : t = false := by rw [← ht.out]; unfold sameHd; simp [e]
    have q : (s1 == s2) = false := by simpa using e
    clear ht
    go_enter Try.func24, Try.ntmps24
    go_wp2_with fail
    go_ret
    refine ⟨rfl, ?_⟩
    (repeat (first | (with_reducible exact Ext.refl _) | (with_reducible assumption) | (with_reducible refine Ext.draws ?_) | (with_reducible refine Ext.allocs ?_ _) | (with_reducible refine Ext.sets ?_ ?_ _) | (with_reducible exact Nat.le_refl _) | (exact (by simp)) | (exact (by simp; omega))))
  subst e
  by_cases e : o1 = o2
  case neg =>
    skip
    obtain rfl : t = false := by rw [← ht.out]; unfold sameHd; simp [e]
    have q : (o1 == o2) = false := by simpa using e
    clear ht
    go_enter Try.func24, Try.ntmps24
    go_wp2_with fail
    go_ret
    refine ⟨rfl, ?_⟩
    (repeat (first | (with_reducible exact Ext.refl _) | (with_reducible assumption) | (with_reducible refine Ext.draws ?_) | (with_reducible refine Ext.allocs ?_ _) | (with_reducible refine Ext.sets ?_ ?_ _) | (with_reducible exact Nat.le_refl _) | (exact (by simp)) | (exact (by simp; omega))))
  subst e
  by_cases e : u1 = u2
  case neg =>
    skip
    obtain rfl : t = false := by rw [← ht.out]; unfold sameHd; simp [e]
    have q : (u1 == u2) = false := by simpa using e
    clear ht
    go_enter Try.func24, Try.ntmps24
    go_wp2_with fail
    go_ret
    refine ⟨rfl, ?_⟩
    (repeat (first | (with_reducible exact Ext.refl _) | (with_reducible assumption) | (with_reducible refine Ext.draws ?_) | (with_reducible refine Ext.allocs ?_ _) | (with_reducible refine Ext.sets ?_ ?_ _) | (with_reducible exact Nat.le_refl _) | (exact (by simp)) | (exact (by simp; omega))))
  subst e
  by_cases e : c1 = c2
  case neg =>
    skip
    obtain rfl : t = false := by rw [← ht.out]; unfold sameHd; simp [e]
    have q : (c1 == c2) = false := by simpa using e
    clear ht
    go_enter Try.func24, Try.ntmps24
    go_wp2_with fail
    go_ret
    refine ⟨rfl, ?_⟩
    (repeat (first | (with_reducible exact Ext.refl _) | (with_reducible assumption) | (with_reducible refine Ext.draws ?_) | (with_reducible refine Ext.allocs ?_ _) | (with_reducible refine Ext.sets ?_ ?_ _) | (with_reducible exact Nat.le_refl _) | (exact (by simp)) | (exact (by simp; omega))))
  subst e
  by_cases e : n1 = n2
  case neg =>
    skip
    obtain rfl : t = false := by rw [← ht.out]; unfold sameHd; simp [e]
    have q : (n1 == n2) = false := by simpa using e
    clear ht
    go_enter Try.func24, Try.ntmps24
    go_wp2_with fail
    go_ret
    refine ⟨rfl, ?_⟩
    (repeat (first | (with_reducible exact Ext.refl _) | (with_reducible assumption) | (with_reducible refine Ext.draws ?_) | (with_reducible refine Ext.allocs ?_ _) | (with_reducible refine Ext.sets ?_ ?_ _) | (with_reducible exact Nat.le_refl _) | (exact (by simp)) | (exact (by simp; omega))))
  subst e
  by_cases e : q1 = q2
  case neg =>
    skip
    obtain rfl : t = false := by rw [← ht.out]; unfold sameHd; simp [e]
    have q : (q1 == q2) = false := by simpa using e
    clear ht
    go_enter Try.func24, Try.ntmps24
    go_wp2_with fail
    go_ret
    refine ⟨rfl, ?_⟩
    (repeat (first | (with_reducible exact Ext.refl _) | (with_reducible assumption) | (with_reducible refine Ext.draws ?_) | (with_reducible refine Ext.allocs ?_ _) | (with_reducible refine Ext.sets ?_ ?_ _) | (with_reducible exact Nat.le_refl _) | (exact (by simp)) | (exact (by simp; omega))))
  subst e
  have hb : Hid (sameMk m1 m2 = t) := by
    unfold Hid
    rw [← ht.out]
    unfold sameMk sameHd
    simp
  clear ht
  have gx : Ext w ((w.alloc (.cells #[.int .i64 s1, .int .i64 o1, .int .i64 u1, .int .i64 c1, .int .i64 n1, .int .i64 q1, .slice A n c] THd)).alloc (.cells #[.int .i64 s1, .int .i64 o1, .int .i64 u1, .int .i64 c1, .int .i64 n1, .int .i64 q1, .slice A' n' c'] THd)) := (Ext.alloc _ _).allocs _
  go_enter Try.func24, Try.ntmps24
  go_wp2_with fail
  refine (ref_SameMarks (l1.ext mk_rep gx) (l2.ext mk_rep gx) hb).mono ?_
  rintro e w1 ⟨rfl, hx1⟩
  go_wp2_with fail
  go_ret
  exact ⟨rfl, gx.trans hx1⟩
end Go.Proofs.Ytoeknbogaclfdaa
