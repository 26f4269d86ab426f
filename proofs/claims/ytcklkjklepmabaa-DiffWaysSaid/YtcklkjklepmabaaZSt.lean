/-
  Images with snapshots: how they read; contracts of New, find, Check of both texts.
-/
import Derived.Test.YtcklkjklepmabaaZCore
import Derived.Test.YtcklkjklepmabaaZEvs
import Derived.Test.YtcklkjklepmabaaZEvSpan
namespace Go.Proofs.Ytcklkjklepmabaa
open Go.RowKit
set_option linter.unusedVariables false
set_option linter.unusedSimpArgs false
set_option linter.unnecessarySimpa false
set_option maxRecDepth 100000

/-- a snapshot -/
structure Ol where
  nm : ByteArray
  d : List UInt8
  deriving DecidableEq
def olR (x : Ol) (cs : List Value) (w : World) : Prop := ∃ A n c, cs = [.string x.nm, .slice A n c] ∧ Sl w A n c x.d ∧ x.nm.size ≤ maxLen
theorem pts_ol {s : ByteArray} {A : Option Addr} {n c j : Nat} (h : Pts [.string s, .slice A n c] j) : ∃ ad, A = some ad ∧ 0 < n ∧ ad.block = j :=
  pts_slice h (by intro ad m c' hm; simp at hm; exact ⟨hm.1.symm, hm.2.1⟩)
theorem ol_rep : Rep 2 olR where
  len := by rintro x cs w ⟨A, n, c, rfl, _⟩; rfl
  one := by
    rintro x cs w ⟨A, n, c, rfl, _⟩ u hu
    simp at hu
    rcases hu with rfl | rfl <;> rfl
  keep := by
    rintro x cs w w' ⟨A, n, c, rfl, hs, hz⟩ hk
    exact ⟨A, n, c, rfl, hs.keepBlk fun ad e hn => hk _ ⟨ad, n, c, by simp [e], hn, rfl⟩, hz⟩
  lt := by
    rintro x cs w ⟨A, n, c, rfl, hs, _⟩ k hp
    obtain ⟨ad, e, hn, rfl⟩ := pts_ol hp
    exact hs.blk ad e hn
abbrev TOl : TypeId := 42
theorem info_ol : (Try.prog.info? TOl).map (fun i => (i.zero, i.size, i.bytes)) = some (some (.agg #[.string ⟨#[]⟩, .slice none 0 0]), 2, 40) := by kernel_rfl
theorem under_ols : Try.prog.underlying 33 = some (.slice TOl) := by kernel_rfl
/-- an image with snapshots -/
structure St where
  d : List UInt8
  sn : List Ol
  deriving DecidableEq
abbrev TSt : TypeId := 35
abbrev stV (A : Option Addr) (n c : Nat) (A2 : Option Addr) (n2 c2 : Nat) : Value := .agg #[.slice A n c, .slice A2 n2 c2]
def StR (w : World) (A : Option Addr) (n c : Nat) (A2 : Option Addr) (n2 c2 : Nat) (s : St) : Prop := Sl w A n c s.d ∧ Lst 2 olR w A2 n2 c2 s.sn
theorem StR.ext {w w' : World} {A : Option Addr} {n c : Nat} {A2 : Option Addr} {n2 c2 : Nat} {s : St} (h : StR w A n c A2 n2 c2 s) (hx : Ext w w') : StR w' A n c A2 n2 c2 s := ⟨h.1.ext hx, h.2.ext ol_rep hx⟩
theorem StR.nil (w : World) : StR w none 0 0 none 0 0 ⟨[], []⟩ := ⟨Sl.nil w, Lst.nil w⟩

/-- where a name stands, from a place on -/
def findF : List Ol → ByteArray → Nat → Int
  | [], _, _ => -1
  | x :: xs, s, k => if x.nm = s then (k : Int) else findF xs s (k + 1)
def findI (xs : List Ol) (s : ByteArray) : Int := findF xs s 0
theorem drop_stepO {α : Type} {xs : List α} {k : Nat} {x : α} (hx : xs[k]? = some x) : xs.drop k = x :: xs.drop (k + 1) := by
  obtain ⟨h, rfl⟩ := List.getElem?_eq_some_iff.1 hx
  exact List.drop_eq_getElem_cons h
theorem find_yes {xs : List Ol} {s : ByteArray} {k : Nat} {x : Ol} {r : Int} (h : findF (xs.drop k) s k = r) (hx : xs[k]? = some x) (e : x.nm = s) : (k : Int) = r := by
  rw [drop_stepO hx, findF, if_pos e] at h; exact h
theorem find_no {xs : List Ol} {s : ByteArray} {k : Nat} {x : Ol} {r : Int} (h : findF (xs.drop k) s k = r) (hx : xs[k]? = some x) (e : ¬ x.nm = s) : findF (xs.drop (k + 1)) s (k + 1) = r := by
  rw [drop_stepO hx, findF, if_neg e] at h; exact h
theorem find_end {xs : List Ol} {s : ByteArray} {k : Nat} {r : Int} (h : findF (xs.drop k) s k = r) (hk : xs.length ≤ k) : -1 = r := by
  rw [List.drop_of_length_le hk, findF] at h; exact h
theorem bs_ne {s t : ByteArray} (h : ¬ s = t) : (s.toList == t.toList) = false := by
  rw [beq_eq_false_iff_ne]
  intro e
  rw [ByteArray.toList_eq, ByteArray.toList_eq] at e
  apply h
  obtain ⟨s⟩ := s
  obtain ⟨t⟩ := t
  simp_all
set_option maxHeartbeats 1000000 in
theorem model_find {A : Option Addr} {n c : Nat} {A2 : Option Addr} {n2 c2 : Nat} {st : St} {nm : ByteArray} {w : World} (h : StR w A n c A2 n2 c2 st) {r : Int} (hr : Hid (findI st.sn nm = r)) :
    Calls Try.prog 73 #[stV A n c A2 n2 c2, .string nm] w fun e w' => e = .returned (.int .i64 r) ∧ Ext w w' := by
  obtain ⟨h1, h2⟩ := h
  have h63 := h2.n63
  have b0 := cell_new w #[.slice A n c, .slice A2 n2 c2] 35 0
  have b1 := cell_new w #[.slice A n c, .slice A2 n2 c2] 35 1
  go_enter Try.func73, Try.ntmps73
  go_wp2_with fail
  go_loopw [10] (fun i wr => ∃ k : Nat, k ≤ n2 ∧ i = .int .i64 k ∧ Hid (findF (st.sn.drop k) nm k = r) ∧ Ext (w.alloc (.cells #[.slice A n c, .slice A2 n2 c2] 35)) wr) (fun i _ => n2 - (intOf i).toNat)
  case atStart => exact ⟨0, by omega, rfl, hr, Ext.refl _⟩
  case round =>
    obtain ⟨k, hk, rfl, hrk, hxr⟩ := hrel
    clear hr
    replace b1 := hxr.cell b1
    by_cases hlt : k < n2
    · obtain ⟨ga, oa, x, cs, rfl, hx, ⟨Aa, na, ca, rfl, sa0, hs⟩, ha⟩ := h2.at2 ol_rep (by omega) hlt
      have hx0 := (Ext.alloc w (.cells #[.slice A n c, .slice (some ⟨ga, oa, none⟩) n2 c2] 35)).trans hxr
      have a0 : wr.cell? ⟨ga, oa + k * 2, none⟩ = _ := hx0.cell (ha 0 _ rfl)
      have a1 := hx0.cell (ha 1 _ rfl)
      by_cases e : x.nm = nm
      · have hk2 := find_yes hrk.out hx e
        subst hk2
        have q1 : (x.nm.toList == nm.toList) = true := by rw [e]; simp
        obtain ⟨xn, xd⟩ := x
        simp only at a0 a1 q1
        clear ha hx hrk sa0 e
        go_wp2_with fail
        go_ret
        exact ⟨rfl, hx0.trans (Ext.alloc _ _)⟩
      · have HN := Lib.hid (find_no hrk.out hx e)
        have q1 : (x.nm.toList == nm.toList) = false := bs_ne e
        obtain ⟨xn, xd⟩ := x
        simp only at a0 a1 q1
        clear ha hx hrk sa0 e hx0
        go_wp2_with fail
        go_roundw
        case rel => exact ⟨k + 1, by omega, by go_num, HN, hxr.trans (Ext.alloc _ _)⟩
        case measure => simp [intOf]; omega
    · have hk2 := find_end hrk.out (by rw [h2.len]; omega)
      subst hk2
      clear hrk
      go_wp2_with fail
      go_ret
      exact ⟨rfl, (Ext.alloc _ _).trans hxr⟩
set_option maxHeartbeats 1000000 in
theorem ref_Find {A : Option Addr} {n c : Nat} {A2 : Option Addr} {n2 c2 : Nat} {st : St} {nm : ByteArray} {w : World} (h : StR w A n c A2 n2 c2 st) {r : Int} (hr : Hid (findI st.sn nm = r)) :
    Calls Try.prog 78 #[stV A n c A2 n2 c2, .string nm] w fun e w' => e = .returned (.int .i64 r) ∧ Ext w w' := by
  obtain ⟨h1, h2⟩ := h
  have h63 := h2.n63
  have b0 := cell_new w #[.slice A n c, .slice A2 n2 c2] 35 0
  have b1 := cell_new w #[.slice A n c, .slice A2 n2 c2] 35 1
  go_enter Try.func78, Try.ntmps78
  go_wp2_with fail
  go_loopw [5] (fun i wr => ∃ k : Nat, k ≤ n2 ∧ i = .int .i64 k ∧ Hid (findF (st.sn.drop k) nm k = r) ∧ Ext (w.alloc (.cells #[.slice A n c, .slice A2 n2 c2] 35)) wr) (fun i _ => n2 - (intOf i).toNat)
  case atStart => exact ⟨0, by omega, rfl, hr, Ext.refl _⟩
  case round =>
    obtain ⟨k, hk, rfl, hrk, hxr⟩ := hrel
    clear hr
    replace b1 := hxr.cell b1
    by_cases hlt : k < n2
    · obtain ⟨ga, oa, x, cs, rfl, hx, ⟨Aa, na, ca, rfl, sa0, hs⟩, ha⟩ := h2.at2 ol_rep (by omega) hlt
      have hx0 := (Ext.alloc w (.cells #[.slice A n c, .slice (some ⟨ga, oa, none⟩) n2 c2] 35)).trans hxr
      have a0 : wr.cell? ⟨ga, oa + k * 2, none⟩ = _ := hx0.cell (ha 0 _ rfl)
      have a1 := hx0.cell (ha 1 _ rfl)
      by_cases e : x.nm = nm
      · have hk2 := find_yes hrk.out hx e
        subst hk2
        have q1 : (x.nm.toList == nm.toList) = true := by rw [e]; simp
        obtain ⟨xn, xd⟩ := x
        simp only at a0 a1 q1
        clear ha hx hrk sa0 e
        go_wp2_with fail
        go_ret
        exact ⟨rfl, hx0⟩
      · have HN := Lib.hid (find_no hrk.out hx e)
        have q1 : (x.nm.toList == nm.toList) = false := bs_ne e
        obtain ⟨xn, xd⟩ := x
        simp only at a0 a1 q1
        clear ha hx hrk sa0 e hx0
        go_wp2_with fail
        go_roundw
        case rel => exact ⟨k + 1, by omega, by go_num, HN, hxr⟩
        case measure => simp [intOf]; omega
    · have hk2 := find_end hrk.out (by rw [h2.len]; omega)
      subst hk2
      clear hrk
      go_wp2_with fail
      go_ret
      exact ⟨rfl, (Ext.alloc _ _).trans hxr⟩
end Go.Proofs.Ytcklkjklepmabaa
