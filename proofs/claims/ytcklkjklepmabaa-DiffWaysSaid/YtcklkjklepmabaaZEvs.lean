/-
  Lists of events: how they read; contracts of hectographkeep's Few and Small.
-/
import Derived.Test.YtcklkjklepmabaaZCore
import Derived.Test.YtcklkjklepmabaaZEvRight
namespace Go.Proofs.Ytcklkjklepmabaa
open Go.RowKit
set_option linter.unusedVariables false
set_option linter.unusedSimpArgs false
set_option linter.unnecessarySimpa false
set_option maxRecDepth 100000

structure Ev where
  k : Int
  o : Int
  m : Int
  l : List UInt8
  s : ByteArray
  deriving DecidableEq
def evR (x : Ev) (cs : List Value) (w : World) : Prop := ∃ A n c, cs = [.int .i64 x.k, .int .i64 x.o, .int .i64 x.m, .slice A n c, .string x.s] ∧ Sl w A n c x.l ∧ x.s.size ≤ maxLen
theorem pts_ev {k o m : Int} {s : ByteArray} {A : Option Addr} {n c j : Nat} (h : Pts [.int .i64 k, .int .i64 o, .int .i64 m, .slice A n c, .string s] j) : ∃ ad, A = some ad ∧ 0 < n ∧ ad.block = j :=
  pts_slice h (by intro ad m c' hm; simp at hm; exact ⟨hm.1.symm, hm.2.1⟩)
theorem ev_rep : Rep 5 evR where
  len := by rintro x cs w ⟨A, n, c, rfl, _⟩; rfl
  one := by
    rintro x cs w ⟨A, n, c, rfl, _⟩ u hu
    simp at hu
    rcases hu with rfl | rfl | rfl | rfl | rfl <;> rfl
  keep := by
    rintro x cs w w' ⟨A, n, c, rfl, hs, hz⟩ hk
    exact ⟨A, n, c, rfl, hs.keepBlk fun ad e hn => hk _ ⟨ad, n, c, by simp [e], hn, rfl⟩, hz⟩
  lt := by
    rintro x cs w ⟨A, n, c, rfl, hs, _⟩ k hp
    obtain ⟨ad, e, hn, rfl⟩ := pts_ev hp
    exact hs.blk ad e hn
abbrev TEv : TypeId := 28
theorem info_ev : (Try.prog.info? TEv).map (fun i => (i.zero, i.size, i.bytes)) = some (some (.agg #[.int .i64 0, .int .i64 0, .int .i64 0, .slice none 0 0, .string ⟨#[]⟩]), 5, 64) := by kernel_rfl
theorem under_evs : Try.prog.underlying 23 = some (.slice TEv) := by kernel_rfl
/-- the numbers of an event that came in -/
def evB (x : Ev) : Prop := (-9223372036854775808 ≤ x.k ∧ x.k ≤ 9223372036854775807) ∧ (-9223372036854775808 ≤ x.o ∧ x.o ≤ 9223372036854775807) ∧ (-9223372036854775808 ≤ x.m ∧ x.m ≤ 9223372036854775807)
def fewE (n : Nat) (s : ByteArray) : Bool := decide (n ≤ 100 ∧ s.size ≤ 40)
theorem keep_Few {k o m : Int} {A : Option Addr} {n c : Nat} {l : List UInt8} {s : ByteArray} {w : World} (hsl : Sl w A n c l) (hs : s.size ≤ maxLen) {r : Bool} (hr : Hid (fewE n s = r)) :
    Calls Try.prog 61 #[evV k o m A n c s] w fun e w' => e = .returned (.bool r) ∧ Ext w w' := by
  have h63 := hsl.n63
  have c0 := cell_new w #[.int .i64 k, .int .i64 o, .int .i64 m, .slice A n c, .string s] 28 4
  by_cases h1 : n ≤ 100
  · by_cases h2 : s.size ≤ 40
    · obtain rfl : r = true := by rw [← hr.out]; simp [fewE, h1, h2]
      clear hr
      have q1 : decide ((n : Int) ≤ 100) = true := by simp; omega
      have q2 : decide ((s.size : Int) ≤ 40) = true := by simp; omega
      go_enter Try.func61, Try.ntmps61
      go_wp2_with fail
      go_ret
      exact ⟨rfl, Ext.alloc _ _⟩
    · obtain rfl : r = false := by rw [← hr.out]; simp [fewE, h2]
      clear hr
      have q1 : decide ((n : Int) ≤ 100) = true := by simp; omega
      have q2 : decide ((s.size : Int) ≤ 40) = false := by simp; omega
      go_enter Try.func61, Try.ntmps61
      go_wp2_with fail
      go_ret
      exact ⟨rfl, Ext.alloc _ _⟩
  · obtain rfl : r = false := by rw [← hr.out]; simp [fewE, h1]
    clear hr
    have q1 : decide ((n : Int) ≤ 100) = false := by simp; omega
    go_enter Try.func61, Try.ntmps61
    go_wp2_with fail
    go_ret
    exact ⟨rfl, Ext.alloc _ _⟩
def smallB (xs : List Ev) (m : Nat) : Bool := decide ((∀ x ∈ xs, fewE x.l.length x.s = true) ∧ xs.length ≤ m)
theorem small_no {xs : List Ev} {m k : Nat} {x : Ev} (hx : xs[k]? = some x) (h : fewE x.l.length x.s = false) : smallB xs m = false := by
  unfold smallB
  rw [decide_eq_false_iff_not]
  intro hc
  have := hc.1 x (List.mem_of_getElem? hx)
  rw [h] at this
  cases this
theorem small_step {xs : List Ev} {k : Nat} {x : Ev} (hx : xs[k]? = some x) (h : fewE x.l.length x.s = true) (ht : ∀ y ∈ xs.take k, fewE y.l.length y.s = true) : ∀ y ∈ xs.take (k + 1), fewE y.l.length y.s = true := by
  intro y hy
  rw [List.take_add_one, hx] at hy
  rcases List.mem_append.1 hy with hy | hy
  · exact ht y hy
  · simp at hy; subst hy; exact h
set_option maxHeartbeats 1000000 in
theorem keep_Small {A : Option Addr} {n c : Nat} {xs : List Ev} {w : World} {m : Nat} (l1 : Lst 5 evR w A n c xs) (hm : m ≤ 1000) {r : Bool} (hr : Hid (smallB xs m = r)) :
    Calls Try.prog 24 #[.slice A n c, .int .i64 m] w fun e w' => e = .returned (.bool r) ∧ Ext w w' := by
  have h63 := l1.n63
  go_enter Try.func24, Try.ntmps24
  go_wp2_with fail
  go_loopw [5] (fun i wr => ∃ k : Nat, k ≤ n ∧ i = .int .i64 k ∧ Hid (∀ y ∈ xs.take k, fewE y.l.length y.s = true) ∧ Ext w wr) (fun i _ => n - (intOf i).toNat)
  case atStart => exact ⟨0, by omega, rfl, (by unfold Hid; simp), Ext.refl _⟩
  case round =>
    obtain ⟨k, hk, rfl, hrk, hxr⟩ := hrel
    by_cases hlt : k < n
    · obtain ⟨ga, oa, x, cs, rfl, hx, ⟨Aa, na, ca, rfl, sa0, hs⟩, ha⟩ := l1.at2 ev_rep (by omega) hlt
      have a0 : wr.cell? ⟨ga, oa + k * 5, none⟩ = _ := hxr.cell (ha 0 _ rfl)
      have a1 := hxr.cell (ha 1 _ rfl)
      have a2 := hxr.cell (ha 2 _ rfl)
      have a3 := hxr.cell (ha 3 _ rfl)
      have a4 := hxr.cell (ha 4 _ rfl)
      have sa := sa0.ext hxr
      have hna := sa0.len
      have hn63 := sa0.n63
      obtain ⟨f, hf⟩ : ∃ q, fewE na x.s = q := ⟨_, rfl⟩
      have HF := Lib.hid hf
      cases f with
      | true =>
        have HN := Lib.hid (small_step hx (by rw [hna]; exact hf) hrk.out)
        obtain ⟨xk, xo, xm, xl, xs'⟩ := x
        simp only at a0 a1 a2 a3 a4 hs HF sa
        clear ha hx hrk hna sa0 hf
        go_wp2_with fail
        refine (keep_Few sa hs HF).mono ?_
        rintro e w2 ⟨rfl, hx2⟩
        go_wp2_with fail
        go_roundw
        case rel => exact ⟨k + 1, by omega, by go_num, HN, hxr.trans hx2⟩
        case measure => simp [intOf]; omega
      | false =>
        obtain rfl : r = false := by rw [← hr.out]; exact small_no hx (by rw [hna]; exact hf)
        obtain ⟨xk, xo, xm, xl, xs'⟩ := x
        simp only at a0 a1 a2 a3 a4 hs HF sa
        clear ha hx hrk hna sa0 hf
        go_wp2_with fail
        refine (keep_Few sa hs HF).mono ?_
        rintro e w2 ⟨rfl, hx2⟩
        go_wp2_with fail
        go_ret
        exact ⟨rfl, hxr.trans hx2⟩
    · have hall := hrk.out
      rw [List.take_of_length_le (by rw [l1.len]; omega)] at hall
      have hrq : r = decide (n ≤ m) := by
        rw [← hr.out]
        unfold smallB
        rw [decide_eq_decide, l1.len]
        exact ⟨fun h => h.2, fun h => ⟨hall, h⟩⟩
      clear hr hrk hall
      by_cases h40 : n ≤ m
      · obtain rfl : r = true := by rw [hrq]; simpa using h40
        clear hrq
        have q40 : decide ((n : Int) ≤ (m : Int)) = true := by simp; omega
        go_wp2_with fail
        go_ret
        exact ⟨rfl, hxr⟩
      · obtain rfl : r = false := by rw [hrq]; simpa using h40
        clear hrq
        have q40 : decide ((n : Int) ≤ (m : Int)) = false := by simp; omega
        go_wp2_with fail
        go_ret
        exact ⟨rfl, hxr⟩
end Go.Proofs.Ytcklkjklepmabaa
