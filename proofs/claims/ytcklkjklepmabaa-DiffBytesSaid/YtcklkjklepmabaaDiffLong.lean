/-
  How long events are: contracts of the program's Long and of the reference's.
-/
import Derived.Test.YtcklkjklepmabaaEvs
import Derived.Test.YtcklkjklepmabaaEvPutRef
import Derived.Test.YtcklkjklepmabaaCut
namespace Go.Proofs.Ytcklkjklepmabaa
open Go.RowKit
set_option linter.unusedVariables false
set_option linter.unusedSimpArgs false
set_option linter.unnecessarySimpa false
set_option maxRecDepth 100000

def bytX (x : Ev) : List UInt8 := if rightE x.k x.o x.m x.l.length x.s then putE x.k x.o x.m x.l x.s else []
def longN (xs : List Ev) : Nat := (xs.map fun x => (bytX x).length).sum
theorem bytX_le (x : Ev) : (bytX x).length ≤ 90 := by
  unfold bytX
  split
  · rename_i h; exact (put_len h).2
  · simp
theorem long_step {xs : List Ev} {k : Nat} {x : Ev} (hx : xs[k]? = some x) : longN (xs.take (k + 1)) = longN (xs.take k) + (bytX x).length := by
  unfold longN
  rw [List.take_add_one, hx]
  simp
set_option maxHeartbeats 1000000 in
theorem diff_Long {A : Option Addr} {n c : Nat} {xs : List Ev} {w : World} (l1 : Lst 5 evR w A n c xs) (hn : n ≤ 1000) {r : Nat} (hr : Hid (longN xs = r)) :
    Calls Try.prog 31 #[.slice A n c] w fun e w' => e = .returned (.int .i64 r) ∧ Ext w w' := by
  have h63 := l1.n63
  go_enter Try.func31, Try.ntmps31
  go_wp2_with fail
  go_loopw [3, 10] (fun v i wr => ∃ k m : Nat, k ≤ n ∧ m ≤ k * 90 ∧ v = .int .i64 m ∧ i = .int .i64 k ∧ Hid (longN (xs.take k) = m) ∧ Ext w wr) (fun _ i _ => n - (intOf i).toNat)
  case atStart => exact ⟨0, 0, by omega, by omega, rfl, rfl, rfl, Ext.refl _⟩
  case round =>
    obtain ⟨k, m, hk, hm, rfl, rfl, hrk, hxr⟩ := hrel
    by_cases hlt : k < n
    · obtain ⟨ga, oa, x, cs, rfl, hx, ⟨Aa, na, ca, rfl, sa0, hs⟩, ha⟩ := l1.at2 ev_rep (by omega) hlt
      have a0 : wr.cell? ⟨ga, oa + k * 5, none⟩ = _ := hxr.cell (ha 0 _ rfl)
      have a1 := hxr.cell (ha 1 _ rfl)
      have a2 := hxr.cell (ha 2 _ rfl)
      have a3 := hxr.cell (ha 3 _ rfl)
      have a4 := hxr.cell (ha 4 _ rfl)
      have sa := sa0.ext hxr
      have hna := sa0.len
      have hst := long_step hx
      rw [hrk.out] at hst
      have hbl := bytX_le x
      obtain ⟨b, hb⟩ : ∃ q, rightE x.k x.o x.m na x.s = q := ⟨_, rfl⟩
      obtain ⟨L, hL⟩ : ∃ q, (if b = true then putE x.k x.o x.m x.l x.s else []) = q := ⟨_, rfl⟩
      have hbL : bytX x = L := by unfold bytX; rw [hna, hb]; exact hL
      rw [hbL] at hst hbl
      have HB := Lib.hid hb
      have HL := Lib.hid hL
      obtain ⟨er, her⟩ : ∃ q : Int, (if b = true then (0 : Int) else 1) = q := ⟨_, rfl⟩
      have HER := Lib.hid her
      obtain ⟨ln, hln⟩ : ∃ q, L.length = q := ⟨_, rfl⟩
      rw [hln] at hst hbl
      have HST := Lib.hid hst
      have HLN := Lib.hid hln
      obtain ⟨xk, xo, xm, xl, xs'⟩ := x
      simp only at a0 a1 a2 a3 a4 hs HB HL sa
      clear ha hx hrk hna sa0 hr hb hL hbL her hst hln
      go_wp2_with fail
      refine (event_Put xk xo xm Aa na ca xl xs' _ (sa.ext (Ext.alloc _ _)) hs HB HL).mono ?_
      rintro e1 w2 ⟨A2, n2, c2, rfl, hb2, hx2⟩
      rw [HER.out]
      obtain rfl : ln = n2 := by rw [← HLN.out]; exact hb2.len
      go_wp2_with fail
      go_roundw
      case rel => exact ⟨k + 1, m + ln, by omega, by omega, by go_num, by go_num, HST, (hxr.allocs _).trans hx2⟩
      case measure => simp [intOf]; omega
    · obtain rfl : m = r := by rw [← hrk.out, ← hr.out, List.take_of_length_le (by rw [l1.len]; omega)]
      clear hrk hr
      go_wp2_with fail
      go_ret
      exact ⟨rfl, hxr⟩
set_option maxHeartbeats 1000000 in
theorem ref14_Long {A : Option Addr} {n c : Nat} {xs : List Ev} {w : World} (l1 : Lst 5 evR w A n c xs) (hn : n ≤ 1000) {r : Nat} (hr : Hid (longN xs = r)) :
    Calls Try.prog 32 #[.slice A n c] w fun e w' => e = .returned (.int .i64 r) ∧ Ext w w' := by
  have h63 := l1.n63
  go_enter Try.func32, Try.ntmps32
  go_wp2_with fail
  go_loopw [3, 4] (fun v i wr => ∃ k m : Nat, k ≤ n ∧ m ≤ k * 90 ∧ v = .int .i64 m ∧ i = .int .i64 k ∧ Hid (longN (xs.take k) = m) ∧ Ext w wr) (fun _ i _ => n - (intOf i).toNat)
  case atStart => exact ⟨0, 0, by omega, by omega, rfl, rfl, rfl, Ext.refl _⟩
  case round =>
    obtain ⟨k, m, hk, hm, rfl, rfl, hrk, hxr⟩ := hrel
    by_cases hlt : k < n
    · obtain ⟨ga, oa, x, cs, rfl, hx, ⟨Aa, na, ca, rfl, sa0, hs⟩, ha⟩ := l1.at2 ev_rep (by omega) hlt
      have a0 : wr.cell? ⟨ga, oa + k * 5, none⟩ = _ := hxr.cell (ha 0 _ rfl)
      have a1 := hxr.cell (ha 1 _ rfl)
      have a2 := hxr.cell (ha 2 _ rfl)
      have a3 := hxr.cell (ha 3 _ rfl)
      have a4 := hxr.cell (ha 4 _ rfl)
      have sa := sa0.ext hxr
      have hna := sa0.len
      have hst := long_step hx
      rw [hrk.out] at hst
      have hbl := bytX_le x
      obtain ⟨b, hb⟩ : ∃ q, rightE x.k x.o x.m na x.s = q := ⟨_, rfl⟩
      obtain ⟨L, hL⟩ : ∃ q, (if b = true then putE x.k x.o x.m x.l x.s else []) = q := ⟨_, rfl⟩
      have hbL : bytX x = L := by unfold bytX; rw [hna, hb]; exact hL
      rw [hbL] at hst hbl
      have HB := Lib.hid hb
      have HL := Lib.hid hL
      obtain ⟨er, her⟩ : ∃ q : Int, (if b = true then (0 : Int) else 1) = q := ⟨_, rfl⟩
      have HER := Lib.hid her
      obtain ⟨ln, hln⟩ : ∃ q, L.length = q := ⟨_, rfl⟩
      rw [hln] at hst hbl
      have HST := Lib.hid hst
      have HLN := Lib.hid hln
      obtain ⟨xk, xo, xm, xl, xs'⟩ := x
      simp only at a0 a1 a2 a3 a4 hs HB HL sa
      clear ha hx hrk hna sa0 hr hb hL hbL her hst hln
      go_wp2_with fail
      refine (ref_PutEvent xk xo xm Aa na ca xl xs' _ (sa.ext (Ext.refl _)) hs HB HL).mono ?_
      rintro e1 w2 ⟨A2, n2, c2, rfl, hb2, hx2⟩
      rw [HER.out]
      obtain rfl : ln = n2 := by rw [← HLN.out]; exact hb2.len
      go_wp2_with fail
      go_roundw
      case rel => exact ⟨k + 1, m + ln, by omega, by omega, by go_num, by go_num, HST, hxr.trans hx2⟩
      case measure => simp [intOf]; omega
    · obtain rfl : m = r := by rw [← hrk.out, ← hr.out, List.take_of_length_le (by rw [l1.len]; omega)]
      clear hrk hr
      go_wp2_with fail
      go_ret
      exact ⟨rfl, hxr⟩
end Go.Proofs.Ytcklkjklepmabaa
