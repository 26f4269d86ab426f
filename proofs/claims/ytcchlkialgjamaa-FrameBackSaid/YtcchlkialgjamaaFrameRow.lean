/-
  Chapter 4: the statements' own 'row'.
-/
import Derived.Test.YtcchlkialgjamaaFrameAll
import Derived.Test.YtcchlkialgjamaaFrameLaws
import Derived.Test.YtcchlkialgjamaaSameEn
namespace Go.Proofs.Ytcchlkialgjamaa
open Go.RowKit
set_option linter.unusedVariables false
set_option linter.unusedSimpArgs false
set_option linter.unnecessarySimpa false
set_option maxRecDepth 100000

def layOf (x : En) : List UInt8 := layL x.t x.s x.d.length x.d
def rowL (xs : List En) : List UInt8 := (xs.map layOf).flatten
theorem layL_len (t s : Int) (n : Nat) (l : List UInt8) (h : l.length = n) : (layL t s n l).length ≤ 112 := by
  unfold layL
  split
  · rename_i hr
    have := rightN_iff.1 hr
    rw [layE_length]
    omega
  · simp
theorem rowL_next {xs : List En} {k : Nat} {x : En} (hx : xs[k]? = some x) : rowL (xs.take (k + 1)) = rowL (xs.take k) ++ layOf x := by
  unfold rowL
  rw [List.take_add_one, hx]
  simp
theorem rowL_len (xs : List En) : (rowL xs).length ≤ xs.length * 112 := by
  induction xs with
  | nil => simp [rowL]
  | cons x xs ih =>
    have := layL_len x.t x.s x.d.length x.d rfl
    unfold rowL at ih ⊢
    simp only [List.map_cons, List.flatten_cons, List.length_append, List.length_cons]
    unfold layOf at *
    omega

set_option maxHeartbeats 1000000 in
theorem law4_row {A : Option Addr} {n c : Nat} {xs : List En} {w : World} (h : Lst 3 enR w A n c xs) (hn : n ≤ 12) {F : List UInt8} (hF : Hid (rowL xs = F)) :
    Calls Try.prog 25 #[.slice A n c] w fun e w' => ∃ A' n' c', e = .returned (.slice A' n' c') ∧ Byt U8 w' w.heap.size A' n' c' F ∧ Ext w w' := by
  have h63 := h.n63
  obtain ⟨i0, hi0, hz0, hz1, hz2⟩ := info_parts info_u8
  go_enter Try.func25, Try.ntmps25
  go_wp2_with fail
  go_loopw [3, 4] (fun v i wr => ∃ (k : Nat) (Ak : Option Addr) (m ck : Nat) (G : List UInt8), k ≤ n ∧ m ≤ k * 112 ∧ i = .int .i64 k ∧ v = .slice Ak m ck ∧ Byt U8 wr w.heap.size Ak m ck G ∧ Hid (rowL (xs.take k) = G) ∧ Ext w wr) (fun _ i _ => n - (intOf i).toNat)
  case atStart => exact ⟨0, none, 0, 0, [], by omega, by omega, rfl, rfl, ⟨rfl, Own.nil _ _ _ _ _⟩, rfl, Ext.refl _⟩
  case round =>
    obtain ⟨k, Ak, m, ck, G, hk, hm, rfl, rfl, hbk, hG, hxr⟩ := hrel
    by_cases hlt : k < n
    · obtain ⟨ga, oa, x, cs, rfl, hx, ⟨Aa, na, ca, rfl, sa0⟩, ha⟩ := h.at2 en_rep (by omega) hlt
      have a0 : wr.cell? ⟨ga, oa + k * 3, none⟩ = _ := hxr.cell (ha 0 _ rfl)
      have a1 := hxr.cell (ha 1 _ rfl)
      have a2 := hxr.cell (ha 2 _ rfl)
      have sa := sa0.ext hxr
      obtain ⟨xt, xs', xd⟩ := x
      have hnx := rowL_next hx
      simp only at a0 a1 a2 sa
      have hxl := sa.len
      obtain ⟨r, hr⟩ : ∃ q, rightN xt xs' na = q := ⟨_, rfl⟩
      obtain ⟨L, hL⟩ : ∃ q, layL xt xs' na xd = q := ⟨_, rfl⟩
      have hLl := layL_len xt xs' na xd hxl
      unfold layOf at hnx
      simp only at hnx
      rw [hxl, hL, hG.out] at hnx
      rw [hL] at hLl
      obtain ⟨ev, hev⟩ : ∃ q : Int, (if r = true then (0 : Int) else 1) = q := ⟨_, rfl⟩
      have HEV := Lib.hid hev
      have HR := Lib.hid hr
      have HL := Lib.hid hL
      have HNX := Lib.hid hnx
      have HLL := Lib.hid hLl
      clear hr hL hev hnx hx ha sa0 hG hLl hxl
      go_wp2_with fail
      refine (ref_Lay sa HR HL).mono ?_
      rintro e w2 ⟨A2, n2, c2, rfl, hb2, hx2⟩
      rw [HEV.out]
      have hLn := HLL.out
      rw [hb2.len] at hLn
      have hbk2 := hbk.ext hx2
      have hb2 := hb2.sl
      have hxw := hxr.trans hx2
      have hxs := hxw.size
      clear a0 a1 a2
      go_wp2_with (at_builtin; refine wpList_append_mine _ rfl _ _ _ _ rfl w.heap.size U8 i0 _ 1 1 under_bytes hi0 hz0 hz1 hz2 rfl Ak m ck _ rfl hbk2.own _ rfl n2 (L.map bv) (hb2.src under_bytes) (by simp only [maxLen]; omega) (by omega) hxs ?_; intro A3 c3 w3 hown3 hg3 _)
      have hb3 : Byt U8 w3 w.heap.size A3 (m + n2) c3 (G ++ L) := Byt.more hbk2.len hb2.len hown3 rfl
      have hx3 : Ext w w3 := below_grown hxw hbk2.own hg3 hxs
      go_wp2_with fail
      go_roundw
      case rel => exact ⟨k + 1, A3, m + n2, c3, G ++ L, by omega, by omega, by go_num, rfl, hb3, HNX, hx3⟩
      case measure => simp [intOf]; omega
    · obtain rfl : k = n := by omega
      have e : G = F := by rw [← hG.out, ← hF.out, List.take_of_length_le (by rw [h.len]; exact Nat.le_refl _)]
      subst e
      go_wp2_with fail
      go_ret
      exact ⟨_, _, _, rfl, hbk, hxr⟩
end Go.Proofs.Ytcchlkialgjamaa
