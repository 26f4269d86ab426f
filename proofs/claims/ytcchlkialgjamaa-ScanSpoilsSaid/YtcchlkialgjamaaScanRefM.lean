/-
  Chapter 11: contract of the reference's Merge.
-/
import Derived.Test.YtcchlkialgjamaaScanAll
import Derived.Test.YtcchlkialgjamaaScanMerge
namespace Go.Proofs.Ytcchlkialgjamaa
open Go.RowKit
set_option linter.unusedVariables false
set_option linter.unusedSimpArgs false
set_option linter.unnecessarySimpa false
set_option maxRecDepth 100000

/-- how far a search has come -/
def Sought (L : List En) (s : Int) (i : Nat) (fd : Bool) (es es2 : List En) : Prop := (fd = false ∧ es2 = es ∧ ∀ x ∈ L.take i, x.s ≠ s) ∨ (fd = true ∧ ∃ x, fstEn L s = some x ∧ es2 = es ++ [x])
theorem fstEn_at {L : List En} {s : Int} {i : Nat} {x : En} (h : ∀ y ∈ L.take i, y.s ≠ s) (hx : L[i]? = some x) (he : x.s = s) : fstEn L s = some x := by
  have e : L = L.take i ++ (x :: L.drop (i + 1)) := by
    obtain ⟨h1, rfl⟩ := List.getElem?_eq_some_iff.1 hx
    rw [← List.drop_eq_getElem_cons h1, List.take_append_drop]
  rw [e, fstEn_app]
  have : fstEn (L.take i) s = none := by
    unfold fstEn
    rw [List.find?_eq_none]
    intro y hy
    simpa using h y hy
  rw [this, Option.none_or]
  unfold fstEn
  rw [List.find?_cons]
  have : (x.s == s) = true := by simpa using he
  rw [this]
theorem sought_next {L : List En} {s : Int} {i : Nat} {es : List En} {x : En} (h : ∀ y ∈ L.take i, y.s ≠ s) (hx : L[i]? = some x) (he : x.s ≠ s) : Sought L s (i + 1) false es es := by
  refine .inl ⟨rfl, rfl, fun y hy => ?_⟩
  rw [List.take_add_one, hx] at hy
  rcases List.mem_append.1 hy with hy | hy
  · exact h y hy
  · simp at hy
    subst hy
    exact he

set_option maxHeartbeats 2000000 in
theorem ref10_Merge {A : Option Addr} {n c : Nat} {rows : List (List UInt8)} {s : Int} {w : World} (hl : Lst 1 blR w A n c rows) (hn : n ≤ 40) (hs : ShortF rows) (hs63 : s ≤ 9223372036854775807) :
    Calls Try.prog 34 #[.slice A n c, .int .i64 s] w fun e w' => ∃ A' n' c', e = .returned (.slice A' n' c') ∧ OwnL TEn 3 enR w' w.heap.size A' n' c' (mergeL rows s) ∧ Ext w w' := by
  have h63 := hl.n63
  by_cases hs1 : s < 1
  · have e : mergeL rows s = [] := by unfold mergeL; rw [if_pos hs1]
    rw [e]
    clear e
    go_enter Try.func34, Try.ntmps34
    go_wp2_with fail
    go_ret
    exact ⟨_, _, _, rfl, OwnL.nil _ _ _ _, Ext.refl _⟩
  obtain ⟨i0, hi0, hz0, hz1, hz2⟩ := info_parts info_en
  obtain ⟨res, hres⟩ : ∃ q, mergeL rows s = q := ⟨_, rfl⟩
  have HRES := Lib.hid hres
  rw [hres]
  clear hres
  go_enter Try.func34, Try.ntmps34
  go_wp2_with fail
  go_loopw [6, 7] (fun v i wr => ∃ (k m : Nat) (Ak : Option Addr) (ck : Nat) (L : List En), k ≤ n ∧ m ≤ k * 500 ∧ i = .int .i64 k ∧ v = .slice Ak m ck ∧ OwnL TEn 3 enR wr w.heap.size Ak m ck L ∧ Hid (frsOf (rows.take k) = L) ∧ Ext w wr) (fun _ i _ => n - (intOf i).toNat)
  case atStart => exact ⟨0, 0, none, 0, [], by omega, by omega, rfl, rfl, OwnL.nil _ _ _ _, rfl, Ext.refl _⟩
  case round =>
    obtain ⟨k, m, Ak, ck, L, hk, hm, rfl, rfl, hown, hL, hxr⟩ := hrel
    by_cases hlt : k < n
    · obtain ⟨ga, oa, r, Ar, nr, cr, rfl, hr, a0, hsl⟩ := row_at hl hlt
      have hnr0 : nr ≤ 10000 := by have := hs r (List.mem_of_getElem? hr); rw [hsl.len] at this; omega
      obtain ⟨ae, hae⟩ : ∃ q, enL (allL r).1 = q := ⟨_, rfl⟩
      have HNX : Hid (frsOf (rows.take (k + 1)) = L ++ ae) := by
        unfold Hid
        rw [frsOf_next hr, hL.out, hae]
      have hael : ae.length ≤ 500 := by have := (allL_facts r).2; rw [hae, hsl.len] at this; omega
      replace a0 := hxr.cell a0
      replace hsl := hsl.ext hxr
      have hall := ref_AllFramesH hsl (by omega)
      obtain ⟨a2, ha2⟩ : ∃ q, (allL r).2 = q := ⟨_, rfl⟩
      rw [hae, ha2] at hall
      clear hae ha2 hr hs hL
      go_wp2_with fail
      refine hall.mono ?_
      rintro e w2 ⟨A2, n2, c2, rfl, hown2, hx2⟩
      clear hall a0 hsl
      have hn2 : n2 ≤ 500 := by rw [← hown2.len]; exact hael
      have hrow := hown.row_lt
      have hfd : Feed Try.prog 3 enR w2 32 Ak ck (.slice A2 n2 c2) n2 ae := Feed.hi (fun g hg => (hrow g hg).2) hown2.lst under_ens
      have hb32 : (m + n2) * 40 ≤ 140737488355328 := by omega
      have hx3 := hxr.trans hx2
      have hown3 := hown.ext en_rep hx2
      clear hown2 hael hrow hown
      go_wp2_with (at_builtin; refine wpList_append_lst (w0 := w) en_rep rfl _ _ _ _ rfl TEn i0 _ 40 under_ens hi0 hz0 hz1 hz2 rfl Ak m ck _ rfl hown3 _ n2 ae rfl hfd (m + n2) rfl _ rfl (by simp only [maxLen]; omega) hb32 hx3 ?_; intro A3 c3 w3 hown4 hx4)
      go_wp2_with fail
      go_roundw
      case rel => exact ⟨k + 1, m + n2, A3, c3, _, by omega, by omega, by go_num, rfl, hown4, HNX, hx4⟩
      case measure => simp [intOf]; omega
    · obtain rfl : k = n := by omega
      have e := hL.out
      rw [List.take_of_length_le (by rw [hl.len]; exact Nat.le_refl _)] at e
      have HRL : Hid (res = goM L (L.length + 1) s) := by
        unfold Hid
        rw [← HRES.out, ← e]
        unfold mergeL
        rw [if_neg (by omega)]
      have HNUM : Hid (∀ x ∈ L, 1 ≤ x.s ∧ x.s ≤ 1099511627776) := by rw [← e]; exact frsOf_num
      clear e hL HRES hs hl
      obtain ⟨wL, rfl⟩ : ∃ q, q = wr := ⟨_, rfl⟩
      have hle := hown.lst
      have hlen := hown.len
      clear hown
      go_wp2_with fail
      go_loopw [5, 10] (fun v i wr => ∃ (j : Nat) (es : List En) (Aj : Option Addr) (cj : Nat), j ≤ m ∧ i = .int .i64 j ∧ v = .slice Aj j cj ∧ OwnL TEn 3 enR wr wL.heap.size Aj j cj es ∧ Hid (Gone L s j es) ∧ Ext wL wr) (fun _ i _ => m + 1 - (intOf i).toNat)
      case atStart => exact ⟨0, [], none, 0, by omega, rfl, rfl, OwnL.nil _ _ _ _, gone_zero L s, Ext.refl _⟩
      case round =>
        obtain ⟨j, es, Aj, cj, hj, rfl, rfl, hown, hgo, hxr2⟩ := hrel
        obtain ⟨wJ, rfl⟩ : ∃ q, q = wr := ⟨_, rfl⟩
        go_wp2_with fail
        go_loopw [5, 11, 12] (fun v fv i wr => ∃ (i2 m2 : Nat) (fd : Bool) (es2 : List En) (A2 : Option Addr) (c2 : Nat), i2 ≤ m ∧ m2 ≤ m + 1 ∧ i = .int .i64 i2 ∧ fv = .bool fd ∧ v = .slice A2 m2 c2 ∧ OwnL TEn 3 enR wr wL.heap.size A2 m2 c2 es2 ∧ Hid (Sought L (s + (j : Nat)) i2 fd es es2) ∧ Ext wL wr) (fun _ _ i _ => m - (intOf i).toNat)
        case atStart => exact ⟨0, j, false, es, Aj, cj, by omega, by omega, rfl, rfl, rfl, hown, .inl ⟨rfl, rfl, by simp⟩, hxr2⟩
        case round =>
          clear hown
          obtain ⟨i2, m2, fd, es2, A2, c2, hi2, hm2, rfl, rfl, rfl, hown2, hso, hxr3⟩ := hrel
          cases fd with
          | true =>
            obtain ⟨x, hx, rfl⟩ : ∃ x, fstEn L (s + (j : Nat)) = some x ∧ es2 = es ++ [x] := by
              rcases hso.out with ⟨h, _⟩ | ⟨_, h⟩
              · cases h
              · exact h
            have hgn := gone_next hgo.out hx
            have hj1 := hgn.2.1
            have hm3 : m2 = j + 1 := by rw [← hown2.len, hgn.1]
            subst hm3
            have HGN := Lib.hid hgn
            clear hso hgo hgn hx
            by_cases hlt3 : i2 < m
            · go_wp2_with fail
              go_roundw
              case rel => exact ⟨j + 1, _, A2, c2, by omega, by go_num, rfl, hown2, HGN, hxr3⟩
              case measure => simp [intOf]; omega
            · go_wp2_with fail
              go_roundw
              case rel => exact ⟨j + 1, _, A2, c2, by omega, by go_num, rfl, hown2, HGN, hxr3⟩
              case measure => simp [intOf]; omega
          | false =>
            obtain ⟨rfl, hno⟩ : es2 = es ∧ ∀ x ∈ L.take i2, x.s ≠ s + (j : Nat) := by
              rcases hso.out with ⟨_, h1, h2⟩ | ⟨h, _⟩
              · exact ⟨h1, h2⟩
              · cases h
            have hm3 : m2 = j := by rw [← hown2.len, hgo.out.1]
            subst hm3
            by_cases hlt2 : i2 < m
            · obtain ⟨gb, ob, x, cs, rfl, hx, ⟨Aa, na, ca, rfl, sa0⟩, ha⟩ := hle.at2 en_rep (by omega) hlt2
              have a0 : wr.cell? ⟨gb, ob + i2 * 3, none⟩ = _ := hxr3.cell (ha 0 _ rfl)
              have a1 := hxr3.cell (ha 1 _ rfl)
              have a2 := hxr3.cell (ha 2 _ rfl)
              obtain ⟨z1, z2⟩ := HNUM.out x (List.mem_of_getElem? hx)
              have hrow := hown2.row_lt
              by_cases hq : x.s = s + (m2 : Int)
              · have HSO : Hid (Sought L (s + (m2 : Nat)) (i2 + 1) true es2 (es2 ++ [x])) := .inr ⟨rfl, x, fstEn_at hno hx hq, rfl⟩
                obtain ⟨xt, xs', xd⟩ := x
                simp only at z1 z2 a0 a1 a2 sa0 hq
                subst hq
                have hfd : Feed Try.prog 3 enR (wr.alloc (.cells #[.int .i64 xt, .int .i64 (s + (m2 : Int)), .slice Aa na ca] 24)) 32 A2 c2 (.slice (some ⟨wr.heap.size, 0, none⟩) 1 1) 1 [⟨xt, (s + (m2 : Int)), xd⟩] := by
                  refine Feed.lit en_rep _ _ ⟨Aa, na, ca, rfl, sa0.ext hxr3⟩ under_ens (fun k hk e => ?_) rfl
                  obtain ⟨ad, e1, e2, rfl⟩ := pts_enA hk
                  have h1 := sa0.blk ad e1 e2
                  have h2 := (hrow _ e).1
                  omega
                have hb32 : (m2 + 1) * 40 ≤ 140737488355328 := by omega
                have heq : ((s + (m2 : Int) - s) == (m2 : Int)) = true := by simp; omega
                clear hso hno hx ha sa0 hgo hrow
                go_wp2_with (at_builtin; refine wpList_append_lst (w0 := wL) en_rep rfl _ _ _ _ rfl TEn i0 _ 40 under_ens hi0 hz0 hz1 hz2 rfl A2 m2 c2 _ rfl (hown2.ext en_rep (Ext.alloc _ _)) _ 1 [⟨xt, (s + (m2 : Int)), xd⟩] rfl hfd (m2 + 1) rfl _ rfl (by simp only [maxLen]; omega) hb32 (hxr3.allocs _) ?_; intro A3 c3 w3 hown3 hx4)
                go_wp2_with fail
                go_roundw
                case rel => exact ⟨i2 + 1, m2 + 1, true, _, A3, c3, by omega, by omega, by go_num, rfl, rfl, hown3, HSO, hx4⟩
                case measure => simp [intOf]; omega
              · have HSO : Hid (Sought L (s + (m2 : Nat)) (i2 + 1) false es2 es2) := sought_next hno hx hq
                obtain ⟨xt, xs', xd⟩ := x
                simp only at z1 z2 a0 a1 a2 sa0 hq
                have heq : ((xs' - s) == (m2 : Int)) = false := by simp; omega
                clear hso hno hx ha sa0 hgo hrow hq
                go_wp2_with fail
                go_roundw
                case rel => exact ⟨i2 + 1, m2, false, _, A2, c2, by omega, by omega, by go_num, rfl, rfl, hown2, HSO, hxr3⟩
                case measure => simp [intOf]; omega
            · obtain rfl : i2 = m := by omega
              have hf : fstEn L (s + (m2 : Nat)) = none := by
                unfold fstEn
                rw [List.find?_eq_none]
                intro y hy
                rw [List.take_of_length_le (by omega)] at hno
                simpa using hno y hy
              have e := gone_end hgo.out hf
              rw [← HRL.out] at e
              subst e
              clear hso hno hf hgo HRL
              go_wp2_with fail
              go_ret
              exact ⟨_, _, _, rfl, hown2.low hxr.size, hxr.trans hxr3⟩
end Go.Proofs.Ytcchlkialgjamaa
