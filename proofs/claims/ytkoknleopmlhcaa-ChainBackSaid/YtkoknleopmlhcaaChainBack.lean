/-
  The walk of one statement of chapter 6.
-/
import Derived.Test.YtkoknleopmlhcaaTagKnown
import Derived.Test.YtkoknleopmlhcaaTagSame
import Derived.Test.YtkoknleopmlhcaaGrow
import Derived.Test.YtkoknleopmlhcaaCut
import Derived.Test.YtkoknleopmlhcaaOpenI
namespace Go.Proofs.Ytkoknleopmlhcaa
open Go.RowKit
set_option linter.unusedVariables false
set_option linter.unusedSimpArgs false
set_option linter.unnecessarySimpa false
set_option maxRecDepth 100000

theorem byte_lit (w : World) (x : UInt8) : Sl (w.alloc (.cells #[bv x] U8)) (some ⟨w.heap.size, 0, none⟩) 1 1 [x] :=
  (⟨rfl, Own.made w w.heap.size U8 1 #[bv x] 1 1 (Nat.le_refl _) (Nat.le_refl _) (by simp [maxLen]) rfl⟩ : Byt U8 _ w.heap.size _ 1 1 [x]).sl
set_option maxHeartbeats 4000000 in
theorem law_ChainBack (A : Option Addr) (n c : Nat) (l : List Int) (Ap : Option Addr) (np cp : Nat) (p : List UInt8) (mo : Int) (w : World) (h : Lst 1 intR w A n c l) (hp : Sl w Ap np cp p) (hm0 : 0 ≤ mo) (hm1 : mo ≤ 255) :
    Calls Try.prog 6 #[.slice A n c, .slice Ap np cp, .int .u8 mo] w fun e w' => e = .returned (.bool true) ∧ Ext w w' := by
  have h63 := h.n63
  have h63p := hp.n63
  by_cases t1 : 40 < n
  · go_enter Try.func6, Try.ntmps6
    go_wp2_with fail
    refine (law6_known _).mono ?_
    rintro e w2 ⟨rfl, hx1⟩
    go_wp2_with fail
    go_ret
    exact ⟨rfl, hx1⟩
  by_cases t2 : 200 < np
  · go_enter Try.func6, Try.ntmps6
    go_wp2_with fail
    refine (law6_known _).mono ?_
    rintro e w2 ⟨rfl, hx1⟩
    go_wp2_with fail
    go_ret
    exact ⟨rfl, hx1⟩
  obtain ⟨mo, rfl⟩ : ∃ x : UInt8, mo = (x.toNat : Int) := ⟨UInt8.ofNat mo.toNat, by simp; omega⟩
  clear hm0 hm1
  obtain ⟨i0, hi0, hz0, hz1, hz2⟩ := info_parts info_u8
  obtain ⟨R1, hR1⟩ : ∃ q, growL l = q := ⟨_, rfl⟩
  have b1 := growL_bounds l
  have gr := grown l
  rw [h.len, hR1] at b1
  rw [hR1] at gr
  obtain ⟨R1, E1⟩ := R1
  simp only at b1 gr
  obtain ⟨E1, rfl⟩ := Int.eq_ofNat_of_zero_le b1.1
  have hRR := gr.right (by omega)
  have hsz := gr.size
  have HR := Lib.hid (rightL_iff.2 hRR)
  have hlen := putL_len R1
  have hgl := fun k => get_less hRR (b := (putL R1).take k) (k := k) rfl
  have hgm := get_more hRR (r := [mo]) (by simp)
  have hgp := get_put hRR
  obtain ⟨L, hL⟩ : ∃ q, putL R1 = q := ⟨_, rfl⟩
  rw [hL] at hlen hgl hgm hgp
  have HL : Hid (putR R1 true = L) := hL
  have HGP := Lib.hid hgp
  have HGM := Lib.hid hgm
  have HGL := Lib.hid (hgl (L.length - 1) (by omega))
  have HLEN : Hid (1 ≤ L.length ∧ L.length ≤ 729) := by unfold Hid; omega
  obtain ⟨o, ho⟩ : ∃ q, getL p = q := ⟨_, rfl⟩
  have HO := Lib.hid ho
  have HSS := Lib.hid (show sameT R1 R1 = true by simp [sameT])
  have HR1 := Lib.hid hR1
  have ho1 : Hid (∀ y, o = some y → RightL y ∧ putL y = p) := fun y hy => get_some (ho.trans hy)
  clear hR1 hRR hsz hlen hgl hgm hgp hL ho gr b1
  go_enter Try.func6, Try.ntmps6
  go_wp2_with fail
  refine (law6_Grow h (by omega) HR1).mono ?_
  rintro e w1 ⟨Ga, gn, gc, rfl, hg, g⟩
  have la := hg.lst
  clear hg
  go_wp2_with fail
  refine (chain_Put la HR HL).mono ?_
  rintro e w2 ⟨A2, n2, c2, rfl, h2, g2⟩
  rw [show (if true = true then (0 : Int) else 1) = 0 from rfl]
  replace g := g.trans g2
  have hn2 : 1 ≤ n2 ∧ n2 ≤ 729 := by rw [← h2.len]; exact HLEN.out
  go_wp2_with fail
  refine (chain_Get h2.sl HGP).mono ?_
  rintro e w3 ⟨A3, n3, c3, rfl, h3, g3⟩
  rw [show (if (some R1).isSome = true then (0 : Int) else 2) = 0 from rfl]
  have lx : Lst 4 tgR w3 A3 n3 c3 R1 := h3.lst
  replace la := (la.ext tg_rep g2).ext tg_rep g3
  replace g := g.trans g3
  have hL3 := h2.sl.ext g3
  clear h2 h3 g2 g3
  go_wp2_with fail
  refine (ref_SameTags la lx HSS).mono ?_
  rintro e w4 ⟨rfl, g2⟩
  replace g := g.trans g2
  have hL4 := hL3.ext g2
  clear hL3 la lx g2
  obtain ⟨m, rfl⟩ : ∃ m, n2 = m + 1 := ⟨n2 - 1, by omega⟩
  obtain ⟨hcut, hs4⟩ := cut_upto hL4 m (m : Int) rfl (by omega)
  have HGL2 : Hid (getL (L.take m) = none) := by
    have := HGL.out
    rw [hL4.len, Nat.add_sub_cancel] at this
    exact this
  go_wp2_with fail
  refine (chain_Get hs4 HGL2).mono ?_
  rintro e w5 ⟨A5, n5, c5, rfl, h5, g2⟩
  rw [show (if (none : Option (List Tg)).isSome = true then (0 : Int) else 2) = 2 from rfl]
  replace g := g.trans g2
  have hL5 := hL4.ext g2
  clear hL4 g2 h5 hs4 hcut
  go_wp2_with (first | (
    at_builtin
    refine wpList_append_mine _ rfl (.tmp 72) (.tmp 73) _ _ rfl w5.heap.size U8 i0 _ 1 1 under_bytes hi0 hz0 hz1 hz2 rfl _ 0 0 [] rfl (Own.nil _ _ _ _ _) _ rfl (m + 1) (L.map bv) ((hL5.ext (Ext.alloc _ _)).src under_bytes) (by simp only [maxLen]; omega) (by omega) (by simp) ?_
    intro A6 c6 w6 hown6 hg6 _
    rw [Nat.zero_add] at hown6 ⊢
    have hb6 : Byt U8 w6 w5.heap.size A6 (m + 1) c6 L := ⟨hL5.len, by simpa using hown6⟩
    have g6 : Ext w5 w6 := below_grown (Ext.alloc w5 _) (Own.nil _ _ U8 1 _) hg6 (by simp)
    have lit := byte_lit w6 mo) | (
    at_builtin
    refine wpList_append_mine _ rfl (.tmp 74) (.tmp 76) _ _ rfl w5.heap.size U8 i0 _ 1 1 under_bytes hi0 hz0 hz1 hz2 rfl A6 (m + 1) c6 _ rfl (hb6.own.alloc _) _ rfl 1 ([mo].map bv) (lit.src under_bytes) (by simp only [maxLen]; omega) (by omega) (by have := g6.size; simp; omega) ?_
    intro A7 c7 w7 hown7 hg7 _
    have hb7 : Byt U8 w7 w5.heap.size A7 (m + 1 + 1) c7 (L ++ [mo]) := Byt.more hL5.len rfl hown7 rfl
    have g7 : Ext w5 w7 := below_grown (g6.allocs _) (hb6.own.alloc _) hg7 (by have := g6.size; simp; omega)))
  refine (chain_Get hb7.sl HGM).mono ?_
  rintro e w8 ⟨A8, n8, c8, rfl, h8, g8⟩
  rw [show (if (none : Option (List Tg)).isSome = true then (0 : Int) else 2) = 2 from rfl]
  replace g := (g.trans g7).trans g8
  clear hL5 hown6 hg6 hb6 g6 lit hown7 hg7 hb7 g7 h8 g8
  go_wp2_with fail
  refine (chain_Get (hp.ext g) HO).mono ?_
  rintro e w9 ⟨A9, n9, c9, rfl, h9, g9⟩
  replace g := g.trans g9
  clear g9
  have g1 := Ext.refl w9
  cases o with
  | none =>
    rw [show (if (none : Option (List Tg)).isSome = true then (0 : Int) else 2) = 2 from rfl]
    clear ho1 h9
    go_wp2_with fail
    refine (law6_known _).mono ?_
    rintro e wn ⟨rfl, g2⟩
    replace g1 := g1.trans g2
    clear g2
    go_wp2_with fail
    go_ret
    exact ⟨rfl, g.trans g1⟩
  | some y =>
    rw [show (if (some y).isSome = true then (0 : Int) else 2) = 0 from rfl]
    obtain ⟨hy1, hy2⟩ := ho1.out y rfl
    have HYR := Lib.hid (rightL_iff.2 hy1)
    have HYL : Hid (putR y true = p) := hy2
    have ly : Lst 4 tgR w9 A9 n9 c9 y := h9.lst
    clear ho1 hy1 hy2 h9
    go_wp2_with fail
    refine (chain_Put ly HYR HYL).mono ?_
    rintro e w10 ⟨A10, n10, c10, rfl, h10, g2⟩
    rw [show (if true = true then (0 : Int) else 1) = 0 from rfl]
    replace g1 := g1.trans g2
    have x1 := run_text_u8 h10.sl
    have x2 := run_text_u8 (hp.ext (g.trans g1))
    clear g2 h10
    go_wp2_with fail
    refine (law6_known _).mono ?_
    rintro e wn ⟨rfl, g2⟩
    replace g1 := g1.trans g2
    clear g2
    go_wp2_with fail
    go_ret
    exact ⟨rfl, g.trans g1⟩
end Go.Proofs.Ytkoknleopmlhcaa
