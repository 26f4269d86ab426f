/-
  The walk of one statement of chapter 2.
-/
import Derived.Test.YtajifneohomibaaCrcLaws
import Derived.StillTailTactics
namespace Go.Proofs.Ytajifneohomibaa
open Go.RowKit
set_option linter.unusedVariables false
set_option maxRecDepth 100000

/-- the first k bytes are those of one row where there are such -/
def mixed (a x : List UInt8) (k : Nat) : List UInt8 := (List.range a.length).map fun i => if i < k ∧ i < x.length then x.getD i 0 else a.getD i 0
theorem mixed_length (a x : List UInt8) (k : Nat) : (mixed a x k).length = a.length := by simp [mixed]
theorem getD_map_range {f : Nat → UInt8} {n i : Nat} (h : i < n) : ((List.range n).map f).getD i 0 = f i := by
  rw [List.getD_eq_getElem?_getD, List.getElem?_map, List.getElem?_range h]
  rfl
theorem mixed_getD {a x : List UInt8} {k i : Nat} (h : i < a.length) : (mixed a x k).getD i 0 = if i < k ∧ i < x.length then x.getD i 0 else a.getD i 0 := getD_map_range h
theorem list_ext_getD {a b : List UInt8} (h : a.length = b.length) (he : ∀ i, i < a.length → a.getD i 0 = b.getD i 0) : a = b := by
  refine List.ext_getElem h fun i h1 h2 => ?_
  have := he i h1
  rw [List.getD_eq_getElem?_getD, List.getD_eq_getElem?_getD, List.getElem?_eq_getElem h1, List.getElem?_eq_getElem h2] at this
  exact this
theorem getD_set (l : List UInt8) (k i : Nat) (b : UInt8) (h : k < l.length) : (l.set k b).getD i 0 = if i = k then b else l.getD i 0 := by
  rw [List.getD_eq_getElem?_getD, List.getElem?_set, List.getD_eq_getElem?_getD]
  by_cases e : k = i
  · subst e
    simp [h]
  · rw [if_neg e, if_neg (fun h => e h.symm)]
theorem mixed_zero (a x : List UInt8) : mixed a x 0 = a := by
  refine list_ext_getD (mixed_length _ _ _) fun i hi => ?_
  rw [mixed_length] at hi
  rw [mixed_getD hi]
  simp
theorem mixed_set {a x : List UInt8} {k : Nat} (h : k < a.length) (hx : k < x.length) : (mixed a x k).set k (x.getD k 0) = mixed a x (k + 1) := by
  refine list_ext_getD (by simp [mixed_length]) fun i hi => ?_
  rw [List.length_set, mixed_length] at hi
  rw [getD_set _ _ _ _ (by rw [mixed_length]; exact h), mixed_getD hi, mixed_getD hi]
  by_cases e : i = k
  · subst e
    rw [if_pos rfl, if_pos ⟨by omega, hx⟩]
  · rw [if_neg e]
    by_cases h1 : i < k ∧ i < x.length
    · rw [if_pos h1, if_pos ⟨by omega, h1.2⟩]
    · rw [if_neg h1, if_neg (by omega)]
theorem mixed_stay {a x : List UInt8} {k : Nat} (hx : ¬ k < x.length) : mixed a x (k + 1) = mixed a x k := by
  refine list_ext_getD (by simp [mixed_length]) fun i hi => ?_
  rw [mixed_length] at hi
  rw [mixed_getD hi, mixed_getD hi]
  by_cases h1 : i < k ∧ i < x.length
  · rw [if_pos h1, if_pos ⟨by omega, h1.2⟩]
  · rw [if_neg h1, if_neg (by omega)]
/-- the third row -/
def turnedBy (a x y : List UInt8) (k : Nat) : List UInt8 := (List.range a.length).map fun i => if i < k then a.getD i 0 ^^^ (mixed a x k).getD i 0 ^^^ (mixed a y k).getD i 0 else a.getD i 0
theorem turnedBy_length (a x y : List UInt8) (k : Nat) : (turnedBy a x y k).length = a.length := by simp [turnedBy]
theorem turnedBy_getD {a x y : List UInt8} {k i : Nat} (h : i < a.length) : (turnedBy a x y k).getD i 0 = if i < k then a.getD i 0 ^^^ (mixed a x k).getD i 0 ^^^ (mixed a y k).getD i 0 else a.getD i 0 := getD_map_range h
theorem turnedBy_zero (a x y : List UInt8) : turnedBy a x y 0 = a := by
  refine list_ext_getD (turnedBy_length _ _ _ _) fun i hi => ?_
  rw [turnedBy_length] at hi
  rw [turnedBy_getD hi]
  simp
theorem turnedBy_set {a x y : List UInt8} {k : Nat} (h : k < a.length) :
    (turnedBy a x y k).set k (a.getD k 0 ^^^ (mixed a x (k + 1)).getD k 0 ^^^ (mixed a y (k + 1)).getD k 0) = turnedBy a x y (k + 1) := by
  refine list_ext_getD (by simp [turnedBy_length]) fun i hi => ?_
  rw [List.length_set, turnedBy_length] at hi
  rw [getD_set _ _ _ _ (by rw [turnedBy_length]; exact h), turnedBy_getD hi, turnedBy_getD hi]
  by_cases e : i = k
  · subst e
    rw [if_pos rfl, if_pos (by omega)]
  · rw [if_neg e]
    by_cases h1 : i < k
    · rw [if_pos h1, if_pos (by omega), mixed_getD hi, mixed_getD hi, mixed_getD hi, mixed_getD hi]
      congr 1
      · congr 1
        by_cases h2 : i < x.length
        · rw [if_pos ⟨h1, h2⟩, if_pos ⟨by omega, h2⟩]
        · rw [if_neg (by omega), if_neg (by omega)]
      · by_cases h2 : i < y.length
        · rw [if_pos ⟨h1, h2⟩, if_pos ⟨by omega, h2⟩]
        · rw [if_neg (by omega), if_neg (by omega)]
    · rw [if_neg h1, if_neg (by omega)]
theorem turnedBy_sum (a x y : List UInt8) : crcOf a ^^^ crcOf (mixed a x a.length) ^^^ crcOf (mixed a y a.length) = crcOf (turnedBy a x y a.length) :=
  crcOf_linear a _ _ _ (mixed_length _ _ _) (mixed_length _ _ _) (turnedBy_length _ _ _ _) fun i hi => by
    rw [turnedBy_getD hi, if_pos hi]

set_option maxHeartbeats 1000000 in
theorem law_CrcLinear (A : Option Addr) (n cp : Nat) (a : List UInt8) (A2 : Option Addr) (n2 cp2 : Nat) (x : List UInt8) (A3 : Option Addr) (n3 cp3 : Nat) (y : List UInt8) (w : World) (hs : Sl w A n cp a) (hs2 : Sl w A2 n2 cp2 x) (hs3 : Sl w A3 n3 cp3 y) :
    Calls Try.prog 5 #[.slice A n cp, .slice A2 n2 cp2, .slice A3 n3 cp3] w fun e w' => e = .returned (.bool true) ∧ Ext w w' := by
  have h63 := hs.n63
  have h63b := hs2.n63
  have h63c := hs3.n63
  obtain ⟨i0, hi0, hz0, hz1, hz2⟩ := info_parts info_u8
  by_cases hn : 200 < n
  · go_enter Try.func5, Try.ntmps5
    go_wp2_with fail
    refine (law2_known _).mono ?_
    rintro e w1 ⟨rfl, hx1⟩
    go_wp2_with fail
    go_ret
    exact ⟨rfl, hx1⟩
  have hn' : n ≤ 200 := by omega
  go_enter Try.func5, Try.ntmps5
  go_wp2_with (first | (at_builtin; refine wpList_append_mine _ rfl (.tmp 15) (.tmp 16) _ _ rfl w.heap.size U8 i0 _ 1 1 under_bytes hi0 hz0 hz1 hz2 rfl _ 0 0 _ rfl (Own.nil _ _ _ _ _) _ rfl n (a.map bv) ((hs.ext (Ext.alloc _ _)).src under_bytes) (by simp only [maxLen]; omega) (by omega) (by simp) ?_; intro B1 c1 w1 hown1 hg1 hr1; have hb1 : Byt U8 w1 w.heap.size B1 n c1 a := ⟨hs.len, by simpa using hown1⟩; have hx1 : Ext w w1 := below_grown (Ext.alloc w _) (Own.nil _ _ U8 1 _) hg1 (by simp); have HR1 := Lib.hid hr1; clear hown1 hg1 hr1) | (at_builtin; refine wpList_append_mine _ rfl (.tmp 18) (.tmp 19) _ _ rfl w1.heap.size U8 i0 _ 1 1 under_bytes hi0 hz0 hz1 hz2 rfl _ 0 0 _ rfl (Own.nil _ _ _ _ _) _ rfl n (a.map bv) ((hs.ext (hx1.trans (Ext.alloc _ _))).src under_bytes) (by simp only [maxLen]; omega) (by omega) (by simp) ?_; intro B2 c2 w2 hown2 hg2 hr2; have hb2 : Byt U8 w2 w1.heap.size B2 n c2 a := ⟨hs.len, by simpa using hown2⟩; have hx2 : Ext w1 w2 := below_grown (Ext.alloc w1 _) (Own.nil _ _ U8 1 _) hg2 (by simp); have HR2 := Lib.hid hr2; clear hown2 hg2 hr2) | (at_builtin; refine wpList_append_mine _ rfl (.tmp 21) (.tmp 22) _ _ rfl w2.heap.size U8 i0 _ 1 1 under_bytes hi0 hz0 hz1 hz2 rfl _ 0 0 _ rfl (Own.nil _ _ _ _ _) _ rfl n (a.map bv) ((hs.ext (hx1.trans (hx2.trans (Ext.alloc _ _)))).src under_bytes) (by simp only [maxLen]; omega) (by omega) (by simp) ?_; intro B3 c3 w3 hown3 hg3 hr3; have hb3 : Byt U8 w3 w2.heap.size B3 n c3 a := ⟨hs.len, by simpa using hown3⟩; have hx3 : Ext w2 w3 := below_grown (Ext.alloc w2 _) (Own.nil _ _ U8 1 _) hg3 (by simp); have HR3 := Lib.hid hr3; clear hown3 hg3 hr3))
  have HG : Hid (0 < n → ∃ g1 g2 g3, B1 = some ⟨g1, 0, none⟩ ∧ B2 = some ⟨g2, 0, none⟩ ∧ B3 = some ⟨g3, 0, none⟩ ∧ w.heap.size ≤ g1 ∧ g1 < g2 ∧ g2 < g3) := by
    intro hn0
    obtain ⟨g1, e1, h1, h2, _⟩ := hb1.open_ hn0
    obtain ⟨g2, e2, h3, h4, _⟩ := hb2.open_ hn0
    obtain ⟨g3, e3, h5, h6, _⟩ := hb3.open_ hn0
    exact ⟨g1, g2, g3, e1, e2, e3, h1, by omega, by omega⟩
  have hx03 := hx1.trans (hx2.trans hx3)
  have k1 := (hb1.ext (hx2.trans hx3))
  have k2 := ((hb2.ext hx3).low hx1.size)
  have k3 := (hb3.low (hx1.trans hx2).size)
  clear HR1 HR2 HR3 hb1 hb2 hb3 hx1 hx2 hx3
  go_loopw [10] (fun i wr => ∃ k : Nat, k ≤ n ∧ i = .int .i64 k ∧ Byt U8 wr w.heap.size B1 n c1 (mixed a x k) ∧ Byt U8 wr w.heap.size B2 n c2 (mixed a y k) ∧ Byt U8 wr w.heap.size B3 n c3 (turnedBy a x y k) ∧ Ext w wr) (fun i _ => (n - (intOf i).toNat))
  case atStart => exact ⟨0, by omega, rfl, by rw [mixed_zero]; exact k1, by rw [mixed_zero]; exact k2, by rw [turnedBy_zero]; exact k3, hx03⟩
  case round =>
    obtain ⟨k, hk, rfl, hm1, hm2, hm3, hxr⟩ := hrel
    clear k1 k2 k3 hx03
    by_cases hlt : k < n
    · obtain ⟨g1, g2, g3, rfl, rfl, rfl, hg1, hg2, hg3⟩ := HG.out (by omega)
      obtain ⟨ad, rfl, hca⟩ := (hs.ext hxr).atD hlt
      obtain ⟨ab, hab⟩ : ∃ b, b = a.getD k 0 := ⟨_, rfl⟩
      rw [← hab] at hca
      have hab' := hab
      have HAB := Lib.hid hab
      clear hab
      have hlen : a.length = n := hs.len
      obtain ⟨xb, hxb⟩ : ∃ b, x.getD k 0 = b := ⟨_, rfl⟩
      obtain ⟨yb, hyb⟩ : ∃ b, y.getD k 0 = b := ⟨_, rfl⟩
      obtain ⟨W1, hW1⟩ : ∃ W1, W1 = if k < n2 then wr.setCell ⟨g1, k, none⟩ (.int .u8 (xb.toNat : Int)) else wr := ⟨_, rfl⟩
      obtain ⟨W2, hW2⟩ : ∃ W2, W2 = if k < n3 then W1.setCell ⟨g2, k, none⟩ (.int .u8 (yb.toNat : Int)) else W1 := ⟨_, rfl⟩
      have f1 : Ext w W1 ∧ Byt U8 W1 w.heap.size (some ⟨g1, 0, none⟩) n c1 (mixed a x (k + 1)) ∧ Byt U8 W1 w.heap.size (some ⟨g2, 0, none⟩) n c2 (mixed a y k) ∧ Byt U8 W1 w.heap.size (some ⟨g3, 0, none⟩) n c3 (turnedBy a x y k) := by
        by_cases hx : k < n2
        · rw [if_pos hx] at hW1
          subst hW1
          subst hxb
          refine ⟨Below.setCell hxr hg1 _, ?_, hm2.far (by intro g hg; simp [rowOf] at hg; simp; omega) _, hm3.far (by intro g hg; simp [rowOf] at hg; simp; omega) _⟩
          rw [← mixed_set (by rw [hlen]; exact hlt) (by rw [hs2.len]; exact hx)]
          exact hm1.set_ hlt _
        · rw [if_neg hx] at hW1
          subst hW1
          rw [mixed_stay (a := a) (x := x) (by rw [hs2.len]; exact hx)]
          exact ⟨hxr, hm1, hm2, hm3⟩
      obtain ⟨hx1, p1, p2, p3⟩ := f1
      have hxW1 := hx1
      have f2 : Ext w W2 ∧ Byt U8 W2 w.heap.size (some ⟨g1, 0, none⟩) n c1 (mixed a x (k + 1)) ∧ Byt U8 W2 w.heap.size (some ⟨g2, 0, none⟩) n c2 (mixed a y (k + 1)) ∧ Byt U8 W2 w.heap.size (some ⟨g3, 0, none⟩) n c3 (turnedBy a x y k) := by
        by_cases hx : k < n3
        · rw [if_pos hx] at hW2
          subst hW2
          subst hyb
          refine ⟨Below.setCell hx1 (by show w.heap.size ≤ g2; omega) _, p1.far (by intro g hg; simp [rowOf] at hg; simp; omega) _, ?_, p3.far (by intro g hg; simp [rowOf] at hg; simp; omega) _⟩
          rw [← mixed_set (by rw [hlen]; exact hlt) (by rw [hs3.len]; exact hx)]
          exact p2.set_ hlt _
        · rw [if_neg hx] at hW2
          subst hW2
          rw [mixed_stay (a := a) (x := y) (by rw [hs3.len]; exact hx)]
          exact ⟨hx1, p1, p2, p3⟩
      obtain ⟨hx2, q1, q2, q3⟩ := f2
      have own_at : ∀ {w : World} {B c g : Nat} {L : List UInt8}, Byt U8 w B (some ⟨g, 0, none⟩) n c L → w.cell? ⟨g, k, none⟩ = some (.int .u8 ((L.getD k 0).toNat : Int)) ∧ w.frozen? ⟨g, k, none⟩ = false := by
        intro w B c g L h
        obtain ⟨g', hg', _, _, h4⟩ := h.open_ (by omega)
        injection hg' with hg'
        injection hg' with hg'
        subst hg'
        exact h4 _ hlt
      obtain ⟨c1a, c1f⟩ := own_at hm1
      obtain ⟨c2a, c2f⟩ := own_at p2
      obtain ⟨c31, _⟩ := own_at q1
      obtain ⟨c32, _⟩ := own_at q2
      obtain ⟨c3a, c3f⟩ := own_at q3
      obtain ⟨ad', hade, hcaW⟩ := (hs.ext hx2).atD hlt
      injection hade with hade
      subst hade
      rw [← hab'] at hcaW
      obtain ⟨bb, hbb⟩ : ∃ b, b = (mixed a x (k + 1)).getD k 0 := ⟨_, rfl⟩
      obtain ⟨cb, hcb⟩ : ∃ b, b = (mixed a y (k + 1)).getD k 0 := ⟨_, rfl⟩
      rw [← hbb] at c31
      rw [← hcb] at c32
      obtain ⟨u1, hu1⟩ : ∃ b, b = (mixed a x k).getD k 0 := ⟨_, rfl⟩
      rw [← hu1] at c1a
      obtain ⟨u2, hu2⟩ : ∃ b, b = (mixed a y k).getD k 0 := ⟨_, rfl⟩
      rw [← hu2] at c2a
      obtain ⟨u3, hu3⟩ : ∃ b, b = (turnedBy a x y k).getD k 0 := ⟨_, rfl⟩
      rw [← hu3] at c3a
      have hval : bits .xor .u8 (bits .xor .u8 (ab.toNat : Int) (bb.toNat : Int)) (cb.toNat : Int) = (((ab ^^^ bb ^^^ cb).toNat : Nat) : Int) := by
        rw [u8_xor_nat _ _ ab.toNat_lt bb.toNat_lt, ← UInt8.toNat_xor, u8_xor_nat _ _ (UInt8.toNat_lt _) cb.toNat_lt, ← UInt8.toNat_xor]
      have HV := Lib.hid hval
      have q3' := q3.set_ hlt (ab ^^^ bb ^^^ cb)
      have hq3 : (turnedBy a x y k).set k (ab ^^^ bb ^^^ cb) = turnedBy a x y (k + 1) := by
        rw [hab', hbb, hcb]
        exact turnedBy_set (by rw [hlen]; exact hlt)
      rw [hq3] at q3'
      have q1' := q1.far (p := ⟨g3, k, none⟩) (by intro g hg; simp [rowOf] at hg; simp; omega) (.int .u8 ((ab ^^^ bb ^^^ cb).toNat : Int))
      have q2' := q2.far (p := ⟨g3, k, none⟩) (by intro g hg; simp [rowOf] at hg; simp; omega) (.int .u8 ((ab ^^^ bb ^^^ cb).toNat : Int))
      have hx3 : Ext w (W2.setCell ⟨g3, k, none⟩ (.int .u8 ((ab ^^^ bb ^^^ cb).toNat : Int))) := Below.setCell hx2 (by show w.heap.size ≤ g3; omega) _
      clear hq3 hval hu1 hu2 hu3 hbb hcb hab' hm1 hm2 hm3 p1 p2 p3 q1 q2 q3 HAB hlen hx1 own_at hca
      by_cases hx : k < n2
      · by_cases hy : k < n3
        · skip
          have e1 : W1 = wr.setCell ⟨g1, k, none⟩ (.int .u8 (xb.toNat : Int)) := by rw [hW1, if_pos hx]
          obtain ⟨ad2, rfl, hcx⟩ := (hs2.ext hxr).atD hx
          rw [hxb] at hcx
          have e2 : W2 = W1.setCell ⟨g2, k, none⟩ (.int .u8 (yb.toNat : Int)) := by rw [hW2, if_pos hy]
          obtain ⟨ad3, rfl, hcy⟩ := (hs3.ext hxW1).atD hy
          rw [hyb] at hcy
          rw [e1] at hcy c2a c2f e2
          have HE2 := Lib.hid e2
          clear e1 e2 hW1 hW2 hxb hyb hxW1
          go_wp2_with fail
          rw [← HE2.out]
          go_still_tail 17, (by kernel_rfl)
          change wpList _ _ _ _ _ W2.drew
          have hv := HV.out
          go_wp2
          go_roundw
          case rel => exact ⟨k + 1, by omega, by go_num, q1'.ext (Ext.drew _), q2'.ext (Ext.drew _), q3'.ext (Ext.drew _), hx3.trans (Ext.drew _)⟩
          case measure => simp [intOf]; omega
        · skip
          have e1 : W1 = wr.setCell ⟨g1, k, none⟩ (.int .u8 (xb.toNat : Int)) := by rw [hW1, if_pos hx]
          obtain ⟨ad2, rfl, hcx⟩ := (hs2.ext hxr).atD hx
          rw [hxb] at hcx
          have e2 : W2 = W1 := by rw [hW2, if_neg hy]
          rw [e1] at e2
          have HE2 := Lib.hid e2
          clear e1 e2 hW1 hW2 hxb hyb hxW1
          go_wp2_with fail
          rw [← HE2.out]
          go_still_tail 17, (by kernel_rfl)
          change wpList _ _ _ _ _ W2.drew
          have hv := HV.out
          go_wp2
          go_roundw
          case rel => exact ⟨k + 1, by omega, by go_num, q1'.ext (Ext.drew _), q2'.ext (Ext.drew _), q3'.ext (Ext.drew _), hx3.trans (Ext.drew _)⟩
          case measure => simp [intOf]; omega
      · by_cases hy : k < n3
        · skip
          have e1 : W1 = wr := by rw [hW1, if_neg hx]
          have e2 : W2 = W1.setCell ⟨g2, k, none⟩ (.int .u8 (yb.toNat : Int)) := by rw [hW2, if_pos hy]
          obtain ⟨ad3, rfl, hcy⟩ := (hs3.ext hxW1).atD hy
          rw [hyb] at hcy
          rw [e1] at hcy c2a c2f e2
          have HE2 := Lib.hid e2
          clear e1 e2 hW1 hW2 hxb hyb hxW1
          go_wp2_with fail
          rw [← HE2.out]
          go_still_tail 17, (by kernel_rfl)
          change wpList _ _ _ _ _ W2.drew
          have hv := HV.out
          go_wp2
          go_roundw
          case rel => exact ⟨k + 1, by omega, by go_num, q1'.ext (Ext.drew _), q2'.ext (Ext.drew _), q3'.ext (Ext.drew _), hx3.trans (Ext.drew _)⟩
          case measure => simp [intOf]; omega
        · skip
          have e1 : W1 = wr := by rw [hW1, if_neg hx]
          have e2 : W2 = W1 := by rw [hW2, if_neg hy]
          rw [e1] at e2
          have HE2 := Lib.hid e2
          clear e1 e2 hW1 hW2 hxb hyb hxW1
          go_wp2_with fail
          rw [← HE2.out]
          go_still_tail 17, (by kernel_rfl)
          change wpList _ _ _ _ _ W2.drew
          have hv := HV.out
          go_wp2
          go_roundw
          case rel => exact ⟨k + 1, by omega, by go_num, q1'.ext (Ext.drew _), q2'.ext (Ext.drew _), q3'.ext (Ext.drew _), hx3.trans (Ext.drew _)⟩
          case measure => simp [intOf]; omega
    · obtain rfl : k = n := by omega
      have hs' := hs.ext hxr
      have s1 := hm1.sl
      have s2 := hm2.sl
      have s3 := hm3.sl
      have hsum := turnedBy_sum a x y
      rw [hs.len] at hsum
      obtain ⟨qa, ha⟩ : ∃ q, crcOf a = q := ⟨_, rfl⟩
      obtain ⟨qb, hb⟩ : ∃ q, crcOf (mixed a x k) = q := ⟨_, rfl⟩
      obtain ⟨qc, hc⟩ : ∃ q, crcOf (mixed a y k) = q := ⟨_, rfl⟩
      obtain ⟨qd, hd⟩ : ∃ q, crcOf (turnedBy a x y k) = q := ⟨_, rfl⟩
      rw [ha, hb, hc, hd] at hsum
      have la : qa < 4294967296 := by rw [← ha]; exact crcOf_lt _
      have lb : qb < 4294967296 := by rw [← hb]; exact crcOf_lt _
      have lc : qc < 4294967296 := by rw [← hc]; exact crcOf_lt _
      have hf : (bits .xor .u32 (bits .xor .u32 (qa : Int) (qb : Int)) (qc : Int) == (qd : Int)) = true := by
        rw [u32_xor_nat _ _ la lb, u32_xor_nat _ _ (xor_lt32 la lb) lc, hsum]
        simp
      have Ha := Lib.hid ha
      have Hb := Lib.hid hb
      have Hc := Lib.hid hc
      have Hd := Lib.hid hd
      clear ha hb hc hd hsum hm1 hm2 hm3 hs hs2 hs3 HG
      go_wp2_with fail
      refine (crc_Of' hs' Ha).mono ?_
      rintro e w1 ⟨rfl, rfl⟩
      go_wp2_with fail
      refine (crc_Of' s1 Hb).mono ?_
      rintro e w1 ⟨rfl, rfl⟩
      go_wp2_with fail
      refine (crc_Of' s2 Hc).mono ?_
      rintro e w1 ⟨rfl, rfl⟩
      go_wp2_with fail
      refine (crc_Of' s3 Hd).mono ?_
      rintro e w1 ⟨rfl, rfl⟩
      go_wp2_with fail
      refine (law2_known _).mono ?_
      rintro e w1 ⟨rfl, hx5⟩
      go_wp2_with fail
      go_ret
      exact ⟨rfl, hxr.trans hx5⟩
end Go.Proofs.Ytajifneohomibaa
