/-
  The walk of one statement of chapter 1.
-/
import Derived.Test.YtajifneohomibaaBitsLaws
namespace Go.Proofs.Ytajifneohomibaa
open Go.RowKit
set_option linter.unusedVariables false
set_option maxRecDepth 100000


theorem gvF_varF : ∀ (f fu i u : Nat) (r : List UInt8), f < fu → u < 128 ^ (f + 1) → (i = 0 ∨ 0 < u) → gvF fu i (varF f u ++ r) = some (u, (varF f u).length) := by
  intro f
  induction f with
  | zero =>
    intro fu i u r hf hu hi
    obtain ⟨fu, rfl⟩ : ∃ g, fu = g + 1 := ⟨fu - 1, by omega⟩
    have hu' : u < 128 := by simpa using hu
    have hb : (UInt8.ofNat u).toNat = u := by simp; omega
    simp only [varF, List.cons_append, List.nil_append]
    rw [gv_end (by omega) (by omega), hb]
    rfl
  | succ f ih =>
    intro fu i u r hf hu hi
    obtain ⟨fu, rfl⟩ : ∃ g, fu = g + 1 := ⟨fu - 1, by omega⟩
    by_cases hs : u < 128
    · have hb : (UInt8.ofNat u).toNat = u := by simp; omega
      rw [varF_small hs, List.cons_append, List.nil_append, gv_end (by omega) (by omega), hb]
      rfl
    · have hb : (UInt8.ofNat (u % 128 + 128)).toNat = u % 128 + 128 := by simp; omega
      have hd : u / 128 < 128 ^ (f + 1) := by
        rw [Nat.pow_succ 128 (f + 1)] at hu
        exact Nat.div_lt_of_lt_mul (by omega)
      rw [varF_big (by omega), List.cons_append, gv_go (by omega), ih fu (i + 1) (u / 128) r (by omega) hd (.inr (by omega)), hb]
      simp only [Option.map_some, List.length_cons, Option.some.injEq, Prod.mk.injEq, and_true]
      omega
theorem gvF_cut : ∀ (f fu i u : Nat), gvF fu i ((varF f u).dropLast) = none := by
  intro f
  induction f with
  | zero => intro fu i u; cases fu <;> simp [varF, gvF]
  | succ f ih =>
    intro fu i u
    by_cases hs : u < 128
    · rw [varF_small hs]
      cases fu <;> simp [gvF]
    · have hb : (UInt8.ofNat (u % 128 + 128)).toNat = u % 128 + 128 := by simp; omega
      have hl := varF_length f (u / 128)
      rw [varF_big (by omega), List.dropLast_cons_of_ne_nil (by intro h; rw [h] at hl; simp at hl)]
      cases fu with
      | zero => rfl
      | succ fu => rw [gv_go (by omega), ih fu (i + 1) (u / 128)]; rfl
theorem gv_there (a r : List UInt8) (k : Nat) (hk : k < 9223372036854775808) : gvN (a ++ varl k ++ r) (a.length : Int) = some (k, (varl k).length) := by
  unfold gvN
  rw [if_pos (by omega), Int.toNat_natCast, List.append_assoc, List.drop_left]
  exact gvF_varF 8 9 0 k r (by omega) (by omega) (.inl rfl)
theorem gv_cut_off (a : List UInt8) (k : Nat) : gvN ((a ++ varl k).take ((a ++ varl k).length - 1)) (a.length : Int) = none := by
  have hl := varl_length k
  unfold gvN
  rw [if_pos (by omega), Int.toNat_natCast, List.take_append, List.length_append]
  have e1 : a.take (a.length + (varl k).length - 1) = a := List.take_of_length_le (by omega)
  have e2 : a.length + (varl k).length - 1 - a.length = (varl k).length - 1 := by omega
  rw [e1, e2, List.drop_left, ← List.dropLast_eq_take]
  exact gvF_cut 8 9 0 k

set_option maxHeartbeats 4000000 in
theorem law_BitsBack (A : Option Addr) (n cp : Nat) (l : List UInt8) (A2 : Option Addr) (n2 cp2 : Nat) (l2 : List UInt8) (x wd k : Int) (s : ByteArray) (w : World) (hs : Sl w A n cp l) (hs2 : Sl w A2 n2 cp2 l2) (hx0 : 0 ≤ x) (hx1 : x ≤ 18446744073709551615) (hw0 : -9223372036854775808 ≤ wd) (hw1 : wd ≤ 9223372036854775807) (hk0 : -9223372036854775808 ≤ k) (hk1 : k ≤ 9223372036854775807) (hss : s.size ≤ maxLen) :
    Calls Try.prog 14 #[.slice A n cp, .slice A2 n2 cp2, .int .u64 x, .int .i64 wd, .int .i64 k, .string s] w fun e w' => e = .returned (.bool true) ∧ Ext w w' := by
  have h63 := hs.n63
  have h63b := hs2.n63
  obtain ⟨i0, hi0, hz0, hz1, hz2⟩ := info_parts info_u8
  unfold maxLen at hss
  obtain ⟨x, rfl⟩ := Int.eq_ofNat_of_zero_le hx0
  have hx : x < 18446744073709551616 := by omega
  clear hx0 hx1 hw0 hw1 hk0
  by_cases c1 : 100 < n
  · clear hk1
    go_enter Try.func14, Try.ntmps14
    go_wp2_with fail
    refine (law1_known _).mono ?_
    rintro e w1 ⟨rfl, hx1⟩
    go_wp2_with fail
    go_ret
    exact ⟨rfl, hx1⟩
  by_cases c2 : 100 < n2
  · clear hk1
    go_enter Try.func14, Try.ntmps14
    go_wp2_with fail
    refine (law1_known _).mono ?_
    rintro e w1 ⟨rfl, hx1⟩
    go_wp2_with fail
    go_ret
    exact ⟨rfl, hx1⟩
  by_cases c3 : 200 < s.size
  · clear hk1
    go_enter Try.func14, Try.ntmps14
    go_wp2_with fail
    refine (law1_known _).mono ?_
    rintro e w1 ⟨rfl, hx1⟩
    go_wp2_with fail
    go_ret
    exact ⟨rfl, hx1⟩
  by_cases c4 : wd < 1
  · clear hk1
    go_enter Try.func14, Try.ntmps14
    go_wp2_with fail
    refine (law1_known _).mono ?_
    rintro e w1 ⟨rfl, hx1⟩
    go_wp2_with fail
    go_ret
    exact ⟨rfl, hx1⟩
  by_cases c5 : 8 < wd
  · clear hk1
    go_enter Try.func14, Try.ntmps14
    go_wp2_with fail
    refine (law1_known _).mono ?_
    rintro e w1 ⟨rfl, hx1⟩
    go_wp2_with fail
    go_ret
    exact ⟨rfl, hx1⟩
  by_cases c6 : k < 0
  · clear hk1
    go_enter Try.func14, Try.ntmps14
    go_wp2_with fail
    refine (law1_known _).mono ?_
    rintro e w1 ⟨rfl, hx1⟩
    go_wp2_with fail
    go_ret
    exact ⟨rfl, hx1⟩
  obtain ⟨wd, rfl⟩ := Int.eq_ofNat_of_zero_le (by omega : 0 ≤ wd)
  obtain ⟨k, rfl⟩ := Int.eq_ofNat_of_zero_le (by omega : 0 ≤ k)
  have hk : k < 9223372036854775808 := by omega
  have d1 : n ≤ 100 := by omega
  have d2 : n2 ≤ 100 := by omega
  have d3 : s.size ≤ 200 := by omega
  have d4 : 1 ≤ wd := by omega
  have d5 : wd ≤ 8 := by omega
  have hln : l.length = n := hs.len
  have hvk := varl_length k
  have hvs := varl_length s.size
  have hsz := size_list s
  obtain ⟨S, hS⟩ : ∃ S, s.data.toList = S := ⟨_, rfl⟩
  have hsS : (⟨S.toArray⟩ : ByteArray) = s := by rw [← hS]
  rw [hS] at hsz
  obtain ⟨V, hV⟩ : ∃ V, varl k = V := ⟨_, rfl⟩
  obtain ⟨T, hT⟩ : ∃ T, varl s.size = T := ⟨_, rfl⟩
  obtain ⟨E, hE⟩ : ∃ E, le wd x = E := ⟨_, rfl⟩
  have hEl : E.length = wd := by rw [← hE]; exact le_length _ _
  rw [hV] at hvk
  rw [hT] at hvs
  obtain ⟨y, hy⟩ : ∃ y, unle E = y := ⟨_, rfl⟩
  have hyv : y = x % 2 ^ (8 * wd) := by rw [← hy, ← hE, unle_le, pow_8]
  have hmask : Hid (maskN (8 * (wd : Int)) = 2 ^ (8 * wd) - 1) := by
    have hc : clamp (8 * (wd : Int)) = 8 * wd := by unfold clamp; omega
    unfold Hid maskN
    rw [hc]
  obtain ⟨mk, hmk⟩ : ∃ m, maskN (8 * (wd : Int)) = m := ⟨_, rfl⟩
  have HMK := Lib.hid hmk
  have hmkl : mk < 18446744073709551616 := by rw [← hmk]; exact maskN_lt _
  have hand : (bits .and .u64 (x : Int) (mk : Int)) = (y : Int) := by
    rw [u64_and_nat x mk hx hmkl, ← hmk, hmask.out, Nat.and_two_pow_sub_one_eq_mod, hyv]
  have g1 : Hid (unle (((l ++ E) ++ l2).drop n |>.take wd) = y) := by
    unfold Hid
    rw [List.append_assoc, ← hln, List.drop_left, ← hEl, List.take_left, hy]
  have g2 : Hid (gvA ((l ++ V) ++ l2) (n : Int) = (k : Int) ∧ gvB ((l ++ V) ++ l2) (n : Int) = (n : Int) + V.length ∧ gvC ((l ++ V) ++ l2) (n : Int) = true) := by
    have h1 := gv_there l l2 k hk
    rw [hln, hV] at h1
    unfold Hid gvA gvB gvC
    rw [h1]
    exact ⟨rfl, rfl, rfl⟩
  have g4 : Hid (gvA ((l ++ V).take ((l ++ V).length - 1)) (n : Int) = 0 ∧ gvB ((l ++ V).take ((l ++ V).length - 1)) (n : Int) = 0 ∧ gvC ((l ++ V).take ((l ++ V).length - 1)) (n : Int) = false) := by
    have h1 := gv_cut_off l k
    rw [hln, hV] at h1
    unfold Hid gvA gvB gvC
    rw [h1]
    exact ⟨rfl, rfl, rfl⟩
  have g3 : Hid (gtA ((l ++ T ++ S) ++ l2) (n : Int) (s.size : Int) = S ∧ gtB ((l ++ T ++ S) ++ l2) (n : Int) (s.size : Int) = (n : Int) + T.length + s.size ∧ gtC ((l ++ T ++ S) ++ l2) (n : Int) (s.size : Int) = true) := by
    have h1 := gv_there l (S ++ l2) s.size (by omega)
    rw [hln, hT] at h1
    have h2 : gtO ((l ++ T ++ S) ++ l2) (n : Int) (s.size : Int) = some (S, (n : Int) + T.length + s.size) := by
      unfold gtO
      rw [List.append_assoc (l ++ T) S l2, h1]
      simp only [Option.bind_some, Int.toNat_natCast]
      rw [if_pos ⟨by omega, by simp [hln, hsz]; omega⟩]
      have e : ((l ++ T) ++ (S ++ l2)).drop (n + T.length) = S ++ l2 := by
        rw [← hln, ← List.length_append, List.drop_left]
      rw [e, ← hsz, List.take_left]
    unfold Hid gtA gtB gtC
    rw [h2]
    exact ⟨rfl, rfl, rfl⟩
  have g5 : Hid (gtA (l ++ T ++ S) (n : Int) ((s.size : Int) - 1) = [] ∧ gtB (l ++ T ++ S) (n : Int) ((s.size : Int) - 1) = 0 ∧ gtC (l ++ T ++ S) (n : Int) ((s.size : Int) - 1) = false) := by
    have h1 := gv_there l S s.size (by omega)
    rw [hln, hT] at h1
    have h2 : gtO (l ++ T ++ S) (n : Int) ((s.size : Int) - 1) = none := by
      unfold gtO
      rw [h1]
      simp only [Option.bind_some]
      rw [if_neg (by omega)]
    unfold Hid gtA gtB gtC
    rw [h2]
    exact ⟨rfl, rfl, rfl⟩
  have HS := Lib.hid hS
  have HSS := Lib.hid hsS
  have HV := Lib.hid hV
  have HT := Lib.hid hT
  have HE := Lib.hid hE
  have HSZ := Lib.hid hsz
  have HEL := Lib.hid hEl
  have HAND := Lib.hid hand
  obtain ⟨vl, hvl⟩ : ∃ v, V.length = v := ⟨_, rfl⟩
  obtain ⟨tl, htl⟩ : ∃ v, T.length = v := ⟨_, rfl⟩
  rw [hvl] at hvk
  rw [htl] at hvs
  have HVL := Lib.hid hvl
  have HTL := Lib.hid htl
  clear hS hsS hV hT hE hsz hEl hy hyv hmask hmk hand hln hvl htl c1 c2 c3 c4 c5 c6 hk1 hss
  go_enter Try.func14, Try.ntmps14
  go_wp2_with fail
  refine (bits_Put_loop A n cp l x wd _ hs (by omega) hx d4 d5).mono ?_
  rintro e w1 ⟨B1, c1, rfl, hb1, hx1⟩
  rw [put, HE.out] at hb1
  go_wp2_with fail
  refine (bits_Var A n cp l (k : Int) _ (hs.ext hx1) (by omega) (by omega)).mono ?_
  rintro e w2 ⟨B2, m2, c2, rfl, hb2, hx2⟩
  rw [Int.toNat_natCast, HV.out] at hb2
  have hm2 : m2 = n + vl := by
    have := hb2.len
    rw [List.length_append, hs.len, HVL.out] at this
    exact this.symm
  subst hm2
  go_wp2_with fail
  refine (bits_Text A n cp l s _ (hs.ext (hx1.trans hx2)) (by omega) (by omega)).mono ?_
  rintro e w3 ⟨B3, m3, c3, rfl, hb3, hx3⟩
  rw [HT.out, HS.out] at hb3
  have hm3 : m3 = n + tl + s.size := by
    have := hb3.len
    rw [List.length_append, List.length_append, hs.len, HTL.out, HSZ.out] at this
    exact this.symm
  subst hm3
  have hx03 : Ext w w3 := hx1.trans (hx2.trans hx3)
  have s1 := (hb1.ext (hx2.trans hx3)).sl
  have s2 := (hb2.ext hx3).sl
  have s3 := hb3.sl
  have r2 := hs2.ext hx03
  clear hb1 hb2 hb3 hx1 hx2 hx3
  go_wp2_with (first | (at_builtin; refine wpList_append_mine _ rfl (.tmp 67) (.tmp 68) _ _ rfl w3.heap.size U8 i0 _ 1 1 under_bytes hi0 hz0 hz1 hz2 rfl _ 0 0 _ rfl (Own.nil _ _ _ _ _) _ rfl (n + wd) ((l ++ E).map bv) ((s1.ext (Ext.alloc _ _)).src under_bytes) (by simp only [maxLen]; omega) (by omega) (by simp) ?_; intro Pa cpa wpa howna hga _; have hbpa : Byt U8 wpa w3.heap.size Pa (n + wd) cpa (l ++ E) := ⟨s1.len, by simpa using howna⟩; have hxpa : Ext w3 wpa := below_grown (Ext.alloc w3 _) (Own.nil _ _ U8 1 _) hga (by simp); clear howna hga) | (at_builtin; refine wpList_append_mine _ rfl (.tmp 69) (.tmp 70) _ _ rfl w3.heap.size U8 i0 _ 1 1 under_bytes hi0 hz0 hz1 hz2 rfl Pa (n + wd) cpa _ rfl hbpa.own _ rfl n2 (l2.map bv) ((r2.ext hxpa).src under_bytes) (by simp only [maxLen]; omega) (by omega) hxpa.size ?_; intro Qa cqa wqa hownqa hgqa _; skip))
  have hqa : Byt U8 wqa w3.heap.size Qa ((n + wd) + n2) cqa ((l ++ E) ++ l2) := Byt.more s1.len r2.len hownqa rfl
  have hxqa : Ext w3 wqa := below_grown hxpa hbpa.own hgqa hxpa.size
  clear hownqa hgqa hbpa hxpa
  refine (bits_Get_yes Qa _ cqa ((l ++ E) ++ l2) n wd _ hqa.sl d4 d5 (by omega)).mono ?_
  rintro e w4 ⟨rfl, rfl⟩
  rw [g1.out]
  go_wp2_with (first | (at_builtin; refine wpList_append_mine _ rfl (.tmp 79) (.tmp 80) _ _ rfl wqa.heap.size U8 i0 _ 1 1 under_bytes hi0 hz0 hz1 hz2 rfl _ 0 0 _ rfl (Own.nil _ _ _ _ _) _ rfl (n + vl) ((l ++ V).map bv) (((s2.ext hxqa).ext (Ext.alloc _ _)).src under_bytes) (by simp only [maxLen]; omega) (by omega) (by simp) ?_; intro Pb cpb wpb hownb hgb _; have hbpb : Byt U8 wpb wqa.heap.size Pb (n + vl) cpb (l ++ V) := ⟨(s2.ext hxqa).len, by simpa using hownb⟩; have hxpb : Ext wqa wpb := below_grown (Ext.alloc wqa _) (Own.nil _ _ U8 1 _) hgb (by simp); clear hownb hgb) | (at_builtin; refine wpList_append_mine _ rfl (.tmp 81) (.tmp 82) _ _ rfl wqa.heap.size U8 i0 _ 1 1 under_bytes hi0 hz0 hz1 hz2 rfl Pb (n + vl) cpb _ rfl hbpb.own _ rfl n2 (l2.map bv) (((r2.ext hxqa).ext hxpb).src under_bytes) (by simp only [maxLen]; omega) (by omega) hxpb.size ?_; intro Qb cqb wqb hownqb hgqb _; skip))
  have hqb : Byt U8 wqb wqa.heap.size Qb ((n + vl) + n2) cqb ((l ++ V) ++ l2) := Byt.more (s2.ext hxqa).len (r2.ext hxqa).len hownqb rfl
  have hxqb : Ext wqa wqb := below_grown hxpb hbpb.own hgqb hxpb.size
  clear hownqb hgqb hbpb hxpb
  refine (bits_GetVar' hqb.sl (by omega) g2).mono ?_
  rintro e w4 ⟨rfl, rfl⟩
  rw [HVL.out]
  have hx5 : Ext w3 wqb := hxqa.trans hxqb
  go_wp2_with (first | (at_builtin; refine wpList_append_mine _ rfl (.tmp 91) (.tmp 92) _ _ rfl wqb.heap.size U8 i0 _ 1 1 under_bytes hi0 hz0 hz1 hz2 rfl _ 0 0 _ rfl (Own.nil _ _ _ _ _) _ rfl (n + tl + s.size) ((l ++ T ++ S).map bv) (((s3.ext hx5).ext (Ext.alloc _ _)).src under_bytes) (by simp only [maxLen]; omega) (by omega) (by simp) ?_; intro Pc cpc wpc hownc hgc _; have hbpc : Byt U8 wpc wqb.heap.size Pc (n + tl + s.size) cpc (l ++ T ++ S) := ⟨(s3.ext hx5).len, by simpa using hownc⟩; have hxpc : Ext wqb wpc := below_grown (Ext.alloc wqb _) (Own.nil _ _ U8 1 _) hgc (by simp); clear hownc hgc) | (at_builtin; refine wpList_append_mine _ rfl (.tmp 93) (.tmp 94) _ _ rfl wqb.heap.size U8 i0 _ 1 1 under_bytes hi0 hz0 hz1 hz2 rfl Pc (n + tl + s.size) cpc _ rfl hbpc.own _ rfl n2 (l2.map bv) (((r2.ext hx5).ext hxpc).src under_bytes) (by simp only [maxLen]; omega) (by omega) hxpc.size ?_; intro Qc cqc wqc hownqc hgqc _; skip))
  have hqc : Byt U8 wqc wqb.heap.size Qc ((n + tl + s.size) + n2) cqc ((l ++ T ++ S) ++ l2) := Byt.more (s3.ext hx5).len (r2.ext hx5).len hownqc rfl
  have hxqc : Ext wqb wqc := below_grown hxpc hbpc.own hgqc hxpc.size
  clear hownqc hgqc hbpc hxpc
  have hgt := bits_GetText Qc _ cqc ((l ++ T ++ S) ++ l2) (n : Int) (s.size : Int) wqc hqc.sl (by omega)
  rw [g3.out.1, g3.out.2.1, g3.out.2.2, HSS.out, HTL.out] at hgt
  refine hgt.mono ?_
  clear hgt
  rintro e w4 ⟨rfl, rfl⟩
  have hx6 : Ext w3 wqc := hx5.trans hxqc
  have s2c := s2.ext hx6
  have s3c := s3.ext hx6
  have hcut := s2c.upto (hi := n + vl - 1) (by omega)
  have hcl : (l ++ V).length = n + vl := s2c.len
  rw [← hcl] at hcut
  rw [hcl] at g4
  have hcut2 : Sl wqc B2 (n + vl - 1) c2 ((l ++ V).take (n + vl - 1)) := by rw [hcl] at hcut; exact hcut
  have hcc := s2c.cap
  obtain ⟨vl, rfl⟩ : ∃ v, vl = v + 1 := ⟨vl - 1, by omega⟩
  clear hcut hcl
  go_wp2_with fail
  refine (bits_GetVar' hcut2 (by omega) g4).mono ?_
  rintro e w4 ⟨rfl, rfl⟩
  go_wp2_with fail
  have hgt5 := bits_GetText B3 _ c3 (l ++ T ++ S) (n : Int) ((s.size : Int) - 1) wqc s3c (by omega)
  rw [g5.out.1, g5.out.2.1, g5.out.2.2] at hgt5
  refine hgt5.mono ?_
  clear hgt5
  rintro e w4 ⟨rfl, rfl⟩
  go_wp2_with fail
  refine (bits_Mask' HMK.out).mono ?_
  rintro e w4 ⟨rfl, rfl⟩
  have hand := HAND.out
  go_wp2_with fail
  refine (law1_known _).mono ?_
  rintro e w4 ⟨rfl, hx7⟩
  go_wp2_with fail
  go_ret
  exact ⟨rfl, hx03.trans (hx6.trans hx7)⟩
end Go.Proofs.Ytajifneohomibaa
