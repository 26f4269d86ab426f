/-
  The walk of one statement of chapter 2.
-/
import Derived.Test.YtajifneohomibaaCrcLaws
namespace Go.Proofs.Ytajifneohomibaa
open Go.RowKit
set_option linter.unusedVariables false
set_option maxRecDepth 100000

theorem law_CrcJoins (A : Option Addr) (n cp : Nat) (a : List UInt8) (A2 : Option Addr) (n2 cp2 : Nat) (b : List UInt8) (A3 : Option Addr) (n3 cp3 : Nat) (c : List UInt8) (w : World) (hs : Sl w A n cp a) (hs2 : Sl w A2 n2 cp2 b) (hs3 : Sl w A3 n3 cp3 c) :
    Calls Try.prog 8 #[.slice A n cp, .slice A2 n2 cp2, .slice A3 n3 cp3] w fun e w' => e = .returned (.bool true) ∧ Ext w w' := by
  have h63 := hs.n63
  have h63b := hs2.n63
  have h63c := hs3.n63
  obtain ⟨i0, hi0, hz0, hz1, hz2⟩ := info_parts info_u8
  by_cases hbig : 150 < n ∨ 150 < n2 ∨ 150 < n3
  · by_cases hn1 : 150 < n
    · go_enter Try.func8, Try.ntmps8
      go_wp2_with fail
      refine (law2_known _).mono ?_
      rintro e w1 ⟨rfl, hx1⟩
      go_wp2_with fail
      go_ret
      exact ⟨rfl, hx1⟩
    by_cases hn2 : 150 < n2
    · go_enter Try.func8, Try.ntmps8
      go_wp2_with fail
      refine (law2_known _).mono ?_
      rintro e w1 ⟨rfl, hx1⟩
      go_wp2_with fail
      go_ret
      exact ⟨rfl, hx1⟩
    have hn3 : 150 < n3 := by omega
    go_enter Try.func8, Try.ntmps8
    go_wp2_with fail
    refine (law2_known _).mono ?_
    rintro e w1 ⟨rfl, hx1⟩
    go_wp2_with fail
    go_ret
    exact ⟨rfl, hx1⟩
  have hn1 : n ≤ 150 := by omega
  have hn2 : n2 ≤ 150 := by omega
  have hn3 : n3 ≤ 150 := by omega
  clear hbig
  have hla := hs.len
  have hlb := hs2.len
  have hlc := hs3.len
  obtain ⟨qa, ha⟩ : ∃ q, crcOf a = q := ⟨_, rfl⟩
  obtain ⟨qb, hb⟩ : ∃ q, crcOf b = q := ⟨_, rfl⟩
  obtain ⟨qc, hc⟩ : ∃ q, crcOf c = q := ⟨_, rfl⟩
  obtain ⟨qab, hab⟩ : ∃ q, crcOf (a ++ b) = q := ⟨_, rfl⟩
  obtain ⟨qbc, hbc⟩ : ∃ q, crcOf (b ++ c) = q := ⟨_, rfl⟩
  obtain ⟨qabc, habc⟩ : ∃ q, crcOf ((a ++ b) ++ c) = q := ⟨_, rfl⟩
  have la : qa < 4294967296 := by rw [← ha]; exact crcOf_lt _
  have lb : qb < 4294967296 := by rw [← hb]; exact crcOf_lt _
  have lc : qc < 4294967296 := by rw [← hc]; exact crcOf_lt _
  have lab : qab < 4294967296 := by rw [← hab]; exact crcOf_lt _
  have lbc : qbc < 4294967296 := by rw [← hbc]; exact crcOf_lt _
  have j1 : Hid (crcJoin qa qb ((n2 : Int)).toNat = qab) := by
    unfold Hid
    rw [Int.toNat_natCast, ← ha, ← hb, ← hab, ← hlb]
    exact crcJoin_append a b
  have j2 : Hid (crcJoin qb qc ((n3 : Int)).toNat = qbc) := by
    unfold Hid
    rw [Int.toNat_natCast, ← hb, ← hc, ← hbc, ← hlc]
    exact crcJoin_append b c
  have j3 : Hid (crcJoin qab qc ((n3 : Int)).toNat = qabc) := by
    unfold Hid
    rw [Int.toNat_natCast, ← hab, ← hc, ← habc, ← hlc]
    exact crcJoin_append (a ++ b) c
  have j4 : Hid (crcJoin qa qbc ((n2 : Int) + (n3 : Int)).toNat = qabc) := by
    unfold Hid
    have e : ((n2 : Int) + (n3 : Int)).toNat = (b ++ c).length := by simp [hlb, hlc]; omega
    rw [e, ← ha, ← hbc, ← habc, List.append_assoc]
    exact crcJoin_append a (b ++ c)
  have j5 : Hid (crcJoin qa 0 ((0 : Int)).toNat = qa) := crcJoin_none qa
  have j6 : Hid (crcJoin 0 qa ((n : Int)).toNat = qa) := by
    unfold Hid
    rw [Int.toNat_natCast, ← ha, ← hla]
    exact crcJoin_first a
  have Ha := Lib.hid ha
  have Hb := Lib.hid hb
  have Hc := Lib.hid hc
  have Hab := Lib.hid hab
  have Habc := Lib.hid habc
  clear ha hb hc hab hbc habc hla hlb hlc
  go_enter Try.func8, Try.ntmps8
  go_wp2_with (first | (at_builtin; refine wpList_append_mine _ rfl (.tmp 25) (.tmp 26) _ _ rfl w.heap.size U8 i0 _ 1 1 under_bytes hi0 hz0 hz1 hz2 rfl _ 0 0 _ rfl (Own.nil _ _ _ _ _) _ rfl n (a.map bv) ((hs.ext (Ext.alloc _ _)).src under_bytes) (by simp only [maxLen]; omega) (by omega) (by simp) ?_; intro B1 c1 w1 hown1 hg1 _; have hb1 : Byt U8 w1 w.heap.size B1 n c1 a := ⟨hs.len, by simpa using hown1⟩; have hx1 : Ext w w1 := below_grown (Ext.alloc w _) (Own.nil _ _ U8 1 _) hg1 (by simp); clear hown1 hg1; have hs2a := hs2.ext hx1) | (at_builtin; refine wpList_append_mine _ rfl (.tmp 27) (.tmp 28) _ _ rfl w.heap.size U8 i0 _ 1 1 under_bytes hi0 hz0 hz1 hz2 rfl B1 n c1 _ rfl hb1.own _ rfl n2 (b.map bv) (hs2a.src under_bytes) (by simp only [maxLen]; omega) (by omega) hx1.size ?_; intro B2 c2 w2 hown2 hg2 _; have hb2 : Byt U8 w2 w.heap.size B2 (n + n2) c2 (a ++ b) := Byt.more hs.len hs2.len hown2 rfl; have hx2 : Ext w w2 := below_grown hx1 hb1.own hg2 hx1.size; clear hown2 hg2 hb1 hs2a) | (at_builtin; refine wpList_append_mine _ rfl (.tmp 30) (.tmp 31) _ _ rfl w2.heap.size U8 i0 _ 1 1 under_bytes hi0 hz0 hz1 hz2 rfl _ 0 0 _ rfl (Own.nil _ _ _ _ _) _ rfl (n + n2) ((a ++ b).map bv) ((hb2.sl.ext (Ext.alloc _ _)).src under_bytes) (by simp only [maxLen]; omega) (by omega) (by simp) ?_; intro B3 c3 w3 hown3 hg3 _; have hb3 : Byt U8 w3 w2.heap.size B3 (n + n2) c3 (a ++ b) := ⟨hb2.len, by simpa using hown3⟩; have hx3 : Ext w2 w3 := below_grown (Ext.alloc w2 _) (Own.nil _ _ U8 1 _) hg3 (by simp); clear hown3 hg3) | (at_builtin; refine wpList_append_mine _ rfl (.tmp 32) (.tmp 33) _ _ rfl w2.heap.size U8 i0 _ 1 1 under_bytes hi0 hz0 hz1 hz2 rfl B3 (n + n2) c3 _ rfl hb3.own _ rfl n3 (c.map bv) ((hs3.ext (hx2.trans hx3)).src under_bytes) (by simp only [maxLen]; omega) (by omega) hx3.size ?_; intro B4 c4 w4 hown4 hg4 _; skip))
  have hb4 : Byt U8 w4 w2.heap.size B4 (n + n2 + n3) c4 ((a ++ b) ++ c) := Byt.more hb2.len hs3.len hown4 rfl
  have hx4 : Ext w2 w4 := below_grown hx3 hb3.own hg4 hx3.size
  have hx : Ext w w4 := hx2.trans hx4
  have sa := hs.ext hx
  have sb := hs2.ext hx
  have sc := hs3.ext hx
  have sab := (hb2.ext hx4).sl
  have sabc := hb4.sl
  clear hown4 hg4 hb3 hx3 hb2 hb4 hs hs2 hs3 hx2 hx4
  refine (crc_Of' sa Ha).mono ?_
  rintro e w5 ⟨rfl, rfl⟩
  go_wp2_with fail
  refine (crc_Of' sb Hb).mono ?_
  rintro e w1 ⟨rfl, rfl⟩
  go_wp2_with fail
  refine (crc_Join' la lb (by omega) j1).mono ?_
  rintro e w1 ⟨rfl, rfl⟩
  go_wp2_with fail
  refine (crc_Of' sb Hb).mono ?_
  rintro e w1 ⟨rfl, rfl⟩
  go_wp2_with fail
  refine (crc_Of' sc Hc).mono ?_
  rintro e w1 ⟨rfl, rfl⟩
  go_wp2_with fail
  refine (crc_Join' lb lc (by omega) j2).mono ?_
  rintro e w1 ⟨rfl, rfl⟩
  go_wp2_with fail
  refine (crc_Of' sab Hab).mono ?_
  rintro e w1 ⟨rfl, rfl⟩
  go_wp2_with fail
  refine (crc_Of' sc Hc).mono ?_
  rintro e w1 ⟨rfl, rfl⟩
  go_wp2_with fail
  refine (crc_Join' lab lc (by omega) j3).mono ?_
  rintro e w1 ⟨rfl, rfl⟩
  go_wp2_with fail
  refine (crc_Of' sabc Habc).mono ?_
  rintro e w1 ⟨rfl, rfl⟩
  go_wp2_with fail
  refine (crc_Of' sa Ha).mono ?_
  rintro e w1 ⟨rfl, rfl⟩
  go_wp2_with fail
  refine (crc_Join' la lbc (by omega) j4).mono ?_
  rintro e w1 ⟨rfl, rfl⟩
  go_wp2_with fail
  refine (crc_Of' sabc Habc).mono ?_
  rintro e w1 ⟨rfl, rfl⟩
  go_wp2_with fail
  refine (crc_Of' sa Ha).mono ?_
  rintro e w1 ⟨rfl, rfl⟩
  go_wp2_with fail
  refine (crc_Join' la (by omega) (by omega) j5).mono ?_
  rintro e w1 ⟨rfl, rfl⟩
  go_wp2_with fail
  refine (crc_Of' sa Ha).mono ?_
  rintro e w1 ⟨rfl, rfl⟩
  go_wp2_with fail
  refine (crc_Of' sa Ha).mono ?_
  rintro e w1 ⟨rfl, rfl⟩
  go_wp2_with fail
  refine (crc_Join' (by omega) la (by omega) j6).mono ?_
  rintro e w1 ⟨rfl, rfl⟩
  go_wp2_with fail
  refine (crc_Of' sa Ha).mono ?_
  rintro e w1 ⟨rfl, rfl⟩
  go_wp2_with fail
  refine (law2_known _).mono ?_
  rintro e w1 ⟨rfl, hx1⟩
  go_wp2_with fail
  go_ret
  exact ⟨rfl, hx.trans hx1⟩
end Go.Proofs.Ytajifneohomibaa
