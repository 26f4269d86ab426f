/-
  The walk of one statement of chapter 4.
-/
import Derived.Test.YtcchlkialgjamaaFrameRow
namespace Go.Proofs.Ytcchlkialgjamaa
open Go.RowKit
set_option linter.unusedVariables false
set_option linter.unusedSimpArgs false
set_option linter.unnecessarySimpa false
set_option maxRecDepth 100000

theorem sameEn_refl (xs : List En) : sameEn xs xs = true := by unfold sameEn; simp
theorem Byt.upto {E : TypeId} {w : World} {B : Nat} {A : Option Addr} {n c m : Nat} {l : List UInt8} (h : Byt E w B A n c l) (hm : m ≤ n) : Byt E w B A m c (l.take m) := by
  refine ⟨by rw [List.length_take, h.len]; omega, ?_⟩
  rcases h.own with ⟨h1, h2, h3⟩ | ⟨g, cur, rfl, hB, hg, h1, h2, h3, h4, h5⟩
  · refine .inl ⟨h1, by omega, ?_⟩
    rw [List.map_take, h3, List.take_nil]
  · refine .inr ⟨g, cur, rfl, hB, hg, by omega, h2, h3, by simp [h.len]; omega, ?_⟩
    rw [List.map_take, ← h5, List.take_take]
    congr 1
    omega
theorem frozen_alloc_old {w : World} {p : Addr} {o : Obj} {u : Value} (h : w.cell? p = some u) : (w.alloc o).frozen? p = w.frozen? p := by
  have := World.block_lt_of_cell? _ _ h
  unfold World.frozen? World.alloc
  simp [Array.getElem?_push, Nat.ne_of_lt this]

/-- a halt: the walk goes no further by itself -/
def Halt (p : Prop) : Prop := p
theorem Halt.on {p : Prop} (h : p) : Halt p := h
set_option maxHeartbeats 2000000 in
theorem law_FrameRows (A : Option Addr) (n c : Nat) (xs : List En) (B : Option Addr) (nb cb : Nat) (d : List UInt8) (cu a x : Int) (w : World) (h : Lst 3 enR w A n c xs) (hd : Sl w B nb cb d) (hc0 : -9223372036854775808 ≤ cu) (hc1 : cu ≤ 9223372036854775807) (ha0 : -9223372036854775808 ≤ a) (ha1 : a ≤ 9223372036854775807) (hx0 : 0 ≤ x) (hx1 : x ≤ 255) :
    Calls Try.prog 7 #[.slice A n c, .slice B nb cb, .int .i64 cu, .int .i64 a, .int .u8 x] w fun e w' => e = .returned (.bool true) ∧ Ext w w' := by
  have h63 := h.n63
  have h63b := hd.n63
  by_cases t1 : 12 < n
  · clear hc0 hc1 ha0 ha1
    go_enter Try.func7, Try.ntmps7
    go_wp2_with fail
    refine (law4_known _).mono ?_
    rintro e w2 ⟨rfl, hx1⟩
    go_wp2_with fail
    go_ret
    exact ⟨rfl, hx1⟩
  by_cases t2 : 100 < nb
  · clear hc0 hc1 ha0 ha1
    go_enter Try.func7, Try.ntmps7
    go_wp2_with fail
    refine (law4_known _).mono ?_
    rintro e w2 ⟨rfl, hx1⟩
    go_wp2_with fail
    go_ret
    exact ⟨rfl, hx1⟩
  by_cases t3 : cu < 0
  · clear hc0 hc1 ha0 ha1
    go_enter Try.func7, Try.ntmps7
    go_wp2_with fail
    refine (law4_known _).mono ?_
    rintro e w2 ⟨rfl, hx1⟩
    go_wp2_with fail
    go_ret
    exact ⟨rfl, hx1⟩
  by_cases t4 : a < 0
  · clear hc0 hc1 ha0 ha1
    go_enter Try.func7, Try.ntmps7
    go_wp2_with fail
    refine (law4_known _).mono ?_
    rintro e w2 ⟨rfl, hx1⟩
    go_wp2_with fail
    go_ret
    exact ⟨rfl, hx1⟩
  obtain ⟨cu, rfl⟩ := Int.eq_ofNat_of_zero_le (by omega : 0 ≤ cu)
  obtain ⟨a, rfl⟩ := Int.eq_ofNat_of_zero_le (by omega : 0 ≤ a)
  obtain ⟨x, rfl⟩ := Int.eq_ofNat_of_zero_le hx0
  have hcu : cu ≤ 9223372036854775807 := by omega
  have hal : a ≤ 9223372036854775807 := by omega
  have hxl : x < 256 := by omega
  obtain ⟨F, hF⟩ : ∃ q, rowL xs = q := ⟨_, rfl⟩
  have hFl := rowL_len xs
  rw [hF, h.len] at hFl
  have HF := Lib.hid hF
  obtain ⟨i0, hi0, hz0, hz1, hz2⟩ := info_parts info_u8
  clear hc0 hc1 ha0 ha1 hx0 hx1 t3 t4 hF
  go_enter Try.func7, Try.ntmps7
  go_wp2_with fail
  refine (law4_row h (by omega) HF).mono ?_
  rintro e w1 ⟨A1, n1, c1, rfl, hb1, hx1⟩
  have hn1 : n1 ≤ 1344 := by rw [← hb1.len]; omega
  have hd1 := hd.ext hx1
  have hsz := hx1.size
  clear hFl
  obtain ⟨N, hN⟩ : ∃ N, n1 + nb = N := ⟨_, rfl⟩
  have hN5 : N ≤ 1444 := by omega
  have hkm : ((cu % (N + 1) : Nat) : Int) = (cu : Int) % ((N : Int) + 1) := by simp
  have hkl : cu % (N + 1) < N + 1 := Nat.mod_lt _ (by omega)
  obtain ⟨K, hK⟩ : ∃ K, N - cu % (N + 1) = K := ⟨_, rfl⟩
  obtain ⟨R, hR⟩ : ∃ R, cu % (N + 1) = R := ⟨_, rfl⟩
  rw [hR] at hkm hkl hK
  have hKN : K ≤ N := by omega
  have hNR : N = K + R := by omega
  have hkm2 := hkm.symm
  have hRN : R ≤ N := by omega
  have HN := Lib.hid hN
  have HNR := Lib.hid hNR
  clear hkm hkl hK hR hN hNR
  by_cases hK0 : K ≤ 0
  · skip
    go_wp2_with (
      at_builtin
      refine wpList_append_mine _ rfl _ _ _ _ rfl w.heap.size U8 i0 _ 1 1 under_bytes hi0 hz0 hz1 hz2 rfl A1 n1 c1 _ rfl hb1.own _ rfl nb (d.map bv) (hd1.src under_bytes) (by simp only [maxLen]; omega) (by omega) hsz ?_
      intro A2 c2 w2 hown2 hg2 _
      have hb2 : Byt U8 w2 w.heap.size A2 (n1 + nb) c2 (F ++ d) := Byt.more hb1.len hd1.len hown2 rfl
      have hx2 : Ext w w2 := below_grown hx1 hb1.own hg2 hsz
      rw [HN.out] at hb2 ⊢
      have hNR := HNR.out
      have h63n := hb2.sl.n63
      obtain ⟨hcut, hs3⟩ := cut_upto hb2.sl K ((N : Int) - (R : Int)) (by omega) hKN
      have hb3 := hb2.upto hKN
      obtain ⟨L1, hL1⟩ : ∃ q, (F ++ d).take K = q := ⟨_, rfl⟩
      rw [hL1] at hb3
      clear hs3 hL1 hb1 hd1 hown2 hg2 hx1 hb2 hNR
      obtain ⟨wz, hwz⟩ : ∃ q, q = w2 := ⟨_, rfl⟩
      subst hwz
      have hs2 := hb3.sl
      obtain ⟨L2, hL2⟩ : ∃ q, q = L1 := ⟨_, rfl⟩
      subst hL2
      have hxz := hx2
      )
    obtain ⟨er, her⟩ : ∃ q, enL (allL L2).1 = q := ⟨_, rfl⟩
    obtain ⟨em, hem⟩ : ∃ q, (allL L2).2 = q := ⟨_, rfl⟩
    have hA1 := @frame_All _ _ _ _ wz hs2 (by omega)
    have hA2 := fun (w9 : World) (h : Ext wz w9) => @ref_AllFrames _ _ _ _ w9 (hs2.ext h) (by omega)
    rw [her, hem] at hA1 hA2
    have hss := Lib.hid (sameEn_refl er)
    clear her hem
    go_wp2_with fail
    skip
    refine hA1.mono ?_
    rintro e w4 ⟨A4, n4, c4, rfl, ho4, hx4⟩
    go_wp2_with fail
    refine (hA2 _ hx4).mono ?_
    rintro e w5 ⟨A5, n5, c5, rfl, ho5, hx5⟩
    go_wp2_with fail
    refine (ref_SameEntries (ho4.lst.ext en_rep hx5) ho5.lst).mono ?_
    rintro e w6 ⟨rfl, hx6⟩
    rw [hss.out]
    go_wp2_with fail
    refine (law4_known _).mono ?_
    rintro e w7 ⟨rfl, hx7⟩
    go_wp2_with fail
    go_ret
    exact ⟨rfl, (((hxz.trans hx4).trans hx5).trans hx6).trans hx7⟩
  · obtain ⟨J, hJ, hJK⟩ : ∃ J : Nat, (a : Int) % (K : Int) = (J : Int) ∧ J < K := ⟨a % K, by simp, Nat.mod_lt _ (by omega)⟩
    skip
    go_wp2_with (
      at_builtin
      refine wpList_append_mine _ rfl _ _ _ _ rfl w.heap.size U8 i0 _ 1 1 under_bytes hi0 hz0 hz1 hz2 rfl A1 n1 c1 _ rfl hb1.own _ rfl nb (d.map bv) (hd1.src under_bytes) (by simp only [maxLen]; omega) (by omega) hsz ?_
      intro A2 c2 w2 hown2 hg2 _
      have hb2 : Byt U8 w2 w.heap.size A2 (n1 + nb) c2 (F ++ d) := Byt.more hb1.len hd1.len hown2 rfl
      have hx2 : Ext w w2 := below_grown hx1 hb1.own hg2 hsz
      rw [HN.out] at hb2 ⊢
      have hNR := HNR.out
      have h63n := hb2.sl.n63
      obtain ⟨hcut, hs3⟩ := cut_upto hb2.sl K ((N : Int) - (R : Int)) (by omega) hKN
      have hb3 := hb2.upto hKN
      obtain ⟨L1, hL1⟩ : ∃ q, (F ++ d).take K = q := ⟨_, rfl⟩
      rw [hL1] at hb3
      clear hs3 hL1 hb1 hd1 hown2 hg2 hx1 hb2 hNR
      go_loud (
      obtain ⟨g, rfl, hgB, hgl, hcell⟩ := hb3.open_ (by omega)
      obtain ⟨hc1, hf1⟩ := hcell J hJK
      obtain ⟨y, hy⟩ : ∃ y, y = L1.getD J 0 := ⟨_, rfl⟩
      rw [← hy] at hc1
      have hval : bits .xor .u8 (y.toNat : Int) (x : Int) = (((y ^^^ UInt8.ofNat x).toNat : Nat) : Int) := by
        have e : (x : Int) = (((UInt8.ofNat x).toNat : Nat) : Int) := by simp; omega
        rw [e, u8_xor_nat _ _ y.toNat_lt (UInt8.toNat_lt _), UInt8.toNat_xor]
      have hb4 := hb3.set_ hJK (y ^^^ UInt8.ofNat x)
      have hxz := hx2.sets (p := ⟨g, J, none⟩) hgB (bv (y ^^^ UInt8.ofNat x))
      obtain ⟨wz, hwz⟩ : ∃ q, w2.setCell ⟨g, J, none⟩ (bv (y ^^^ UInt8.ofNat x)) = q := ⟨_, rfl⟩
      obtain ⟨L2, hL2⟩ : ∃ q, L1.set J (y ^^^ UInt8.ofNat x) = q := ⟨_, rfl⟩
      rw [hwz] at hb4 hxz
      rw [hL2] at hb4
      have hs2 := hb4.sl
      have hwz2 : w2.setCell ⟨g, J, none⟩ (.int .u8 ((y ^^^ UInt8.ofNat x).toNat : Int)) = wz := hwz
      have HWZ := Lib.hid hwz2
      have HV := Lib.hid hval
      clear hcell hb3 hb4 hL2 hwz hwz2 hy hval))
    obtain ⟨er, her⟩ : ∃ q, enL (allL L2).1 = q := ⟨_, rfl⟩
    obtain ⟨em, hem⟩ : ∃ q, (allL L2).2 = q := ⟨_, rfl⟩
    have hA1 := @frame_All _ _ _ _ wz hs2 (by omega)
    have hA2 := fun (w9 : World) (h : Ext wz w9) => @ref_AllFrames _ _ _ _ w9 (hs2.ext h) (by omega)
    rw [her, hem] at hA1 hA2
    have hss := Lib.hid (sameEn_refl er)
    clear her hem
    go_wp2_with fail
    rw [HV.out, HWZ.out]
    refine hA1.mono ?_
    rintro e w4 ⟨A4, n4, c4, rfl, ho4, hx4⟩
    go_wp2_with fail
    refine (hA2 _ hx4).mono ?_
    rintro e w5 ⟨A5, n5, c5, rfl, ho5, hx5⟩
    go_wp2_with fail
    refine (ref_SameEntries (ho4.lst.ext en_rep hx5) ho5.lst).mono ?_
    rintro e w6 ⟨rfl, hx6⟩
    rw [hss.out]
    go_wp2_with fail
    refine (law4_known _).mono ?_
    rintro e w7 ⟨rfl, hx7⟩
    go_wp2_with fail
    go_ret
    exact ⟨rfl, (((hxz.trans hx4).trans hx5).trans hx6).trans hx7⟩
end Go.Proofs.Ytcchlkialgjamaa
