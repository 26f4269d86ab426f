/-
  Chapter 8: the statement HeaderSeen, walked.
-/
import Derived.Test.YtoeknbogaclfdaaZLaw8
import Derived.Test.YtoeknbogaclfdaaZMake8
import Derived.Test.YtoeknbogaclfdaaZSeenPlain
namespace Go.Proofs.Ytoeknbogaclfdaa
open Go.RowKit
set_option linter.unusedVariables false
set_option linter.unusedSimpArgs false
set_option linter.unnecessarySimpa false
set_option maxRecDepth 100000

abbrev mkCS (x : Mk) : Array Value := #[.int .i64 x.id, .string x.nm, .int .i64 x.sz, .bool x.gone]
theorem undef_not {b : Bool} (h : some undef = some (Value.bool b)) : False := by
  injection h with h
  cases h
set_option maxHeartbeats 8000000 in
theorem law_HeaderSeen (a0 : Int) (Ai : Option Addr) (n ci : Nat) (l : List Int) (s : ByteArray) (w : World) (hi : Lst 1 intR w Ai n ci l) (hss : s.size ≤ maxLen) :
    Calls Try.prog 7 #[.int .i64 a0, .slice Ai n ci, .string s] w fun e w' => e = .returned (.bool true) ∧ Ext w w' := by
  have h63 := hi.n63
  unfold maxLen at hss
  by_cases hn30 : 30 < n
  · go_enter Try.func7, Try.ntmps7
    go_wp2_with fail
    refine (law8_known _).mono ?_
    rintro e wz ⟨rfl, hxz⟩
    go_wp2_with fail
    go_ret
    exact ⟨rfl, hxz⟩
  have d30 : decide ((30 : Int) < (n : Int)) = false := by simp; omega
  by_cases hs30 : 30 < s.size
  · go_enter Try.func7, Try.ntmps7
    go_wp2_with fail
    refine (law8_known _).mono ?_
    rintro e wz ⟨rfl, hxz⟩
    go_wp2_with fail
    go_ret
    exact ⟨rfl, hxz⟩
  have ds30 : decide ((30 : Int) < (s.size : Int)) = false := by simp; omega
  obtain ⟨h, hh⟩ : ∃ h, makeH a0 0 0 0 l = h := ⟨_, rfl⟩
  have HH := Lib.hid hh
  have hv := make_inv l
  have hm16 : makeN l ≤ 16 := by unfold makeN; omega
  have hms : h.marks = (mkF (l.take (makeN l)) 0 st0).ms := by rw [← hh]; rfl
  have hnx : h.next = (mkF (l.take (makeN l)) 0 st0).nx := by rw [← hh]; rfl
  obtain ⟨q1, q2, q3, q4, q5, q6, ps⟩ := h
  simp only at hms hnx
  have HF : Hid (∀ (i : Nat) (m : Mk), ps[i]? = some m → findM ps m.nm = if seenM m = true then some m else none) := by
    unfold Hid
    rw [hms]
    exact fun i m hx => made_find hv hm16 hx
  have HN2 : Hid (∀ (i : Nat) (m : Mk), ps[i]? = some m → m.nm.size = 2) := by
    unfold Hid
    rw [hms]
    exact fun i m hx => made_nm hv hx
  have HSH : Hid (Shorts ps) := fun x hx => by
    obtain ⟨j, hj⟩ := List.getElem?_of_mem hx
    have := HN2.out j x hj
    omega
  have HPS : Hid (ps.length ≤ 16) := by unfold Hid; rw [hms, hv.len]; exact hm16
  obtain ⟨S, hS⟩ : ∃ S, seenL ps = S := ⟨_, rfl⟩
  have HS := Lib.hid hS
  have HS8 : Hid (S.length ≤ 8) := by unfold Hid; rw [← hS, hms, hv.seen.1]; exact hv.seen.2
  obtain ⟨ne, hne⟩ : ∃ q, newestI ps = q := ⟨_, rfl⟩
  have HNE := Lib.hid hne
  have hlt : ne < q5 := by
    rw [← hne, hnx]
    refine newest_lt (by have := hv.nx; omega) (fun x hx => ?_)
    rw [hms] at hx
    exact okF_ids _ _ hv.ids x hx
  clear hh hv hm16 hms hnx hS hne
  go_enter Try.func7, Try.ntmps7
  go_wp2_with fail
  refine (law8_Make a0 0 0 0 hi (by omega) HH).mono ?_
  rintro e w1 ⟨A1, n1, c1, rfl, ol, hx1⟩
  have hn16 : n1 ≤ 16 := by rw [← ol.len]; exact HPS.out
  have b0 := cell_new w1 #[.int .i64 q1, .int .i64 q2, .int .i64 q3, .int .i64 q4, .int .i64 q5, .int .i64 q6, .slice A1 n1 c1] THd 0
  have b1 := cell_new w1 #[.int .i64 q1, .int .i64 q2, .int .i64 q3, .int .i64 q4, .int .i64 q5, .int .i64 q6, .slice A1 n1 c1] THd 1
  have b2 := cell_new w1 #[.int .i64 q1, .int .i64 q2, .int .i64 q3, .int .i64 q4, .int .i64 q5, .int .i64 q6, .slice A1 n1 c1] THd 2
  have b3 := cell_new w1 #[.int .i64 q1, .int .i64 q2, .int .i64 q3, .int .i64 q4, .int .i64 q5, .int .i64 q6, .slice A1 n1 c1] THd 3
  have b4 := cell_new w1 #[.int .i64 q1, .int .i64 q2, .int .i64 q3, .int .i64 q4, .int .i64 q5, .int .i64 q6, .slice A1 n1 c1] THd 4
  have b5 := cell_new w1 #[.int .i64 q1, .int .i64 q2, .int .i64 q3, .int .i64 q4, .int .i64 q5, .int .i64 q6, .slice A1 n1 c1] THd 5
  have b6 := cell_new w1 #[.int .i64 q1, .int .i64 q2, .int .i64 q3, .int .i64 q4, .int .i64 q5, .int .i64 q6, .slice A1 n1 c1] THd 6
  have gx1 := hx1.allocs (.cells #[.int .i64 q1, .int .i64 q2, .int .i64 q3, .int .i64 q4, .int .i64 q5, .int .i64 q6, .slice A1 n1 c1] THd)
  have l1 := ol.lst.ext mk_rep (Ext.alloc w1 (.cells #[.int .i64 q1, .int .i64 q2, .int .i64 q3, .int .i64 q4, .int .i64 q5, .int .i64 q6, .slice A1 n1 c1] THd))
  clear hx1 ol
  go_wp2_with fail
  refine (header_Seen ⟨q1, q2, q3, q4, q5, q6, ps⟩ l1 HSH (by omega) HS).mono ?_
  rintro e w2 ⟨A2, n2, c2, rfl, ol2, hx2⟩
  have hn8 : n2 ≤ 8 := by rw [← ol2.len]; exact HS8.out
  replace b0 := hx2.cell b0
  replace b1 := hx2.cell b1
  replace b2 := hx2.cell b2
  replace b3 := hx2.cell b3
  replace b4 := hx2.cell b4
  replace b5 := hx2.cell b5
  replace b6 := hx2.cell b6
  replace gx1 := gx1.trans hx2
  replace l1 := l1.ext mk_rep hx2
  have l2 := ol2.lst
  clear hx2 ol2
  have h631 := l1.n63
  have h632 := l2.n63
  go_wp2_with fail
  go_loopw [9, 10] (fun kv iv wr => ∃ (i k : Nat), i ≤ n1 ∧ k ≤ i ∧ kv = .int .i64 (k : Int) ∧ iv = .int .i64 (i : Int) ∧ Hid ((seenL (ps.take i)).length = k) ∧ Ext w2 wr) (fun _ iv _ => n1 - (intOf iv).toNat)
  case atStart => exact ⟨0, 0, by omega, by omega, rfl, rfl, rfl, Ext.refl _⟩
  case round =>
    obtain ⟨i, k, hin, hki, rfl, rfl, hk, hxr⟩ := hrel
    replace b0 := hxr.cell b0
    replace b1 := hxr.cell b1
    replace b2 := hxr.cell b2
    replace b3 := hxr.cell b3
    replace b4 := hxr.cell b4
    replace b5 := hxr.cell b5
    replace b6 := hxr.cell b6
    replace l2 := l2.ext mk_rep hxr
    replace l1 := l1.ext mk_rep hxr
    obtain ⟨wo, rfl⟩ : ∃ q, q = wr := ⟨_, rfl⟩
    by_cases hlt2 : i < n1
    · obtain ⟨ga, oa, x, cs, rfl, hx, rfl, ha⟩ := l1.at2 mk_rep (by omega) hlt2
      have e0 : wo.cell? ⟨ga, oa + i * 4, none⟩ = _ := ha 0 _ rfl
      have e1 := ha 1 _ rfl
      have e2 := ha 2 _ rfl
      have e3 := ha 3 _ rfl
      have hff := HF.out i x hx
      have hnm2 := HN2.out i x hx
      have hsn := seenL_next hx
      have hsa := seen_at hx
      rw [hk.out, HS.out] at hsa
      have htl := tilde_at (s := x.nm) (by omega)
      have hsi := seenM_iff (x := x)
      obtain ⟨q, hq⟩ : ∃ q, seenM x = q := ⟨_, rfl⟩
      rw [hq] at hff hsn hsa hsi
      obtain ⟨x1, x2, x3, x4⟩ := x
      simp only at e0 e1 e2 e3 hff hnm2 htl hsi
      have gxo := gx1.trans hxr
      have gy := Ext.alloc wo (.cells #[.int .i64 x1, .string x2, .int .i64 x3, .bool x4] TMk)
      have r0 := cell_new wo #[.int .i64 x1, .string x2, .int .i64 x3, .bool x4] TMk 0
      have r1 := cell_new wo #[.int .i64 x1, .string x2, .int .i64 x3, .bool x4] TMk 1
      have r2 := cell_new wo #[.int .i64 x1, .string x2, .int .i64 x3, .bool x4] TMk 2
      have r3 := cell_new wo #[.int .i64 x1, .string x2, .int .i64 x3, .bool x4] TMk 3
      have bb0 := gy.cell b0
      have bb1 := gy.cell b1
      have bb2 := gy.cell b2
      have bb3 := gy.cell b3
      have bb4 := gy.cell b4
      have bb5 := gy.cell b5
      have bb6 := gy.cell b6
      have l1' := l1.ext mk_rep gy
      have hX := Lib.hid hx
      clear ha hq hx
      cases q with
      | false =>
        have HFM : Hid (findM ps x2 = none) := by unfold Hid; rw [hff]; rfl
        have HK : Hid ((seenL (ps.take (i + 1))).length = k) := by unfold Hid; rw [hsn]; simpa using hk.out
        clear hff hsn hsa hk
        cases x4 with
        | true =>
          clear hsi htl
          go_wp2_with fail
          obtain ⟨fm, hfm⟩ : ∃ q, (none : Option Mk).getD mk0 = q := ⟨_, rfl⟩
          have hfc := header_Find ⟨q1, q2, q3, q4, q5, q6, ps⟩ x2 l1' HSH HFM
          rw [hfm] at hfc
          clear hfm
          obtain ⟨f1, f2, f3, f4⟩ := fm
          refine hfc.mono ?_
          rintro e w3 ⟨rfl, hx3⟩
          clear hfc
          have gx4 := hx3.allocs (.cells #[.int .i64 f1, .string f2, .int .i64 f3, .bool f4] TMk)
          replace r0 := gx4.cell r0
          replace r1 := gx4.cell r1
          replace r2 := gx4.cell r2
          replace r3 := gx4.cell r3
          replace gx4 := (hxr.trans gy).trans gx4
          clear hx3 l1' bb0 bb1 bb2 bb3 bb4 bb5 bb6 e0 e1 e2 e3
          go_wp2_with fail
          go_roundw
          case rel => exact ⟨i + 1, k, by omega, by omega, rfl, by go_num, HK, gx4⟩
          case measure => simp [intOf]; omega
        | false =>
          have ht : tildeB x2 = true := by
            cases e : tildeB x2 with
            | true => rfl
            | false => exact absurd (hsi.2 ⟨rfl, e⟩) (by simp)
          rw [ht] at htl
          have hb : (((x2[0]'(by omega)).toNat : Int) == 126) = true := by
            have := htl.symm
            simp only [decide_eq_true_eq] at this
            simp
            omega
          clear hsi htl ht
          go_wp2_with fail
          obtain ⟨fm, hfm⟩ : ∃ q, (none : Option Mk).getD mk0 = q := ⟨_, rfl⟩
          have hfc := header_Find ⟨q1, q2, q3, q4, q5, q6, ps⟩ x2 l1' HSH HFM
          rw [hfm] at hfc
          clear hfm
          obtain ⟨f1, f2, f3, f4⟩ := fm
          refine hfc.mono ?_
          rintro e w3 ⟨rfl, hx3⟩
          clear hfc
          have gx4 := hx3.allocs (.cells #[.int .i64 f1, .string f2, .int .i64 f3, .bool f4] TMk)
          replace r0 := gx4.cell r0
          replace r1 := gx4.cell r1
          replace r2 := gx4.cell r2
          replace r3 := gx4.cell r3
          replace gx4 := (hxr.trans gy).trans gx4
          clear hx3 l1' bb0 bb1 bb2 bb3 bb4 bb5 bb6 e0 e1 e2 e3
          go_wp2_with fail
          go_roundw
          case rel => exact ⟨i + 1, k, by omega, by omega, rfl, by go_num, HK, gx4⟩
          case measure => simp [intOf]; omega
      | true =>
        obtain ⟨rfl, ht⟩ := hsi.1 rfl
        have HFM : Hid (findM ps x2 = some ⟨x1, x2, x3, false⟩) := by unfold Hid; rw [hff]; rfl
        have HK : Hid ((seenL (ps.take (i + 1))).length = k + 1) := by unfold Hid; rw [hsn, if_pos rfl, List.length_append, hk.out]; rfl
        have hS2 := hsa rfl
        have hkn : k < n2 := by rw [← l2.len]; exact (List.getElem?_eq_some_iff.1 hS2).1
        obtain ⟨gs, os, y, ys, rfl, hy, rfl, hys⟩ := l2.at2 mk_rep (by omega) hkn
        rw [hS2] at hy
        injection hy with hy
        subst hy
        have s0 : wo.cell? ⟨gs, os + k * 4, none⟩ = _ := hys 0 _ rfl
        have s1 := hys 1 _ rfl
        have s2 := hys 2 _ rfl
        have s3 := hys 3 _ rfl
        simp only at s0 s1 s2 s3
        rw [ht] at htl
        have hb : (((x2[0]'(by omega)).toNat : Int) == 126) = false := by
          have := htl.symm
          simp only [decide_eq_false_iff_not] at this
          simp
          omega
        have hkn2 : decide ((n2 : Int) ≤ (k : Int)) = false := by simp; omega
        clear hff hsn hsa hk hys hS2 htl ht hsi
        go_wp2_with fail
        have hfc := header_Find ⟨q1, q2, q3, q4, q5, q6, ps⟩ x2 l1' HSH HFM
        simp only [Option.getD_some] at hfc
        refine hfc.mono ?_
        rintro e w3 ⟨rfl, hx3⟩
        clear hfc
        have gx4 := hx3.allocs (.cells #[.int .i64 x1, .string x2, .int .i64 x3, .bool false] TMk)
        replace r0 := gx4.cell r0
        have t0 := cell_new w3 #[.int .i64 x1, .string x2, .int .i64 x3, .bool false] TMk 0
        replace s0 := (gy.trans gx4).cell s0
        replace r1 := gx4.cell r1
        have t1 := cell_new w3 #[.int .i64 x1, .string x2, .int .i64 x3, .bool false] TMk 1
        replace s1 := (gy.trans gx4).cell s1
        replace r2 := gx4.cell r2
        have t2 := cell_new w3 #[.int .i64 x1, .string x2, .int .i64 x3, .bool false] TMk 2
        replace s2 := (gy.trans gx4).cell s2
        replace r3 := gx4.cell r3
        have t3 := cell_new w3 #[.int .i64 x1, .string x2, .int .i64 x3, .bool false] TMk 3
        replace s3 := (gy.trans gx4).cell s3
        replace gx4 := (hxr.trans gy).trans gx4
        clear hx3 l1' bb0 bb1 bb2 bb3 bb4 bb5 bb6 e0 e1 e2 e3
        go_wp2_with fail
        go_quiet (fail)
        go_wp2_with fail
        go_roundw
        case rel => exact ⟨i + 1, k + 1, by omega, by omega, by go_num, by go_num, HK, gx4.drewN _⟩
        case measure => simp [intOf]; omega
    · obtain rfl : i = n1 := by omega
      have e := hk.out
      rw [List.take_of_length_le (by rw [l1.len]; exact Nat.le_refl _), HS.out, l2.len] at e
      subst e
      have gxo := gx1.trans hxr
      obtain ⟨fo, hfo⟩ : ∃ q, findM ps s = q := ⟨_, rfl⟩
      have HFO := Lib.hid hfo
      obtain ⟨fm, hfm⟩ : ∃ q, fo.getD mk0 = q := ⟨_, rfl⟩
      have hfs : fo.isSome = true → fm.nm = s ∧ fm.gone = false := by
        intro e
        cases fo with
        | none => cases e
        | some y => obtain rfl : y = fm := hfm; exact find_nm hfo
      obtain ⟨is, his⟩ : ∃ q, fo.isSome = q := ⟨_, rfl⟩
      rw [his] at hfs
      have HFG := Lib.hid hfm
      have HIS := Lib.hid his
      obtain ⟨f1, f2, f3, f4⟩ := fm
      simp only at hfs
      have HFS := Lib.hid hfs
      clear hk hfo hfm his hfs hlt2
      go_wp2_with fail
      have hfc := header_Find ⟨q1, q2, q3, q4, q5, q6, ps⟩ s l1 HSH HFO
      rw [HFG.out, HIS.out] at hfc
      refine hfc.mono ?_
      rintro e w3 ⟨rfl, hx3⟩
      clear hfc
      have hx4 := hx3.allocs (.cells #[.int .i64 f1, .string f2, .int .i64 f3, .bool f4] TMk)
      replace b0 := hx4.cell b0
      replace b1 := hx4.cell b1
      replace b2 := hx4.cell b2
      replace b3 := hx4.cell b3
      replace b4 := hx4.cell b4
      replace b5 := hx4.cell b5
      replace b6 := hx4.cell b6
      have m0 := cell_new w3 #[.int .i64 f1, .string f2, .int .i64 f3, .bool f4] TMk 0
      have m1 := cell_new w3 #[.int .i64 f1, .string f2, .int .i64 f3, .bool f4] TMk 1
      have m2 := cell_new w3 #[.int .i64 f1, .string f2, .int .i64 f3, .bool f4] TMk 2
      have m3 := cell_new w3 #[.int .i64 f1, .string f2, .int .i64 f3, .bool f4] TMk 3
      have gxf := gxo.trans hx4
      have hlw := l1.ext mk_rep hx4
      obtain ⟨wf, hwf⟩ : ∃ q, q = w3.alloc (.cells #[.int .i64 f1, .string f2, .int .i64 f3, .bool f4] TMk) := ⟨_, rfl⟩
      rw [← hwf] at b0 b1 b2 b3 b4 b5 b6 m0 m1 m2 m3 gxf hlw
      clear hx3 hx4 l1 l2 gxo hxr
      have hn8d : decide ((n2 : Int) ≤ 8) = true := by simp; omega
      have HFW := Lib.hid hwf
      clear hwf
      cases is with
      | true =>
        obtain ⟨rfl, rfl⟩ := HFS.out rfl
        go_wp2_with fail
        rw [← HFW.out]
        refine wp_region_typed2 (R := But wf.heap.size (fun _ => False)) Ext.steady (But.steady _ _) (fun _ _ => But.of_ext) rfl 121 rfl [0, 0, 2, 7, 15, 31, 63, 127, 255, 511, 1023, 2047, 4095, 8191, 16383, 8191, 65535, 131071, 262143, 524287, 1048575, 2097151, 4194303, 8388607, 16777215, 33554431, 67108863, 33554431, 167772159, 536870911, 1073741823, 2147483647, 4294967295, 8589934591, 17179869183] 0 (by kernel_rfl) ?_
        -- 0: Op.move t9
        apply Stage2.step (Is _) true [] true false (Is.keeps _) (fun _ => Is.keeps _) (by kernel_rfl)
        · intro w1 h1
          have h1 : Ext _ w1 := h1
          simp only [List.nil_append, List.cons_append, List.map_cons, List.map_nil, Given]
          go_wp2_with fail
          exact Post.isv (Ext.refl _) rfl rfl rfl
        -- 1: Op.move t8
        apply Stage2.step (Is _) true [] true false (Is.keeps _) (fun _ => Is.keeps _) (by kernel_rfl)
        · intro w1 h1
          have h1 : Ext _ w1 := h1
          simp only [List.nil_append, List.cons_append, List.map_cons, List.map_nil, Given]
          go_wp2_with fail
          exact Post.isv (Ext.refl _) rfl rfl rfl
        -- 2: Op.call { builtin len, args := #[t88], argTypes := #[27] }
        apply Stage2.step (Is _) true [false, true] true false (Is.keeps _) (fun _ => Is.keeps _) (by kernel_rfl)
        · intro w1 h1
          have h1 : Ext _ w1 := h1
          simp only [List.nil_append, List.cons_append, List.map_cons, List.map_nil, Sp.pr, Given]
          rintro _ rfl
          go_wp2_with fail
          exact Post.isv (Ext.refl _) rfl rfl rfl
        -- 3: Op.binOp BinOp.eql 3 t87 t89 3
        apply Stage2.step (Is (.bool true)) true [true, false, true] true false (Is.keeps _) (fun _ => Is.keeps _) (by kernel_rfl)
        · intro w1 h1
          have h1 : Ext _ w1 := h1
          simp only [List.nil_append, List.cons_append, List.map_cons, List.map_nil, Sp.pr, Given]
          rintro _ rfl
          rintro _ rfl
          go_wp2_with fail
          exact Post.isv (Ext.refl _) rfl rfl rfl
        -- 4: Op.move t90
        apply Stage2.step (Is _) true [false, false, false, true] true false (Is.keeps _) (fun _ => Is.keeps _) (by kernel_rfl)
        · intro w1 h1
          have h1 : Ext _ w1 := h1
          simp only [List.nil_append, List.cons_append, List.map_cons, List.map_nil, Sp.pr, Given]
          rintro _ rfl
          go_wp2_with fail
          exact Post.isv (Ext.refl _) rfl rfl rfl
        -- 5: Op.move t8   [guarded: some (4, true)]
        apply Stage2.step (Is _) true [false, false, false, false, true] true false (Is.keeps _) (fun _ => Is.keeps _) (by kernel_rfl)
        · intro w1 h1
          have h1 : Ext _ w1 := h1
          simp only [List.nil_append, List.cons_append, List.map_cons, List.map_nil, Sp.pr, Given]
          rintro _ rfl
          go_wp2_with fail
          exact Post.isv (Ext.refl _) rfl rfl rfl
        -- 6: Op.call { builtin len, args := #[t92], argTypes := #[27] }   [guarded: some (4, true)]
        apply Stage2.step (Is _) true [false, false, false, false, true, true] true false (Is.keeps _) (fun _ => Is.keeps _) (by kernel_rfl)
        · intro w1 h1
          have h1 : Ext _ w1 := h1
          simp only [List.nil_append, List.cons_append, List.map_cons, List.map_nil, Sp.pr, Given]
          rintro _ rfl
          rintro _ rfl
          go_wp2_with fail
          exact Post.isv (Ext.refl _) rfl rfl rfl
        -- 7: Op.binOp BinOp.leq 3 t93 (const (8:i64)) 3   [guarded: some (4, true)]
        apply Stage2.step (Is (.bool true)) true [false, false, false, false, true, false, true] true false (Is.keeps _) (fun _ => Is.keeps _) (by kernel_rfl)
        · intro w1 h1
          have h1 : Ext _ w1 := h1
          simp only [List.nil_append, List.cons_append, List.map_cons, List.map_nil, Sp.pr, Given]
          rintro _ rfl
          rintro _ rfl
          go_wp2_with fail
          exact Post.isv (Ext.refl _) rfl rfl rfl
        -- 8: Op.pick t91 t94 (const (Value.bool false))
        apply Stage2.step (Is (.bool true)) true [false, false, false, false, true, false, false, true] true false (Is.keeps _) (fun _ => Is.keeps _) (by kernel_rfl)
        · intro w1 h1
          have h1 : Ext _ w1 := h1
          simp only [List.nil_append, List.cons_append, List.map_cons, List.map_nil, Sp.pr, Given]
          rintro _ rfl
          rintro _ rfl
          go_wp2_with fail
          exact Post.isv (Ext.refl _) rfl rfl rfl
        -- 9: Op.move t95
        apply Stage2.step (Is _) true [false, false, false, false, false, false, false, false, true] true false (Is.keeps _) (fun _ => Is.keeps _) (by kernel_rfl)
        · intro w1 h1
          have h1 : Ext _ w1 := h1
          simp only [List.nil_append, List.cons_append, List.map_cons, List.map_nil, Sp.pr, Given]
          rintro _ rfl
          go_wp2_with fail
          exact Post.isv (Ext.refl _) rfl rfl rfl
        -- 10: Op.move t15   [guarded: some (9, true)]
        apply Stage2.step (Is _) true [false, false, false, false, false, false, false, false, false, true] true false (Is.keeps _) (fun _ => Is.keeps _) (by kernel_rfl)
        · intro w1 h1
          have h1 : Ext _ w1 := h1
          simp only [List.nil_append, List.cons_append, List.map_cons, List.map_nil, Sp.pr, Given]
          rintro _ rfl
          go_wp2_with fail
          exact Post.isv (Ext.refl _) rfl rfl rfl
        -- 11: Op.unOp UnOp.not 4 t97   [guarded: some (9, true)]
        apply Stage2.step (Is _) true [false, false, false, false, false, false, false, false, false, true, true] true false (Is.keeps _) (fun _ => Is.keeps _) (by kernel_rfl)
        · intro w1 h1
          have h1 : Ext _ w1 := h1
          simp only [List.nil_append, List.cons_append, List.map_cons, List.map_nil, Sp.pr, Given]
          rintro _ rfl
          rintro _ rfl
          go_wp2_with fail
          exact Post.isv (Ext.refl _) rfl rfl rfl
        -- 12: Op.move t98   [guarded: some (9, true)]
        apply Stage2.step (Is _) true [false, false, false, false, false, false, false, false, false, true, false, true] true false (Is.keeps _) (fun _ => Is.keeps _) (by kernel_rfl)
        · intro w1 h1
          have h1 : Ext _ w1 := h1
          simp only [List.nil_append, List.cons_append, List.map_cons, List.map_nil, Sp.pr, Given]
          rintro _ rfl
          rintro _ rfl
          go_wp2_with fail
          exact Post.isv (Ext.refl _) rfl rfl rfl
        -- 13: Op.fieldAddr 48 t14 1   [guarded: some (12, false)]
        apply Stage2.step (Is _) true [false, false, false, false, false, false, false, false, false, false, false, false, true] true false (Is.keeps _) (fun _ => Is.keeps _) (by kernel_rfl)
        · intro w1 h1
          have h1 : Ext _ w1 := h1
          simp only [List.nil_append, List.cons_append, List.map_cons, List.map_nil, Sp.pr, Given]
          rintro _ rfl
          go_wp2_with fail
          exact Post.isv (Ext.refl _) rfl rfl rfl
        -- 14: Op.load 9 t100   [guarded: some (12, false)]
        apply Stage2.step (Is (.string f2)) true [false, false, false, false, false, false, false, false, false, false, false, false, true, true] true false (Is.keeps _) (fun _ => Is.keeps _) (by kernel_rfl)
        · intro w1 h1
          have h1 : Ext _ w1 := h1
          simp only [List.nil_append, List.cons_append, List.map_cons, List.map_nil, Sp.pr, Given]
          rintro _ rfl
          rintro _ rfl
          have u1 := h1.cell m1
          go_wp2_with fail
          exact Post.isv (Ext.refl _) rfl rfl rfl
        -- 15: Op.move t2   [guarded: some (12, false)]
        apply Stage2.step (Is _) true [false, false, false, false, false, false, false, false, false, false, false, false, true] true false (Is.keeps _) (fun _ => Is.keeps _) (by kernel_rfl)
        · intro w1 h1
          have h1 : Ext _ w1 := h1
          simp only [List.nil_append, List.cons_append, List.map_cons, List.map_nil, Sp.pr, Given]
          rintro _ rfl
          go_wp2_with fail
          exact Post.isv (Ext.refl _) rfl rfl rfl
        -- 16: Op.binOp BinOp.eql 9 t101 t102 9   [guarded: some (12, false)]
        apply Stage2.step (Is (.bool true)) true [false, false, false, false, false, false, false, false, false, false, false, false, true, false, true, true] true false (Is.keeps _) (fun _ => Is.keeps _) (by kernel_rfl)
        · intro w1 h1
          have h1 : Ext _ w1 := h1
          simp only [List.nil_append, List.cons_append, List.map_cons, List.map_nil, Sp.pr, Given]
          rintro _ rfl
          rintro _ rfl
          rintro _ rfl
          go_wp2_with fail
          exact Post.isv (Ext.refl _) rfl rfl rfl
        -- 17: Op.move t103   [guarded: some (12, false)]
        apply Stage2.step (Is _) true [false, false, false, false, false, false, false, false, false, false, false, false, true, false, false, false, true] true false (Is.keeps _) (fun _ => Is.keeps _) (by kernel_rfl)
        · intro w1 h1
          have h1 : Ext _ w1 := h1
          simp only [List.nil_append, List.cons_append, List.map_cons, List.map_nil, Sp.pr, Given]
          rintro _ rfl
          rintro _ rfl
          go_wp2_with fail
          exact Post.isv (Ext.refl _) rfl rfl rfl
        -- 18: Op.fieldAddr 48 t14 3   [guarded: some (17, true)]
        apply Stage2.step (Is _) true [false, false, false, false, false, false, false, false, false, false, false, false, false, false, false, false, false, true] true false (Is.keeps _) (fun _ => Is.keeps _) (by kernel_rfl)
        · intro w1 h1
          have h1 : Ext _ w1 := h1
          simp only [List.nil_append, List.cons_append, List.map_cons, List.map_nil, Sp.pr, Given]
          rintro _ rfl
          go_wp2_with fail
          exact Post.isv (Ext.refl _) rfl rfl rfl
        -- 19: Op.load 4 t105   [guarded: some (17, true)]
        apply Stage2.step (Is (.bool false)) true [false, false, false, false, false, false, false, false, false, false, false, false, false, false, false, false, false, true, true] true false (Is.keeps _) (fun _ => Is.keeps _) (by kernel_rfl)
        · intro w1 h1
          have h1 : Ext _ w1 := h1
          simp only [List.nil_append, List.cons_append, List.map_cons, List.map_nil, Sp.pr, Given]
          rintro _ rfl
          rintro _ rfl
          have u1 := h1.cell m3
          go_wp2_with fail
          exact Post.isv (Ext.refl _) rfl rfl rfl
        -- 20: Op.unOp UnOp.not 4 t106   [guarded: some (17, true)]
        apply Stage2.step (Is (.bool true)) true [false, false, false, false, false, false, false, false, false, false, false, false, false, false, false, false, false, true, false, true] true false (Is.keeps _) (fun _ => Is.keeps _) (by kernel_rfl)
        · intro w1 h1
          have h1 : Ext _ w1 := h1
          simp only [List.nil_append, List.cons_append, List.map_cons, List.map_nil, Sp.pr, Given]
          rintro _ rfl
          rintro _ rfl
          go_wp2_with fail
          exact Post.isv (Ext.refl _) rfl rfl rfl
        -- 21: Op.pick t104 t107 (const (Value.bool false))   [guarded: some (12, false)]
        apply Stage2.step (Is (.bool true)) true [false, false, false, false, false, false, false, false, false, false, false, false, true, false, false, false, false, true, false, false, true] true false (Is.keeps _) (fun _ => Is.keeps _) (by kernel_rfl)
        · intro w1 h1
          have h1 : Ext _ w1 := h1
          simp only [List.nil_append, List.cons_append, List.map_cons, List.map_nil, Sp.pr, Given]
          rintro _ rfl
          rintro _ rfl
          rintro _ rfl
          go_wp2_with fail
          exact Post.isv (Ext.refl _) rfl rfl rfl
        -- 22: Op.pick t99 (const (Value.bool true)) t108   [guarded: some (9, true)]
        apply Stage2.step (Is (.bool true)) true [false, false, false, false, false, false, false, false, false, true, false, false, true, false, false, false, false, false, false, false, false, true] true false (Is.keeps _) (fun _ => Is.keeps _) (by kernel_rfl)
        · intro w1 h1
          have h1 : Ext _ w1 := h1
          simp only [List.nil_append, List.cons_append, List.map_cons, List.map_nil, Sp.pr, Given]
          rintro _ rfl
          rintro _ rfl
          rintro _ rfl
          go_wp2_with fail
          exact Post.isv (Ext.refl _) rfl rfl rfl
        -- 23: Op.pick t96 t109 (const (Value.bool false))
        apply Stage2.step (Is (.bool true)) true [false, false, false, false, false, false, false, false, false, true, false, false, false, false, false, false, false, false, false, false, false, false, true] true false (Is.keeps _) (fun _ => Is.keeps _) (by kernel_rfl)
        · intro w1 h1
          have h1 : Ext _ w1 := h1
          simp only [List.nil_append, List.cons_append, List.map_cons, List.map_nil, Sp.pr, Given]
          rintro _ rfl
          rintro _ rfl
          go_wp2_with fail
          exact Post.isv (Ext.refl _) rfl rfl rfl
        -- 24: Op.move t110
        apply Stage2.step (Is _) true [false, false, false, false, false, false, false, false, false, false, false, false, false, false, false, false, false, false, false, false, false, false, false, true] true false (Is.keeps _) (fun _ => Is.keeps _) (by kernel_rfl)
        · intro w1 h1
          have h1 : Ext _ w1 := h1
          simp only [List.nil_append, List.cons_append, List.map_cons, List.map_nil, Sp.pr, Given]
          rintro _ rfl
          go_wp2_with fail
          exact Post.isv (Ext.refl _) rfl rfl rfl
        -- 25: Op.load 43 t7   [guarded: some (24, true)]
        apply Stage2.step (Is (hdV ⟨q1, q2, q3, q4, q5, q6, ps⟩ A1 i c1)) true [false, false, false, false, false, false, false, false, false, false, false, false, false, false, false, false, false, false, false, false, false, false, false, false, true] true false (Is.keeps _) (fun _ => Is.keeps _) (by kernel_rfl)
        · intro w1 h1
          have h1 : Ext _ w1 := h1
          simp only [List.nil_append, List.cons_append, List.map_cons, List.map_nil, Sp.pr, Given]
          rintro _ rfl
          have u0 := h1.cell b0
          have u1 := h1.cell b1
          have u2 := h1.cell b2
          have u3 := h1.cell b3
          have u4 := h1.cell b4
          have u5 := h1.cell b5
          have u6 := h1.cell b6
          go_wp2_with fail
          exact Post.isv (Ext.refl _) rfl rfl rfl
        -- 26: Op.call { value (Operand.func 27), args := #[t112], argTypes := #[43] }   [guarded: some (24, true)]
        apply Stage2.step (Is (.int .i64 ne)) true [false, false, false, false, false, false, false, false, false, false, false, false, false, false, false, false, false, false, false, false, false, false, false, false, true, true] true false (Is.keeps _) (fun _ => Is.keeps _) (by kernel_rfl)
        · intro w1 h1
          have h1 : Ext _ w1 := h1
          simp only [List.nil_append, List.cons_append, List.map_cons, List.map_nil, Sp.pr, Given]
          rintro _ rfl
          rintro _ rfl
          go_wp2_with fail
          refine (header_Newest ⟨q1, q2, q3, q4, q5, q6, ps⟩ (hlw.ext mk_rep h1) HNE).mono ?_
          rintro e w2 ⟨rfl, hx2⟩
          go_wp2_with fail
          exact Post.isv hx2 rfl rfl rfl
        -- 27: Op.fieldAddr 43 t7 2   [guarded: some (24, true)]
        apply Stage2.step (Is _) true [false, false, false, false, false, false, false, false, false, false, false, false, false, false, false, false, false, false, false, false, false, false, false, false, true] true false (Is.keeps _) (fun _ => Is.keeps _) (by kernel_rfl)
        · intro w1 h1
          have h1 : Ext _ w1 := h1
          simp only [List.nil_append, List.cons_append, List.map_cons, List.map_nil, Sp.pr, Given]
          rintro _ rfl
          go_wp2_with fail
          exact Post.isv (Ext.refl _) rfl rfl rfl
        -- 28: Op.load 3 t114   [guarded: some (24, true)]
        apply Stage2.step (Is (.int .i64 q5)) true [false, false, false, false, false, false, false, false, false, false, false, false, false, false, false, false, false, false, false, false, false, false, false, false, true, false, false, true] true false (Is.keeps _) (fun _ => Is.keeps _) (by kernel_rfl)
        · intro w1 h1
          have h1 : Ext _ w1 := h1
          simp only [List.nil_append, List.cons_append, List.map_cons, List.map_nil, Sp.pr, Given]
          rintro _ rfl
          rintro _ rfl
          have u4 := h1.cell b4
          go_wp2_with fail
          exact Post.isv (Ext.refl _) rfl rfl rfl
        -- 29: Op.binOp BinOp.lss 3 t113 t115 3   [guarded: some (24, true)]
        apply Stage2.step (Is (.bool true)) true [false, false, false, false, false, false, false, false, false, false, false, false, false, false, false, false, false, false, false, false, false, false, false, false, true, false, true, false, true] true false (Is.keeps _) (fun _ => Is.keeps _) (by kernel_rfl)
        · intro w1 h1
          have h1 : Ext _ w1 := h1
          simp only [List.nil_append, List.cons_append, List.map_cons, List.map_nil, Sp.pr, Given]
          rintro _ rfl
          rintro _ rfl
          rintro _ rfl
          go_wp2_with fail
          exact Post.isv (Ext.refl _) rfl rfl rfl
        -- 30: Op.pick t111 t116 (const (Value.bool false))
        apply Stage2.step (Is (.bool true)) true [false, false, false, false, false, false, false, false, false, false, false, false, false, false, false, false, false, false, false, false, false, false, false, false, true, false, false, false, false, true] true false (Is.keeps _) (fun _ => Is.keeps _) (by kernel_rfl)
        · intro w1 h1
          have h1 : Ext _ w1 := h1
          simp only [List.nil_append, List.cons_append, List.map_cons, List.map_nil, Sp.pr, Given]
          rintro _ rfl
          rintro _ rfl
          go_wp2_with fail
          exact Post.isv (Ext.refl _) rfl rfl rfl
        -- 31: Op.move t117
        apply Stage2.step (Is _) true [false, false, false, false, false, false, false, false, false, false, false, false, false, false, false, false, false, false, false, false, false, false, false, false, false, false, false, false, false, false, true] true false (Is.keeps _) (fun _ => Is.keeps _) (by kernel_rfl)
        · intro w1 h1
          have h1 : Ext _ w1 := h1
          simp only [List.nil_append, List.cons_append, List.map_cons, List.map_nil, Sp.pr, Given]
          rintro _ rfl
          go_wp2_with fail
          exact Post.isv (Ext.refl _) rfl rfl rfl
        -- 32: Op.call { value (Operand.func 17), args := #[], argTypes := #[] }   [guarded: some (31, true)]
        apply Stage2.step (Is (.bool true)) true [false, false, false, false, false, false, false, false, false, false, false, false, false, false, false, false, false, false, false, false, false, false, false, false, false, false, false, false, false, false, false, true] true false (Is.keeps _) (fun _ => Is.keeps _) (by kernel_rfl)
        · intro w1 h1
          have h1 : Ext _ w1 := h1
          simp only [List.nil_append, List.cons_append, List.map_cons, List.map_nil, Sp.pr, Given]
          rintro _ rfl
          go_wp2_with fail
          refine (law8_known _).mono ?_
          rintro e w2 ⟨rfl, hx2⟩
          go_wp2_with fail
          exact Post.isv hx2 rfl rfl rfl
        -- 33: Op.pick t118 t119 (const (Value.bool false))
        apply Stage2.step (Is _) true [false, false, false, false, false, false, false, false, false, false, false, false, false, false, false, false, false, false, false, false, false, false, false, false, false, false, false, false, false, false, false, true, true] true false (Is.keeps _) (fun _ => Is.keeps _) (by kernel_rfl)
        · intro w1 h1
          have h1 : Ext _ w1 := h1
          simp only [List.nil_append, List.cons_append, List.map_cons, List.map_nil, Sp.pr, Given]
          rintro _ rfl
          rintro _ rfl
          go_wp2_with fail
          exact Post.isv (Ext.refl _) rfl rfl rfl
        -- 34: Op.assign t120
        apply Stage2.step (Is _) true [false, false, false, false, false, false, false, false, false, false, false, false, false, false, false, false, false, false, false, false, false, false, false, false, false, false, false, false, false, false, false, false, false, true] true false (Is.keeps _) (fun _ => Is.keeps _) (by kernel_rfl)
        · intro w1 h1
          have h1 : Ext _ w1 := h1
          simp only [List.nil_append, List.cons_append, List.map_cons, List.map_nil, Sp.pr, Given]
          rintro _ rfl
          go_wp2_with fail
          exact Post.isv (Ext.refl _) rfl rfl rfl
        apply Stage2.nil [true, true, true, true, true, true, true, true, true, true, true, true, true, true, true, true, true, true, true, true, true, true, true, true, true, true, true, true, true, true, true, true, true, true, true] (by kernel_rfl)
        intro w1 h1
        have h1 : (Ext) _ w1 := h1
        simp only [List.nil_append, List.cons_append, List.map_cons, List.map_nil, Sp.pr]
        refine Fin2.is_ ?_
        refine Fin2.is_ ?_
        refine Fin2.is_ ?_
        refine Fin2.is_ ?_
        refine Fin2.is_ ?_
        refine Fin2.is_ ?_
        refine Fin2.is_ ?_
        refine Fin2.is_ ?_
        refine Fin2.is_ ?_
        refine Fin2.is_ ?_
        refine Fin2.is_ ?_
        refine Fin2.is_ ?_
        refine Fin2.is_ ?_
        refine Fin2.is_ ?_
        refine Fin2.is_ ?_
        refine Fin2.is_ ?_
        refine Fin2.is_ ?_
        refine Fin2.is_ ?_
        refine Fin2.is_ ?_
        refine Fin2.is_ ?_
        refine Fin2.is_ ?_
        refine Fin2.is_ ?_
        refine Fin2.is_ ?_
        refine Fin2.is_ ?_
        refine Fin2.is_ ?_
        refine Fin2.is_ ?_
        refine Fin2.is_ ?_
        refine Fin2.is_ ?_
        refine Fin2.is_ ?_
        refine Fin2.is_ ?_
        refine Fin2.is_ ?_
        refine Fin2.is_ ?_
        refine Fin2.is_ ?_
        refine Fin2.is_ ?_
        refine Fin2.is_ ?_
        refine Fin2.nil_ ?_
        go_simp
        go_wp2_with fail
        go_ret
        exact ⟨rfl, gxf.trans h1⟩
      | false =>
        go_wp2_with fail
        rw [← HFW.out]
        refine wp_region_typed2 (R := But wf.heap.size (fun _ => False)) Ext.steady (But.steady _ _) (fun _ _ => But.of_ext) rfl 121 rfl [0, 0, 2, 7, 15, 31, 63, 127, 255, 511, 1023, 2047, 4095, 8191, 16383, 8191, 65535, 131071, 262143, 524287, 1048575, 2097151, 4194303, 8388607, 16777215, 33554431, 67108863, 33554431, 167772159, 536870911, 1073741823, 2147483647, 4294967295, 8589934591, 17179869183] 0 (by kernel_rfl) ?_
        -- 0: Op.move t9
        apply Stage2.step (Is _) true [] true false (Is.keeps _) (fun _ => Is.keeps _) (by kernel_rfl)
        · intro w1 h1
          have h1 : Ext _ w1 := h1
          simp only [List.nil_append, List.cons_append, List.map_cons, List.map_nil, Given]
          go_wp2_with fail
          exact Post.isv (Ext.refl _) rfl rfl rfl
        -- 1: Op.move t8
        apply Stage2.step (Is _) true [] true false (Is.keeps _) (fun _ => Is.keeps _) (by kernel_rfl)
        · intro w1 h1
          have h1 : Ext _ w1 := h1
          simp only [List.nil_append, List.cons_append, List.map_cons, List.map_nil, Given]
          go_wp2_with fail
          exact Post.isv (Ext.refl _) rfl rfl rfl
        -- 2: Op.call { builtin len, args := #[t88], argTypes := #[27] }
        apply Stage2.step (Is _) true [false, true] true false (Is.keeps _) (fun _ => Is.keeps _) (by kernel_rfl)
        · intro w1 h1
          have h1 : Ext _ w1 := h1
          simp only [List.nil_append, List.cons_append, List.map_cons, List.map_nil, Sp.pr, Given]
          rintro _ rfl
          go_wp2_with fail
          exact Post.isv (Ext.refl _) rfl rfl rfl
        -- 3: Op.binOp BinOp.eql 3 t87 t89 3
        apply Stage2.step (Is (.bool true)) true [true, false, true] true false (Is.keeps _) (fun _ => Is.keeps _) (by kernel_rfl)
        · intro w1 h1
          have h1 : Ext _ w1 := h1
          simp only [List.nil_append, List.cons_append, List.map_cons, List.map_nil, Sp.pr, Given]
          rintro _ rfl
          rintro _ rfl
          go_wp2_with fail
          exact Post.isv (Ext.refl _) rfl rfl rfl
        -- 4: Op.move t90
        apply Stage2.step (Is _) true [false, false, false, true] true false (Is.keeps _) (fun _ => Is.keeps _) (by kernel_rfl)
        · intro w1 h1
          have h1 : Ext _ w1 := h1
          simp only [List.nil_append, List.cons_append, List.map_cons, List.map_nil, Sp.pr, Given]
          rintro _ rfl
          go_wp2_with fail
          exact Post.isv (Ext.refl _) rfl rfl rfl
        -- 5: Op.move t8   [guarded: some (4, true)]
        apply Stage2.step (Is _) true [false, false, false, false, true] true false (Is.keeps _) (fun _ => Is.keeps _) (by kernel_rfl)
        · intro w1 h1
          have h1 : Ext _ w1 := h1
          simp only [List.nil_append, List.cons_append, List.map_cons, List.map_nil, Sp.pr, Given]
          rintro _ rfl
          go_wp2_with fail
          exact Post.isv (Ext.refl _) rfl rfl rfl
        -- 6: Op.call { builtin len, args := #[t92], argTypes := #[27] }   [guarded: some (4, true)]
        apply Stage2.step (Is _) true [false, false, false, false, true, true] true false (Is.keeps _) (fun _ => Is.keeps _) (by kernel_rfl)
        · intro w1 h1
          have h1 : Ext _ w1 := h1
          simp only [List.nil_append, List.cons_append, List.map_cons, List.map_nil, Sp.pr, Given]
          rintro _ rfl
          rintro _ rfl
          go_wp2_with fail
          exact Post.isv (Ext.refl _) rfl rfl rfl
        -- 7: Op.binOp BinOp.leq 3 t93 (const (8:i64)) 3   [guarded: some (4, true)]
        apply Stage2.step (Is (.bool true)) true [false, false, false, false, true, false, true] true false (Is.keeps _) (fun _ => Is.keeps _) (by kernel_rfl)
        · intro w1 h1
          have h1 : Ext _ w1 := h1
          simp only [List.nil_append, List.cons_append, List.map_cons, List.map_nil, Sp.pr, Given]
          rintro _ rfl
          rintro _ rfl
          go_wp2_with fail
          exact Post.isv (Ext.refl _) rfl rfl rfl
        -- 8: Op.pick t91 t94 (const (Value.bool false))
        apply Stage2.step (Is (.bool true)) true [false, false, false, false, true, false, false, true] true false (Is.keeps _) (fun _ => Is.keeps _) (by kernel_rfl)
        · intro w1 h1
          have h1 : Ext _ w1 := h1
          simp only [List.nil_append, List.cons_append, List.map_cons, List.map_nil, Sp.pr, Given]
          rintro _ rfl
          rintro _ rfl
          go_wp2_with fail
          exact Post.isv (Ext.refl _) rfl rfl rfl
        -- 9: Op.move t95
        apply Stage2.step (Is _) true [false, false, false, false, false, false, false, false, true] true false (Is.keeps _) (fun _ => Is.keeps _) (by kernel_rfl)
        · intro w1 h1
          have h1 : Ext _ w1 := h1
          simp only [List.nil_append, List.cons_append, List.map_cons, List.map_nil, Sp.pr, Given]
          rintro _ rfl
          go_wp2_with fail
          exact Post.isv (Ext.refl _) rfl rfl rfl
        -- 10: Op.move t15   [guarded: some (9, true)]
        apply Stage2.step (Is _) true [false, false, false, false, false, false, false, false, false, true] true false (Is.keeps _) (fun _ => Is.keeps _) (by kernel_rfl)
        · intro w1 h1
          have h1 : Ext _ w1 := h1
          simp only [List.nil_append, List.cons_append, List.map_cons, List.map_nil, Sp.pr, Given]
          rintro _ rfl
          go_wp2_with fail
          exact Post.isv (Ext.refl _) rfl rfl rfl
        -- 11: Op.unOp UnOp.not 4 t97   [guarded: some (9, true)]
        apply Stage2.step (Is _) true [false, false, false, false, false, false, false, false, false, true, true] true false (Is.keeps _) (fun _ => Is.keeps _) (by kernel_rfl)
        · intro w1 h1
          have h1 : Ext _ w1 := h1
          simp only [List.nil_append, List.cons_append, List.map_cons, List.map_nil, Sp.pr, Given]
          rintro _ rfl
          rintro _ rfl
          go_wp2_with fail
          exact Post.isv (Ext.refl _) rfl rfl rfl
        -- 12: Op.move t98   [guarded: some (9, true)]
        apply Stage2.step (Is _) true [false, false, false, false, false, false, false, false, false, true, false, true] true false (Is.keeps _) (fun _ => Is.keeps _) (by kernel_rfl)
        · intro w1 h1
          have h1 : Ext _ w1 := h1
          simp only [List.nil_append, List.cons_append, List.map_cons, List.map_nil, Sp.pr, Given]
          rintro _ rfl
          rintro _ rfl
          go_wp2_with fail
          exact Post.isv (Ext.refl _) rfl rfl rfl
        -- 13: Op.fieldAddr 48 t14 1   [guarded: some (12, false)]
        apply Stage2.step (Is _) true [false, false, false, false, false, false, false, false, false, false, false, false, true] true false (Is.keeps _) (fun _ => Is.keeps _) (by kernel_rfl)
        · intro w1 h1
          have h1 : Ext _ w1 := h1
          simp only [List.nil_append, List.cons_append, List.map_cons, List.map_nil, Sp.pr, Given]
          rintro _ rfl
          go_wp2_with fail
          exact Post.isv (Ext.refl _) rfl rfl rfl
        -- 14: Op.load 9 t100   [guarded: some (12, false)]
        apply Stage2.step (Is _) true [false, false, false, false, false, false, false, false, false, false, false, false, true, true] true false (Is.keeps _) (fun _ => Is.keeps _) (by kernel_rfl)
        · intro w1 h1
          have h1 : Ext _ w1 := h1
          simp only [List.nil_append, List.cons_append, List.map_cons, List.map_nil, Sp.pr, Given]
          rintro _ rfl
          rintro _ rfl
          go_wp2_with fail
          exact Post.isv (Ext.refl _) rfl rfl rfl
        -- 15: Op.move t2   [guarded: some (12, false)]
        apply Stage2.step (Is _) true [false, false, false, false, false, false, false, false, false, false, false, false, true] true false (Is.keeps _) (fun _ => Is.keeps _) (by kernel_rfl)
        · intro w1 h1
          have h1 : Ext _ w1 := h1
          simp only [List.nil_append, List.cons_append, List.map_cons, List.map_nil, Sp.pr, Given]
          rintro _ rfl
          go_wp2_with fail
          exact Post.isv (Ext.refl _) rfl rfl rfl
        -- 16: Op.binOp BinOp.eql 9 t101 t102 9   [guarded: some (12, false)]
        apply Stage2.step (Is _) true [false, false, false, false, false, false, false, false, false, false, false, false, true, false, true, true] true false (Is.keeps _) (fun _ => Is.keeps _) (by kernel_rfl)
        · intro w1 h1
          have h1 : Ext _ w1 := h1
          simp only [List.nil_append, List.cons_append, List.map_cons, List.map_nil, Sp.pr, Given]
          rintro _ rfl
          rintro _ rfl
          rintro _ rfl
          go_wp2_with fail
          exact Post.isv (Ext.refl _) rfl rfl rfl
        -- 17: Op.move t103   [guarded: some (12, false)]
        apply Stage2.step (Is _) true [false, false, false, false, false, false, false, false, false, false, false, false, true, false, false, false, true] true false (Is.keeps _) (fun _ => Is.keeps _) (by kernel_rfl)
        · intro w1 h1
          have h1 : Ext _ w1 := h1
          simp only [List.nil_append, List.cons_append, List.map_cons, List.map_nil, Sp.pr, Given]
          rintro _ rfl
          rintro _ rfl
          go_wp2_with fail
          exact Post.isv (Ext.refl _) rfl rfl rfl
        -- 18: Op.fieldAddr 48 t14 3   [guarded: some (17, true)]
        apply Stage2.step (Is undef) true [false, false, false, false, false, false, false, false, false, false, false, false, false, false, false, false, false, true] true false (Is.keeps _) (fun _ => Is.keeps _) (by kernel_rfl)
        · intro w1 h1
          have h1 : Ext _ w1 := h1
          simp only [List.nil_append, List.cons_append, List.map_cons, List.map_nil, Sp.pr, Given]
          rintro _ rfl
          go_wp2_with fail
          all_goals first
            | exact Post.isv (Ext.refl _) rfl rfl rfl
            | exact (undef_not ‹some undef = some (Value.bool _)›).elim
        -- 19: Op.load 4 t105   [guarded: some (17, true)]
        apply Stage2.step (Is undef) true [false, false, false, false, false, false, false, false, false, false, false, false, false, false, false, false, false, true, true] true false (Is.keeps _) (fun _ => Is.keeps _) (by kernel_rfl)
        · intro w1 h1
          have h1 : Ext _ w1 := h1
          simp only [List.nil_append, List.cons_append, List.map_cons, List.map_nil, Sp.pr, Given]
          rintro _ rfl
          rintro _ rfl
          go_wp2_with fail
          all_goals first
            | exact Post.isv (Ext.refl _) rfl rfl rfl
            | exact (undef_not ‹some undef = some (Value.bool _)›).elim
        -- 20: Op.unOp UnOp.not 4 t106   [guarded: some (17, true)]
        apply Stage2.step (Is undef) true [false, false, false, false, false, false, false, false, false, false, false, false, false, false, false, false, false, true, false, true] true false (Is.keeps _) (fun _ => Is.keeps _) (by kernel_rfl)
        · intro w1 h1
          have h1 : Ext _ w1 := h1
          simp only [List.nil_append, List.cons_append, List.map_cons, List.map_nil, Sp.pr, Given]
          rintro _ rfl
          rintro _ rfl
          go_wp2_with fail
          all_goals first
            | exact Post.isv (Ext.refl _) rfl rfl rfl
            | exact (undef_not ‹some undef = some (Value.bool _)›).elim
        -- 21: Op.pick t104 t107 (const (Value.bool false))   [guarded: some (12, false)]
        apply Stage2.step (Is _) true [false, false, false, false, false, false, false, false, false, false, false, false, true, false, false, false, false, true, false, false, true] true false (Is.keeps _) (fun _ => Is.keeps _) (by kernel_rfl)
        · intro w1 h1
          have h1 : Ext _ w1 := h1
          simp only [List.nil_append, List.cons_append, List.map_cons, List.map_nil, Sp.pr, Given]
          rintro _ rfl
          rintro _ rfl
          rintro _ rfl
          go_wp2_with fail
          exact Post.isv (Ext.refl _) rfl rfl rfl
        -- 22: Op.pick t99 (const (Value.bool true)) t108   [guarded: some (9, true)]
        apply Stage2.step (Is (.bool true)) true [false, false, false, false, false, false, false, false, false, true, false, false, true, false, false, false, false, false, false, false, false, true] true false (Is.keeps _) (fun _ => Is.keeps _) (by kernel_rfl)
        · intro w1 h1
          have h1 : Ext _ w1 := h1
          simp only [List.nil_append, List.cons_append, List.map_cons, List.map_nil, Sp.pr, Given]
          rintro _ rfl
          rintro _ rfl
          rintro _ rfl
          go_wp2_with fail
          exact Post.isv (Ext.refl _) rfl rfl rfl
        -- 23: Op.pick t96 t109 (const (Value.bool false))
        apply Stage2.step (Is (.bool true)) true [false, false, false, false, false, false, false, false, false, true, false, false, false, false, false, false, false, false, false, false, false, false, true] true false (Is.keeps _) (fun _ => Is.keeps _) (by kernel_rfl)
        · intro w1 h1
          have h1 : Ext _ w1 := h1
          simp only [List.nil_append, List.cons_append, List.map_cons, List.map_nil, Sp.pr, Given]
          rintro _ rfl
          rintro _ rfl
          go_wp2_with fail
          exact Post.isv (Ext.refl _) rfl rfl rfl
        -- 24: Op.move t110
        apply Stage2.step (Is _) true [false, false, false, false, false, false, false, false, false, false, false, false, false, false, false, false, false, false, false, false, false, false, false, true] true false (Is.keeps _) (fun _ => Is.keeps _) (by kernel_rfl)
        · intro w1 h1
          have h1 : Ext _ w1 := h1
          simp only [List.nil_append, List.cons_append, List.map_cons, List.map_nil, Sp.pr, Given]
          rintro _ rfl
          go_wp2_with fail
          exact Post.isv (Ext.refl _) rfl rfl rfl
        -- 25: Op.load 43 t7   [guarded: some (24, true)]
        apply Stage2.step (Is (hdV ⟨q1, q2, q3, q4, q5, q6, ps⟩ A1 i c1)) true [false, false, false, false, false, false, false, false, false, false, false, false, false, false, false, false, false, false, false, false, false, false, false, false, true] true false (Is.keeps _) (fun _ => Is.keeps _) (by kernel_rfl)
        · intro w1 h1
          have h1 : Ext _ w1 := h1
          simp only [List.nil_append, List.cons_append, List.map_cons, List.map_nil, Sp.pr, Given]
          rintro _ rfl
          have u0 := h1.cell b0
          have u1 := h1.cell b1
          have u2 := h1.cell b2
          have u3 := h1.cell b3
          have u4 := h1.cell b4
          have u5 := h1.cell b5
          have u6 := h1.cell b6
          go_wp2_with fail
          exact Post.isv (Ext.refl _) rfl rfl rfl
        -- 26: Op.call { value (Operand.func 27), args := #[t112], argTypes := #[43] }   [guarded: some (24, true)]
        apply Stage2.step (Is (.int .i64 ne)) true [false, false, false, false, false, false, false, false, false, false, false, false, false, false, false, false, false, false, false, false, false, false, false, false, true, true] true false (Is.keeps _) (fun _ => Is.keeps _) (by kernel_rfl)
        · intro w1 h1
          have h1 : Ext _ w1 := h1
          simp only [List.nil_append, List.cons_append, List.map_cons, List.map_nil, Sp.pr, Given]
          rintro _ rfl
          rintro _ rfl
          go_wp2_with fail
          refine (header_Newest ⟨q1, q2, q3, q4, q5, q6, ps⟩ (hlw.ext mk_rep h1) HNE).mono ?_
          rintro e w2 ⟨rfl, hx2⟩
          go_wp2_with fail
          exact Post.isv hx2 rfl rfl rfl
        -- 27: Op.fieldAddr 43 t7 2   [guarded: some (24, true)]
        apply Stage2.step (Is _) true [false, false, false, false, false, false, false, false, false, false, false, false, false, false, false, false, false, false, false, false, false, false, false, false, true] true false (Is.keeps _) (fun _ => Is.keeps _) (by kernel_rfl)
        · intro w1 h1
          have h1 : Ext _ w1 := h1
          simp only [List.nil_append, List.cons_append, List.map_cons, List.map_nil, Sp.pr, Given]
          rintro _ rfl
          go_wp2_with fail
          exact Post.isv (Ext.refl _) rfl rfl rfl
        -- 28: Op.load 3 t114   [guarded: some (24, true)]
        apply Stage2.step (Is (.int .i64 q5)) true [false, false, false, false, false, false, false, false, false, false, false, false, false, false, false, false, false, false, false, false, false, false, false, false, true, false, false, true] true false (Is.keeps _) (fun _ => Is.keeps _) (by kernel_rfl)
        · intro w1 h1
          have h1 : Ext _ w1 := h1
          simp only [List.nil_append, List.cons_append, List.map_cons, List.map_nil, Sp.pr, Given]
          rintro _ rfl
          rintro _ rfl
          have u4 := h1.cell b4
          go_wp2_with fail
          exact Post.isv (Ext.refl _) rfl rfl rfl
        -- 29: Op.binOp BinOp.lss 3 t113 t115 3   [guarded: some (24, true)]
        apply Stage2.step (Is (.bool true)) true [false, false, false, false, false, false, false, false, false, false, false, false, false, false, false, false, false, false, false, false, false, false, false, false, true, false, true, false, true] true false (Is.keeps _) (fun _ => Is.keeps _) (by kernel_rfl)
        · intro w1 h1
          have h1 : Ext _ w1 := h1
          simp only [List.nil_append, List.cons_append, List.map_cons, List.map_nil, Sp.pr, Given]
          rintro _ rfl
          rintro _ rfl
          rintro _ rfl
          go_wp2_with fail
          exact Post.isv (Ext.refl _) rfl rfl rfl
        -- 30: Op.pick t111 t116 (const (Value.bool false))
        apply Stage2.step (Is (.bool true)) true [false, false, false, false, false, false, false, false, false, false, false, false, false, false, false, false, false, false, false, false, false, false, false, false, true, false, false, false, false, true] true false (Is.keeps _) (fun _ => Is.keeps _) (by kernel_rfl)
        · intro w1 h1
          have h1 : Ext _ w1 := h1
          simp only [List.nil_append, List.cons_append, List.map_cons, List.map_nil, Sp.pr, Given]
          rintro _ rfl
          rintro _ rfl
          go_wp2_with fail
          exact Post.isv (Ext.refl _) rfl rfl rfl
        -- 31: Op.move t117
        apply Stage2.step (Is _) true [false, false, false, false, false, false, false, false, false, false, false, false, false, false, false, false, false, false, false, false, false, false, false, false, false, false, false, false, false, false, true] true false (Is.keeps _) (fun _ => Is.keeps _) (by kernel_rfl)
        · intro w1 h1
          have h1 : Ext _ w1 := h1
          simp only [List.nil_append, List.cons_append, List.map_cons, List.map_nil, Sp.pr, Given]
          rintro _ rfl
          go_wp2_with fail
          exact Post.isv (Ext.refl _) rfl rfl rfl
        -- 32: Op.call { value (Operand.func 17), args := #[], argTypes := #[] }   [guarded: some (31, true)]
        apply Stage2.step (Is (.bool true)) true [false, false, false, false, false, false, false, false, false, false, false, false, false, false, false, false, false, false, false, false, false, false, false, false, false, false, false, false, false, false, false, true] true false (Is.keeps _) (fun _ => Is.keeps _) (by kernel_rfl)
        · intro w1 h1
          have h1 : Ext _ w1 := h1
          simp only [List.nil_append, List.cons_append, List.map_cons, List.map_nil, Sp.pr, Given]
          rintro _ rfl
          go_wp2_with fail
          refine (law8_known _).mono ?_
          rintro e w2 ⟨rfl, hx2⟩
          go_wp2_with fail
          exact Post.isv hx2 rfl rfl rfl
        -- 33: Op.pick t118 t119 (const (Value.bool false))
        apply Stage2.step (Is _) true [false, false, false, false, false, false, false, false, false, false, false, false, false, false, false, false, false, false, false, false, false, false, false, false, false, false, false, false, false, false, false, true, true] true false (Is.keeps _) (fun _ => Is.keeps _) (by kernel_rfl)
        · intro w1 h1
          have h1 : Ext _ w1 := h1
          simp only [List.nil_append, List.cons_append, List.map_cons, List.map_nil, Sp.pr, Given]
          rintro _ rfl
          rintro _ rfl
          go_wp2_with fail
          exact Post.isv (Ext.refl _) rfl rfl rfl
        -- 34: Op.assign t120
        apply Stage2.step (Is _) true [false, false, false, false, false, false, false, false, false, false, false, false, false, false, false, false, false, false, false, false, false, false, false, false, false, false, false, false, false, false, false, false, false, true] true false (Is.keeps _) (fun _ => Is.keeps _) (by kernel_rfl)
        · intro w1 h1
          have h1 : Ext _ w1 := h1
          simp only [List.nil_append, List.cons_append, List.map_cons, List.map_nil, Sp.pr, Given]
          rintro _ rfl
          go_wp2_with fail
          exact Post.isv (Ext.refl _) rfl rfl rfl
        apply Stage2.nil [true, true, true, true, true, true, true, true, true, true, true, true, true, true, true, true, true, true, true, true, true, true, true, true, true, true, true, true, true, true, true, true, true, true, true] (by kernel_rfl)
        intro w1 h1
        have h1 : (Ext) _ w1 := h1
        simp only [List.nil_append, List.cons_append, List.map_cons, List.map_nil, Sp.pr]
        refine Fin2.is_ ?_
        refine Fin2.is_ ?_
        refine Fin2.is_ ?_
        refine Fin2.is_ ?_
        refine Fin2.is_ ?_
        refine Fin2.is_ ?_
        refine Fin2.is_ ?_
        refine Fin2.is_ ?_
        refine Fin2.is_ ?_
        refine Fin2.is_ ?_
        refine Fin2.is_ ?_
        refine Fin2.is_ ?_
        refine Fin2.is_ ?_
        refine Fin2.is_ ?_
        refine Fin2.is_ ?_
        refine Fin2.is_ ?_
        refine Fin2.is_ ?_
        refine Fin2.is_ ?_
        refine Fin2.is_ ?_
        refine Fin2.is_ ?_
        refine Fin2.is_ ?_
        refine Fin2.is_ ?_
        refine Fin2.is_ ?_
        refine Fin2.is_ ?_
        refine Fin2.is_ ?_
        refine Fin2.is_ ?_
        refine Fin2.is_ ?_
        refine Fin2.is_ ?_
        refine Fin2.is_ ?_
        refine Fin2.is_ ?_
        refine Fin2.is_ ?_
        refine Fin2.is_ ?_
        refine Fin2.is_ ?_
        refine Fin2.is_ ?_
        refine Fin2.is_ ?_
        refine Fin2.nil_ ?_
        go_simp
        go_wp2_with fail
        go_ret
        exact ⟨rfl, gxf.trans h1⟩
end Go.Proofs.Ytoeknbogaclfdaa
