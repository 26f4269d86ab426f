/-
  Chapter 11: contracts of the reference's Ends, First, Same.
-/
import Derived.Test.YtcchlkialgjamaaScanFirst
namespace Go.Proofs.Ytcchlkialgjamaa
open Go.RowKit
set_option linter.unusedVariables false
set_option linter.unusedSimpArgs false
set_option linter.unnecessarySimpa false
set_option maxRecDepth 100000

theorem map_nextI {α β : Type} {f : α → β} {xs : List α} {k : Nat} {x : α} (h : xs[k]? = some x) : (xs.take (k + 1)).map f = (xs.take k).map f ++ [f x] := by
  rw [List.take_add_one, h]
  simp
theorem pts_intR {x : Int} {k : Nat} {p : Prop} : Pts [.int .i64 x] k → p := by
  rintro ⟨ad, m, c', hm, _⟩
  simp at hm
set_option maxHeartbeats 1000000 in
theorem ref10_Ends {A : Option Addr} {n c : Nat} {rows : List (List UInt8)} {last : Int} {w : World} (hl : Lst 1 blR w A n c rows) (hn : n ≤ 40) (hs : ShortF rows) :
    Calls Try.prog 37 #[.slice A n c, .int .i64 last] w fun e w' => ∃ A' c', e = .returned (.slice A' n c') ∧ OwnL INT 1 intR w' w.heap.size A' n c' (endsL rows last) ∧ Ext w w' := by
  have h63 := hl.n63
  obtain ⟨i0, hi0, hz0, hz1, hz2⟩ := info_parts info_int
  obtain ⟨F, hF⟩ : ∃ q : List UInt8 → Int, (fun r => (endL r last : Int)) = q := ⟨_, rfl⟩
  have HF := Lib.hid hF
  unfold endsL
  rw [hF]
  clear hF
  go_enter Try.func37, Try.ntmps37
  go_wp2_with fail
  go_loopw [5, 6] (fun v i wr => ∃ (k : Nat) (Ak : Option Addr) (ck : Nat) (es : List Int), k ≤ n ∧ i = .int .i64 k ∧ v = .slice Ak k ck ∧ OwnL INT 1 intR wr w.heap.size Ak k ck es ∧ Hid ((rows.take k).map F = es) ∧ Ext w wr) (fun _ i _ => n - (intOf i).toNat)
  case atStart => exact ⟨0, none, 0, [], by omega, rfl, rfl, OwnL.nil _ _ _ _, rfl, Ext.refl _⟩
  case round =>
    obtain ⟨k, Ak, ck, es, hk, rfl, rfl, hown, hes, hxr⟩ := hrel
    by_cases hlt : k < n
    · obtain ⟨ga, oa, b, Ar, nr, cr, rfl, hr, a0, hsl⟩ := row_at hl hlt
      have hnr : nr ≤ 1000000 := by have := hs b (List.mem_of_getElem? hr); rw [hsl.len] at this; omega
      have hnx := map_nextI (f := F) hr
      rw [hes.out] at hnx
      replace a0 := hxr.cell a0
      replace hsl := hsl.ext hxr
      obtain ⟨m, hm⟩ : ∃ q, endL b last = q := ⟨_, rfl⟩
      have hFr : F b = (m : Int) := by have := congrFun HF.out b; rw [← this, ← hm]
      rw [hFr] at hnx
      have HM := Lib.hid hm
      have HNX := Lib.hid hnx
      have hbl := hsl.len
      clear hm hnx hFr hr hes hs HF
      go_wp2_with fail
      obtain ⟨w0, rfl⟩ : ∃ q, q = wr := ⟨_, rfl⟩
      go_loopw [7] (fun i wr => ∃ (p : Nat), Hid (Ended b last p) ∧ p ≤ nr ∧ i = .int .i64 p ∧ Ext w0 wr) (fun i _ => nr - (intOf i).toNat)
      case atStart => exact ⟨0, ended_zero b last, by omega, rfl, Ext.refl _⟩
      case round =>
        obtain ⟨p, hup, hkp, rfl, hxr2⟩ := hrel
        have a0' := hxr2.cell a0
        have ht := tkA_at (b := b) (k := p) (by omega)
        by_cases hpn : p < nr
        case neg =>
          have e := ended_end hup.out (.inl (by rw [List.drop_of_length_le (by omega)]; decide))
          rw [HM.out] at e
          subst e
          clear ht hup HM hsl
          have hx3 := hxr.trans hxr2
          have hown2 := hown.ext int_rep hxr2
          have hx4 : Ext w _ := hx3
          have hfd : Feed Try.prog 1 intR (wr.alloc (.cells #[.int .i64 (p : Int)] INT)) 46 Ak ck (.slice (some ⟨wr.heap.size, 0, none⟩) 1 1) 1 [(p : Int)] := Feed.lit int_rep _ _ rfl under_ints (fun k hk => pts_intR hk) (by simp)
          go_wp2_with (at_builtin; refine wpList_append_lst (w0 := w) int_rep rfl _ _ _ _ rfl INT i0 _ 8 under_ints hi0 hz0 hz1 hz2 rfl Ak k ck _ rfl (hown2.ext int_rep (Ext.alloc _ _)) _ 1 [(p : Int)] rfl hfd (k + 1) rfl _ rfl (by simp only [maxLen]; omega) (by omega) (hx4.allocs _) ?_; intro A3 c3 w3 hown3 hx5)
          go_wp2_with fail
          go_roundw
          case rel => exact ⟨k + 1, A3, c3, _, by omega, by go_num, rfl, hown3, HNX, hx5⟩
          case measure => simp [intOf]; omega
        have a0 := hxr2.cell a0
        by_cases h0 : tkE (b.drop p) = 0
        · rw [if_pos h0] at ht
          by_cases hS' : (tkS (b.drop p) : Int) ≤ last
          · have hnx := ended_next hup.out h0 hS'
            have hk1 : p + (tkN (b.drop p) + 22) ≤ nr := by have := ended_le hnx; omega
            obtain ⟨T, hT⟩ : ∃ q, tkT (b.drop p) = q := ⟨_, rfl⟩
            obtain ⟨S, hS⟩ : ∃ q, tkS (b.drop p) = q := ⟨_, rfl⟩
            obtain ⟨D, hD⟩ : ∃ q, tkD (b.drop p) = q := ⟨_, rfl⟩
            obtain ⟨k2, hk2⟩ : ∃ q, p + (tkN (b.drop p) + 22) = q := ⟨_, rfl⟩
            have hkk : p + 22 ≤ k2 := by omega
            rw [hT, hS, hD, hk2] at ht
            rw [hk2] at hk1 hnx
            rw [hS] at hS'
            have HT := Lib.hid ht
            have HNX2 := Lib.hid hnx
            have hgt : ¬ (last < (S : Int)) := by omega
            clear ht hnx hT hS hD hk2 h0 hup hS'
            go_wp2_with fail
            refine (ref_TakeFrame (hsl.ext hxr2) hnr HT).mono ?_
            rintro e w2 ⟨A2, n2, c2, rfl, hb2, hx2⟩
            clear hb2
            go_wp2_with fail
            go_roundw
            case rel => exact ⟨k2, HNX2, hk1, rfl, (hxr2.trans hx2).trans (Ext.alloc _ _)⟩
            case measure => simp [intOf]; omega
          · have e := ended_end hup.out (.inr hS')
            rw [HM.out] at e
            subst e
            obtain ⟨T, hT⟩ : ∃ q, tkT (b.drop p) = q := ⟨_, rfl⟩
            obtain ⟨S, hS⟩ : ∃ q, tkS (b.drop p) = q := ⟨_, rfl⟩
            obtain ⟨D, hD⟩ : ∃ q, tkD (b.drop p) = q := ⟨_, rfl⟩
            obtain ⟨k2, hk2⟩ : ∃ q, p + (tkN (b.drop p) + 22) = q := ⟨_, rfl⟩
            rw [hT, hS, hD, hk2] at ht
            rw [hS] at hS'
            have HT := Lib.hid ht
            have hgt : last < (S : Int) := by omega
            clear ht hT hS hD hk2 h0 hup hS' HM
            go_wp2_with fail
            refine (ref_TakeFrame (hsl.ext hxr2) hnr HT).mono ?_
            rintro e w2 ⟨A2, n2, c2, rfl, hb2, hx2⟩
            clear hb2 HT hsl
            have hx3 := hxr.trans hxr2
            have hown2 := hown.ext int_rep (hxr2.trans (hx2.trans (Ext.alloc w2 (.cells #[.int .i64 T, .int .i64 S, .slice A2 n2 c2] 24))))
            have hx4 : Ext w _ := hx3.trans (hx2.trans (Ext.alloc w2 (.cells #[.int .i64 T, .int .i64 S, .slice A2 n2 c2] 24)))
            have hfd : Feed Try.prog 1 intR ((w2.alloc (.cells #[.int .i64 T, .int .i64 S, .slice A2 n2 c2] 24)).alloc (.cells #[.int .i64 (p : Int)] INT)) 46 Ak ck (.slice (some ⟨w2.heap.size + 1, 0, none⟩) 1 1) 1 [(p : Int)] := Feed.lit int_rep _ _ rfl under_ints (fun k hk => pts_intR hk) (by simp)
            go_wp2_with (at_builtin; refine wpList_append_lst (w0 := w) int_rep rfl _ _ _ _ rfl INT i0 _ 8 under_ints hi0 hz0 hz1 hz2 rfl Ak k ck _ rfl (hown2.ext int_rep (Ext.alloc _ _)) _ 1 [(p : Int)] rfl hfd (k + 1) rfl _ rfl (by simp only [maxLen]; omega) (by omega) (hx4.allocs _) ?_; intro A3 c3 w3 hown3 hx5)
            go_wp2_with fail
            go_roundw
            case rel => exact ⟨k + 1, A3, c3, _, by omega, by go_num, rfl, hown3, HNX, hx5⟩
            case measure => simp [intOf]; omega
        · rw [if_neg h0] at ht
          have e := ended_end hup.out (.inl h0)
          rw [HM.out] at e
          subst e
          obtain ⟨er, her⟩ : ∃ q, tkE (b.drop p) = q := ⟨_, rfl⟩
          rw [her] at ht h0
          have hern : ((er : Int) != 0) = true := by simpa using h0
          have HT := Lib.hid ht
          clear ht h0 her hup HM
          go_wp2_with fail
          refine (ref_TakeFrame (hsl.ext hxr2) hnr HT).mono ?_
          rintro e w2 ⟨A2, n2, c2, rfl, hb2, hx2⟩
          clear hb2 HT hsl
          have hx3 := hxr.trans hxr2
          have hown2 := hown.ext int_rep (hxr2.trans (hx2.trans (Ext.alloc w2 (.cells #[.int .i64 0, .int .i64 0, .slice A2 n2 c2] 24))))
          have hx4 : Ext w _ := hx3.trans (hx2.trans (Ext.alloc w2 (.cells #[.int .i64 0, .int .i64 0, .slice A2 n2 c2] 24)))
          have hfd : Feed Try.prog 1 intR ((w2.alloc (.cells #[.int .i64 0, .int .i64 0, .slice A2 n2 c2] 24)).alloc (.cells #[.int .i64 (p : Int)] INT)) 46 Ak ck (.slice (some ⟨w2.heap.size + 1, 0, none⟩) 1 1) 1 [(p : Int)] := Feed.lit int_rep _ _ rfl under_ints (fun k hk => pts_intR hk) (by simp)
          go_wp2_with (at_builtin; refine wpList_append_lst (w0 := w) int_rep rfl _ _ _ _ rfl INT i0 _ 8 under_ints hi0 hz0 hz1 hz2 rfl Ak k ck _ rfl (hown2.ext int_rep (Ext.alloc _ _)) _ 1 [(p : Int)] rfl hfd (k + 1) rfl _ rfl (by simp only [maxLen]; omega) (by omega) (hx4.allocs _) ?_; intro A3 c3 w3 hown3 hx5)
          go_wp2_with fail
          go_roundw
          case rel => exact ⟨k + 1, A3, c3, _, by omega, by go_num, rfl, hown3, HNX, hx5⟩
          case measure => simp [intOf]; omega
    · obtain rfl : k = n := by omega
      rw [← hes.out, List.take_of_length_le (by rw [hl.len]; exact Nat.le_refl _)] at hown
      clear hes HF
      go_wp2_with fail
      go_ret
      exact ⟨_, _, rfl, hown, hxr⟩

set_option maxHeartbeats 1000000 in
theorem ref10_First {A : Option Addr} {n c : Nat} {rows : List (List UInt8)} {w : World} (hl : Lst 1 blR w A n c rows) (hn : n ≤ 40) (hs : ShortF rows) {res : Int} (HR : Hid (firstL rows = res)) :
    Calls Try.prog 38 #[.slice A n c] w fun e w' => e = .returned (.int .i64 res) ∧ Ext w w' := by
  have h63 := hl.n63
  go_enter Try.func38, Try.ntmps38
  go_wp2_with fail
  go_loopw [3, 4] (fun v i wr => ∃ (k : Nat) (q : Int), k ≤ n ∧ i = .int .i64 k ∧ v = .int .i64 q ∧ Hid ((frsOf (rows.take k)).foldl leastF 0 = q) ∧ Ext w wr) (fun _ i _ => n - (intOf i).toNat)
  case atStart => exact ⟨0, 0, by omega, rfl, rfl, rfl, Ext.refl _⟩
  case round =>
    obtain ⟨k, q0, hk, rfl, rfl, hq, hxr⟩ := hrel
    by_cases hlt : k < n
    · obtain ⟨ga, oa, r, Ar, nr, cr, rfl, hr, a0, hsl⟩ := row_at hl hlt
      have hnr : nr ≤ 1000000 := by have := hs r (List.mem_of_getElem? hr); rw [hsl.len] at this; omega
      obtain ⟨ae, hae⟩ : ∃ q, enL (allL r).1 = q := ⟨_, rfl⟩
      have HNX : Hid ((frsOf (rows.take (k + 1))).foldl leastF 0 = ae.foldl leastF q0) := by
        unfold Hid
        rw [frsOf_next hr, List.foldl_append, hq.out, hae]
      replace a0 := hxr.cell a0
      replace hsl := hsl.ext hxr
      have hall := ref_AllFrames hsl hnr
      obtain ⟨a2, ha2⟩ : ∃ q, (allL r).2 = q := ⟨_, rfl⟩
      rw [hae, ha2] at hall
      clear hae ha2 hr hs hq
      go_wp2_with fail
      refine hall.mono ?_
      rintro e w2 ⟨A2, n2, c2, rfl, hown, hx2⟩
      clear hall a0 hsl
      have hle := hown.lst
      clear hown
      have h632 := hle.n63
      have hx3 := hxr.trans hx2
      go_wp2_with fail
      go_loopw [3, 7] (fun v i wr => ∃ (j : Nat) (q : Int), j ≤ n2 ∧ i = .int .i64 j ∧ v = .int .i64 q ∧ Hid ((ae.take j).foldl leastF q0 = q) ∧ Ext w2 wr) (fun _ i _ => n2 - (intOf i).toNat)
      case atStart => exact ⟨0, q0, by omega, rfl, rfl, rfl, Ext.refl _⟩
      case round =>
        obtain ⟨j, q, hj, rfl, rfl, hq, hxr2⟩ := hrel
        by_cases hlt2 : j < n2
        · obtain ⟨gb, ob, x, cs, rfl, hx, ⟨Aa, na, ca, rfl, sa0⟩, ha⟩ := hle.at2 en_rep (by omega) hlt2
          have a0 : wr.cell? ⟨gb, ob + j * 3, none⟩ = _ := hxr2.cell (ha 0 _ rfl)
          have a1 := hxr2.cell (ha 1 _ rfl)
          have a2 := hxr2.cell (ha 2 _ rfl)
          have hnx := fold_next hx hq.out
          obtain ⟨xt, xs', xd⟩ := x
          unfold leastF at hnx
          simp only at hnx a0 a1 a2
          clear ha sa0 hx hq
          by_cases hz : q = 0 ∨ xs' < q
          · rw [if_pos hz] at hnx
            have HN := Lib.hid hnx
            clear hnx
            by_cases hq0 : q = 0
            · subst hq0
              clear hz
              go_wp2_with fail
              go_roundw
              case rel => exact ⟨j + 1, xs', by omega, by go_num, rfl, HN, hxr2⟩
              case measure => simp [intOf]; omega
            · have hz : xs' < q := hz.resolve_left hq0
              have hq1 : (q == 0) = false := by simpa using hq0
              go_wp2_with fail
              go_roundw
              case rel => exact ⟨j + 1, xs', by omega, by go_num, rfl, HN, hxr2⟩
              case measure => simp [intOf]; omega
          · rw [if_neg hz] at hnx
            have HN := Lib.hid hnx
            have hq1 : (q == 0) = false := by have : ¬ q = 0 := fun e => hz (.inl e); simpa using this
            have hq2 : ¬ xs' < q := fun e => hz (.inr e)
            clear hnx hz
            go_wp2_with fail
            go_roundw
            case rel => exact ⟨j + 1, q, by omega, by go_num, rfl, HN, hxr2⟩
            case measure => simp [intOf]; omega
        · obtain rfl : j = n2 := by omega
          have e := hq.out
          rw [List.take_of_length_le (by rw [hle.len]; exact Nat.le_refl _)] at e
          have HQ : Hid ((frsOf (rows.take (k + 1))).foldl leastF 0 = q) := by unfold Hid; rw [HNX.out, e]
          clear e hq
          go_wp2_with fail
          go_roundw
          case rel => exact ⟨k + 1, q, by omega, by go_num, rfl, HQ, hx3.trans hxr2⟩
          case measure => simp [intOf]; omega
    · obtain rfl : k = n := by omega
      have e := hq.out
      rw [List.take_of_length_le (by rw [hl.len]; exact Nat.le_refl _)] at e
      have e2 : q0 = res := by rw [← HR.out, ← e]; rfl
      subst e2
      clear hq e
      go_wp2_with fail
      go_ret
      exact ⟨rfl, hxr⟩

theorem sameI_no {xs ys : List Int} {k : Nat} {x y : Int} (hx : xs[k]? = some x) (hy : ys[k]? = some y) (e : x ≠ y) : decide (xs = ys) = false := by
  rw [decide_eq_false_iff_not]
  rintro rfl
  rw [hx] at hy
  injection hy with hy
  exact e hy
theorem takeI_next {xs ys : List Int} {k : Nat} {x y : Int} (h : xs.take k = ys.take k) (hx : xs[k]? = some x) (hy : ys[k]? = some y) (e : x = y) : xs.take (k + 1) = ys.take (k + 1) := by
  rw [List.take_add_one, List.take_add_one, h, hx, hy, e]
set_option maxHeartbeats 1000000 in
theorem ref10_Same {A : Option Addr} {n c : Nat} {xs : List Int} {A' : Option Addr} {n' c' : Nat} {ys : List Int} {w : World} (h1 : Lst 1 intR w A n c xs) (h2 : Lst 1 intR w A' n' c' ys) {res : Bool} (HR : Hid (decide (xs = ys) = res)) :
    Calls Try.prog 35 #[.slice A n c, .slice A' n' c'] w fun e w' => e = .returned (.bool res) ∧ Ext w w' := by
  have h63 := h1.n63
  have h63' := h2.n63
  by_cases hn : n = n'
  case neg =>
    obtain rfl : false = res := by
      rw [← HR.out]
      symm
      rw [decide_eq_false_iff_not]
      rintro rfl
      exact hn (h1.len.symm.trans h2.len)
    have hnn : ((n : Int) != (n' : Int)) = true := by simp; omega
    clear hn HR
    go_enter Try.func35, Try.ntmps35
    go_wp2_with fail
    go_ret
    exact ⟨rfl, Ext.refl _⟩
  subst hn
  go_enter Try.func35, Try.ntmps35
  go_wp2_with fail
  go_loopw [5] (fun i wr => ∃ k : Nat, k ≤ n ∧ i = .int .i64 k ∧ Hid (xs.take k = ys.take k) ∧ Ext w wr) (fun i _ => n - (intOf i).toNat)
  case atStart => exact ⟨0, by omega, rfl, rfl, Ext.refl _⟩
  case round =>
    obtain ⟨k, hk, rfl, hE, hxr⟩ := hrel
    by_cases hlt : k < n
    · obtain ⟨ga, oa, x, rfl, hx, a0⟩ := h1.atI hlt
      obtain ⟨gb, ob, y, rfl, hy, b0⟩ := h2.atI hlt
      replace a0 := hxr.cell a0
      replace b0 := hxr.cell b0
      by_cases he : x = y
      · have HN := Lib.hid (takeI_next hE.out hx hy he)
        subst he
        have hxx : (x != x) = false := by simp
        clear hE hx hy
        go_wp2_with fail
        refine wp_region_typed Ext.steady rfl 26 rfl (by kernel_rfl) ?_
        -- 0: Op.move t0
        apply Stage.step (Is _) [] (Is.keeps _) (by kernel_rfl)
        · intro w1 h1
          simp only [Given]
          go_wp2_with fail
          exact Post.isv (Ext.refl _) rfl rfl rfl
        -- 1: Op.move t5
        apply Stage.step (Is _) [] (Is.keeps _) (by kernel_rfl)
        · intro w1 h1
          simp only [Given]
          go_wp2_with fail
          exact Post.isv (Ext.refl _) rfl rfl rfl
        -- 2: Op.indexAddr 46 t17 t18
        apply Stage.step (Is _) [true, true] (Is.keeps _) (by kernel_rfl)
        · intro w1 h1
          simp only [List.nil_append, List.cons_append, Given]
          rintro _ rfl
          rintro _ rfl
          go_wp2_with fail
          exact Post.isv (Ext.refl _) rfl rfl rfl
        -- 3: Op.load 3 t19
        apply Stage.step (Is _) [false, false, true] (Is.keeps _) (by kernel_rfl)
        · intro w1 h1
          simp only [List.nil_append, List.cons_append, Given]
          rintro _ rfl
          have hq := h1.cell a0
          go_wp2_with fail
          exact Post.isv (Ext.refl _) rfl rfl rfl
        -- 4: Op.move t1
        apply Stage.step (Is _) [] (Is.keeps _) (by kernel_rfl)
        · intro w1 h1
          simp only [Given]
          go_wp2_with fail
          exact Post.isv (Ext.refl _) rfl rfl rfl
        -- 5: Op.move t5
        apply Stage.step (Is _) [] (Is.keeps _) (by kernel_rfl)
        · intro w1 h1
          simp only [Given]
          go_wp2_with fail
          exact Post.isv (Ext.refl _) rfl rfl rfl
        -- 6: Op.indexAddr 46 t21 t22
        apply Stage.step (Is _) [false, false, false, false, true, true] (Is.keeps _) (by kernel_rfl)
        · intro w1 h1
          simp only [List.nil_append, List.cons_append, Given]
          rintro _ rfl
          rintro _ rfl
          go_wp2_with fail
          exact Post.isv (Ext.refl _) rfl rfl rfl
        -- 7: Op.load 3 t23
        apply Stage.step (Is _) [false, false, false, false, false, false, true] (Is.keeps _) (by kernel_rfl)
        · intro w1 h1
          simp only [List.nil_append, List.cons_append, Given]
          rintro _ rfl
          have hq := h1.cell b0
          go_wp2_with fail
          exact Post.isv (Ext.refl _) rfl rfl rfl
        -- 8: Op.binOp BinOp.neq 3 t20 t24 3
        apply Stage.step (Is _) [false, false, false, true, false, false, false, true] (Is.keeps _) (by kernel_rfl)
        · intro w1 h1
          simp only [List.nil_append, List.cons_append, Given]
          rintro _ rfl
          rintro _ rfl
          go_wp2_with fail
          exact Post.isv (Ext.refl _) rfl rfl rfl
        apply Stage.nil
        intro w1 h1
        simp only [List.nil_append, List.cons_append]
        refine Fin.is_ ?_
        refine Fin.is_ ?_
        refine Fin.is_ ?_
        refine Fin.is_ ?_
        refine Fin.is_ ?_
        refine Fin.is_ ?_
        refine Fin.is_ ?_
        refine Fin.is_ ?_
        refine Fin.is_ ?_
        refine Fin.nil_ ?_
        go_simp
        obtain ⟨wm, rfl⟩ : ∃ q, q = w1 := ⟨_, rfl⟩
        go_wp2_with fail
        go_roundw
        case rel => exact ⟨k + 1, by omega, by go_num, HN, hxr.trans h1⟩
        case measure => simp [intOf]; omega
      · obtain rfl : false = res := by rw [← HR.out]; exact (sameI_no hx hy he).symm
        have hxx : (x != y) = true := by simpa using he
        clear hE hx hy HR he
        go_wp2_with fail
        refine wp_region_typed Ext.steady rfl 26 rfl (by kernel_rfl) ?_
        -- 0: Op.move t0
        apply Stage.step (Is _) [] (Is.keeps _) (by kernel_rfl)
        · intro w1 h1
          simp only [Given]
          go_wp2_with fail
          exact Post.isv (Ext.refl _) rfl rfl rfl
        -- 1: Op.move t5
        apply Stage.step (Is _) [] (Is.keeps _) (by kernel_rfl)
        · intro w1 h1
          simp only [Given]
          go_wp2_with fail
          exact Post.isv (Ext.refl _) rfl rfl rfl
        -- 2: Op.indexAddr 46 t17 t18
        apply Stage.step (Is _) [true, true] (Is.keeps _) (by kernel_rfl)
        · intro w1 h1
          simp only [List.nil_append, List.cons_append, Given]
          rintro _ rfl
          rintro _ rfl
          go_wp2_with fail
          exact Post.isv (Ext.refl _) rfl rfl rfl
        -- 3: Op.load 3 t19
        apply Stage.step (Is _) [false, false, true] (Is.keeps _) (by kernel_rfl)
        · intro w1 h1
          simp only [List.nil_append, List.cons_append, Given]
          rintro _ rfl
          have hq := h1.cell a0
          go_wp2_with fail
          exact Post.isv (Ext.refl _) rfl rfl rfl
        -- 4: Op.move t1
        apply Stage.step (Is _) [] (Is.keeps _) (by kernel_rfl)
        · intro w1 h1
          simp only [Given]
          go_wp2_with fail
          exact Post.isv (Ext.refl _) rfl rfl rfl
        -- 5: Op.move t5
        apply Stage.step (Is _) [] (Is.keeps _) (by kernel_rfl)
        · intro w1 h1
          simp only [Given]
          go_wp2_with fail
          exact Post.isv (Ext.refl _) rfl rfl rfl
        -- 6: Op.indexAddr 46 t21 t22
        apply Stage.step (Is _) [false, false, false, false, true, true] (Is.keeps _) (by kernel_rfl)
        · intro w1 h1
          simp only [List.nil_append, List.cons_append, Given]
          rintro _ rfl
          rintro _ rfl
          go_wp2_with fail
          exact Post.isv (Ext.refl _) rfl rfl rfl
        -- 7: Op.load 3 t23
        apply Stage.step (Is _) [false, false, false, false, false, false, true] (Is.keeps _) (by kernel_rfl)
        · intro w1 h1
          simp only [List.nil_append, List.cons_append, Given]
          rintro _ rfl
          have hq := h1.cell b0
          go_wp2_with fail
          exact Post.isv (Ext.refl _) rfl rfl rfl
        -- 8: Op.binOp BinOp.neq 3 t20 t24 3
        apply Stage.step (Is _) [false, false, false, true, false, false, false, true] (Is.keeps _) (by kernel_rfl)
        · intro w1 h1
          simp only [List.nil_append, List.cons_append, Given]
          rintro _ rfl
          rintro _ rfl
          go_wp2_with fail
          exact Post.isv (Ext.refl _) rfl rfl rfl
        apply Stage.nil
        intro w1 h1
        simp only [List.nil_append, List.cons_append]
        refine Fin.is_ ?_
        refine Fin.is_ ?_
        refine Fin.is_ ?_
        refine Fin.is_ ?_
        refine Fin.is_ ?_
        refine Fin.is_ ?_
        refine Fin.is_ ?_
        refine Fin.is_ ?_
        refine Fin.is_ ?_
        refine Fin.nil_ ?_
        go_simp
        obtain ⟨wm, rfl⟩ : ∃ q, q = w1 := ⟨_, rfl⟩
        go_wp2_with fail
        go_ret
        exact ⟨rfl, hxr.trans h1⟩
    · obtain rfl : k = n := by omega
      have e := hE.out
      rw [List.take_of_length_le (by rw [h1.len]; exact Nat.le_refl _), List.take_of_length_le (by rw [h2.len]; exact Nat.le_refl _)] at e
      obtain rfl : true = res := by rw [← HR.out]; simpa using e
      clear hE HR e
      go_wp2_with fail
      go_ret
      exact ⟨rfl, hxr⟩
end Go.Proofs.Ytcchlkialgjamaa
