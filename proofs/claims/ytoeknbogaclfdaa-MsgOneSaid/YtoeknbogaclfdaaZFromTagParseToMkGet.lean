/-
  Chains out of bytes: contract of the program's parse.
-/
/-
  Chains out of bytes: contract of the program's Get.
-/
/-
  Marks out of bytes: contract of the program's mark.
-/
import Derived.Test.YtoeknbogaclfdaaZFromTagPutToTagFlat
import Derived.Test.YtoeknbogaclfdaaZFromHd2ToHdSame
namespace Go.Proofs.Ytoeknbogaclfdaa
open Go.RowKit
set_option linter.unusedVariables false
set_option linter.unusedSimpArgs false
set_option linter.unnecessarySimpa false
set_option maxRecDepth 100000

def atN (b : List UInt8) (a : Int) : Nat → Int
  | 0 => a
  | j + 1 => gvB b (atN b a j)
theorem nums4_yes {b : List UInt8} {a : Int} (h0 : gvC b (atN b a 0) = true) (h1 : gvC b (atN b a 1) = true) (h2 : gvC b (atN b a 2) = true) (h3 : gvC b (atN b a 3) = true) :
    numsF 4 b a = some ([gvA b (atN b a 0), gvA b (atN b a 1), gvA b (atN b a 2), gvA b (atN b a 3)], atN b a 4) := by
  simp only [atN] at h0 h1 h2 h3
  simp only [numsF, h0, h1, h2, h3, if_true, Option.map_some, atN]
theorem nums4_no {b : List UInt8} {a : Int} {j : Nat} (hj : j < 4) (h : gvC b (atN b a j) = false) : numsF 4 b a = none := by
  have hj4 : j = 0 ∨ j = 1 ∨ j = 2 ∨ j = 3 := by omega
  rcases hj4 with rfl | rfl | rfl | rfl <;> simp only [atN] at h <;> simp [numsF, h]
theorem tgs_none {f : Nat} {b : List UInt8} {a : Int} (h : numsF 4 b a = none) : tgsF (f + 1) b a = none := by rw [tgsF, h]
theorem tgs_some {f : Nat} {b : List UInt8} {a : Int} {p : List Int × Int} (h : numsF 4 b a = some p) : tgsF (f + 1) b a = (tgsF f b p.2).map fun l => tgOf p.1 :: l := by rw [tgsF, h]
theorem tgs_next {N k : Nat} {b : List UInt8} {a : Int} {out : List Tg} {o : Option (List Tg)} {p : List Int × Int} (h : (tgsF (N - k) b a).map (fun l => out ++ l) = o) (hk : k < N) (hp : numsF 4 b a = some p) :
    (tgsF (N - (k + 1)) b p.2).map (fun l => (out ++ [tgOf p.1]) ++ l) = o := by
  obtain ⟨f, hf⟩ : ∃ f, N - k = f + 1 := ⟨N - k - 1, by omega⟩
  rw [hf, tgs_some hp] at h
  rw [show N - (k + 1) = f by omega, ← h, Option.map_map]
  congr 1
  funext l
  simp
theorem tgs_stop {N k : Nat} {b : List UInt8} {a : Int} {out : List Tg} {o : Option (List Tg)} (h : (tgsF (N - k) b a).map (fun l => out ++ l) = o) (hk : k < N) (hp : numsF 4 b a = none) : o = none := by
  obtain ⟨f, hf⟩ : ∃ f, N - k = f + 1 := ⟨N - k - 1, by omega⟩
  rw [hf, tgs_none hp] at h
  exact h.symm
set_option maxHeartbeats 2000000 in
theorem chain_parse {A : Option Addr} {n c : Nat} {b : List UInt8} {w : World} (hb : Sl w A n c b) {o : Option (List Tg)} (ho : Hid (parseL b = o)) :
    Calls Try.prog 109 #[.slice A n c] w fun e w' => ∃ A' n' c', e = .returned (.tuple #[.slice A' n' c', .bool o.isSome]) ∧ OwnL TTg 4 tgR w' w.heap.size A' n' c' (o.getD []) ∧ Ext w w' := by
  have h63 := hb.n63
  obtain ⟨i0, hi0, hz0, hz1, hz2⟩ := info_parts info_tg
  have hs0 := gv_small b 0 (by omega)
  have ho1 := ho.out
  unfold parseL at ho1
  obtain ⟨ga, hga⟩ : ∃ q, gvA b 0 = q := ⟨_, rfl⟩
  obtain ⟨gb, hgb⟩ : ∃ q, gvB b 0 = q := ⟨_, rfl⟩
  obtain ⟨gc, hgc⟩ : ∃ q, gvC b 0 = q := ⟨_, rfl⟩
  rw [hga, hgb, hgc] at ho1
  rw [hga] at hs0
  have HG := Lib.hid (And.intro hga (And.intro hgb hgc))
  have hga0 : 0 ≤ ga := hs0.1
  clear hga hgb hgc hs0 ho
  cases gc with
  | false =>
    obtain rfl : o = none := by rw [← ho1]; simp
    clear ho1
    go_enter Try.func109, Try.ntmps109
    go_wp2_with fail
    refine (bits_GetVar_h hb HG).mono ?_
    rintro e _ ⟨rfl, rfl⟩
    go_wp2_with fail
    go_ret2
    exact ⟨_, _, _, rfl, OwnL.nil _ _ _ _, Ext.refl _⟩
  | true =>
    obtain ⟨N, rfl⟩ := Int.eq_ofNat_of_zero_le hga0
    by_cases h32 : 32 < N
    · obtain rfl : o = none := by rw [← ho1, if_neg (by rintro ⟨_, h⟩; omega)]
      clear ho1
      go_enter Try.func109, Try.ntmps109
      go_wp2_with fail
      refine (bits_GetVar_h hb HG).mono ?_
      rintro e _ ⟨rfl, rfl⟩
      go_wp2_with fail
      go_ret2
      exact ⟨_, _, _, rfl, OwnL.nil _ _ _ _, Ext.refl _⟩
    rw [if_pos ⟨rfl, by omega⟩, Int.toNat_natCast] at ho1
    have HO : Hid ((tgsF (N - 0) b gb).map (fun l => ([] : List Tg) ++ l) = o) := by
      unfold Hid
      rw [Nat.sub_zero, ← ho1]
      simp
    clear ho1 hga0
    go_enter Try.func109, Try.ntmps109
    go_wp2_with fail
    refine (bits_GetVar_h hb HG).mono ?_
    rintro e _ ⟨rfl, rfl⟩
    go_wp2_with fail
    go_loopw [5, 7, 24] (fun av v i wr => ∃ (k : Nat) (a : Int) (Ao : Option Addr) (co : Nat) (out : List Tg), k ≤ N ∧ av = .int .i64 a ∧ v = .slice Ao k co ∧ i = .int .i64 k ∧ OwnL TTg 4 tgR wr w.heap.size Ao k co out ∧ Hid ((tgsF (N - k) b a).map (fun l => out ++ l) = o) ∧ Ext w wr) (fun _ _ i _ => N - (intOf i).toNat)
    case atStart => exact ⟨0, gb, none, 0, [], by omega, rfl, rfl, rfl, OwnL.nil _ _ _ _, HO, Ext.refl _⟩
    case round =>
      obtain ⟨k, a, Ao, co, out, hk, rfl, rfl, rfl, hown, hrk, hxr⟩ := hrel
      clear HO HG
      by_cases hlt : k < N
      · obtain ⟨W, hW⟩ : ∃ W, W = wr := ⟨_, rfl⟩
        rw [← hW] at hown hxr
        go_wp2_with fail
        rw [← hW]
        clear hW
        go_loopw [5, 31] (fun av jv wr => ∃ (j : Nat) (d y0 y1 y2 y3 : Int), j ≤ 4 ∧ av = .int .i64 d ∧ jv = .int .i64 j ∧ wr = W.alloc (.cells #[.int .i64 y0, .int .i64 y1, .int .i64 y2, .int .i64 y3] 104) ∧ Hid (atN b a j = d) ∧ Hid ((0 < j → y0 = gvA b (atN b a 0) ∧ gvC b (atN b a 0) = true) ∧ (1 < j → y1 = gvA b (atN b a 1) ∧ gvC b (atN b a 1) = true) ∧ (2 < j → y2 = gvA b (atN b a 2) ∧ gvC b (atN b a 2) = true) ∧ (3 < j → y3 = gvA b (atN b a 3) ∧ gvC b (atN b a 3) = true))) (fun _ j _ => 4 - (intOf j).toNat)
        case atStart => exact ⟨0, a, 0, 0, 0, 0, by omega, rfl, rfl, rfl, rfl, by simp [Hid]⟩
        case round =>
          obtain ⟨j, d, y0, y1, y2, y3, hj, rfl, rfl, rfl, hd, hy⟩ := hrel
          have hj5 : j = 0 ∨ j = 1 ∨ j = 2 ∨ j = 3 ∨ j = 4 := by omega
          rcases hj5 with rfl | rfl | rfl | rfl | rfl
          · have ix : ∀ w, (Instr.index 139 (.agg #[.pointer (some ⟨W.heap.size, 0, none⟩), .pointer (some ⟨W.heap.size, 1, none⟩), .pointer (some ⟨W.heap.size, 2, none⟩), .pointer (some ⟨W.heap.size, 3, none⟩)]) (.int .i64 0)).run Try.prog w = .ok (.pointer (some ⟨W.heap.size, 0, none⟩)) w := fun _ => by kernel_rfl
            obtain ⟨X, hX⟩ : ∃ q, gvA b d = q := ⟨_, rfl⟩
            obtain ⟨Y, hY⟩ : ∃ q, gvB b d = q := ⟨_, rfl⟩
            obtain ⟨Z, hZ⟩ : ∃ q, gvC b d = q := ⟨_, rfl⟩
            have HV := Lib.hid (And.intro hX (And.intro hY hZ))
            clear hX hY hZ
            cases Z with
            | false =>
              obtain rfl := tgs_stop hrk.out hlt (nums4_no (j := 0) (by omega) (by rw [hd.out]; exact HV.out.2.2))
              clear hrk hd hy
              go_wp2_with fail
              refine (bits_GetVar_h (hb.ext (hxr.allocs _)) HV).mono ?_
              rintro e _ ⟨rfl, rfl⟩
              go_wp2_with fail
              go_ret2
              exact ⟨_, _, _, rfl, OwnL.nil _ _ _ _, hxr.allocs _⟩
            | true =>
              have HD : Hid (atN b a 1 = Y) := by
                unfold Hid
                rw [← HV.out.2.1, ← hd.out]
                rfl
              have hyx := hy.out
              have hdx := hd.out
              have h1x := HV.out
              have HY : Hid (X = gvA b (atN b a 0) ∧ gvC b (atN b a 0) = true) := by
                unfold Hid
                rw [hdx, h1x.1]
                exact ⟨rfl, h1x.2.2⟩
              have hd := hd.out
              clear hyx hdx h1x hd
              go_wp2_with fail
              refine (bits_GetVar_h (hb.ext (hxr.allocs _)) HV).mono ?_
              rintro e _ ⟨rfl, rfl⟩
              go_wp2_with fail
              go_roundw
              case rel => exact ⟨1, Y, X, y1, y2, y3, by omega, rfl, rfl, rfl, HD, ⟨fun _ => HY.out, fun h => by omega, fun h => by omega, fun h => by omega⟩⟩
              case measure => simp [intOf]
          · have ix : ∀ w, (Instr.index 139 (.agg #[.pointer (some ⟨W.heap.size, 0, none⟩), .pointer (some ⟨W.heap.size, 1, none⟩), .pointer (some ⟨W.heap.size, 2, none⟩), .pointer (some ⟨W.heap.size, 3, none⟩)]) (.int .i64 1)).run Try.prog w = .ok (.pointer (some ⟨W.heap.size, 1, none⟩)) w := fun _ => by kernel_rfl
            obtain ⟨X, hX⟩ : ∃ q, gvA b d = q := ⟨_, rfl⟩
            obtain ⟨Y, hY⟩ : ∃ q, gvB b d = q := ⟨_, rfl⟩
            obtain ⟨Z, hZ⟩ : ∃ q, gvC b d = q := ⟨_, rfl⟩
            have HV := Lib.hid (And.intro hX (And.intro hY hZ))
            clear hX hY hZ
            cases Z with
            | false =>
              obtain rfl := tgs_stop hrk.out hlt (nums4_no (j := 1) (by omega) (by rw [hd.out]; exact HV.out.2.2))
              clear hrk hd hy
              go_wp2_with fail
              refine (bits_GetVar_h (hb.ext (hxr.allocs _)) HV).mono ?_
              rintro e _ ⟨rfl, rfl⟩
              go_wp2_with fail
              go_ret2
              exact ⟨_, _, _, rfl, OwnL.nil _ _ _ _, hxr.allocs _⟩
            | true =>
              have HD : Hid (atN b a 2 = Y) := by
                unfold Hid
                rw [← HV.out.2.1, ← hd.out]
                rfl
              have hyx := hy.out
              have hdx := hd.out
              have h1x := HV.out
              have HY : Hid (X = gvA b (atN b a 1) ∧ gvC b (atN b a 1) = true) := by
                unfold Hid
                rw [hdx, h1x.1]
                exact ⟨rfl, h1x.2.2⟩
              have hd := hd.out
              clear hyx hdx h1x hd
              go_wp2_with fail
              refine (bits_GetVar_h (hb.ext (hxr.allocs _)) HV).mono ?_
              rintro e _ ⟨rfl, rfl⟩
              go_wp2_with fail
              go_roundw
              case rel => exact ⟨2, Y, y0, X, y2, y3, by omega, rfl, rfl, rfl, HD, ⟨fun _ => hy.out.1 (by omega), fun _ => HY.out, fun h => by omega, fun h => by omega⟩⟩
              case measure => simp [intOf]
          · have ix : ∀ w, (Instr.index 139 (.agg #[.pointer (some ⟨W.heap.size, 0, none⟩), .pointer (some ⟨W.heap.size, 1, none⟩), .pointer (some ⟨W.heap.size, 2, none⟩), .pointer (some ⟨W.heap.size, 3, none⟩)]) (.int .i64 2)).run Try.prog w = .ok (.pointer (some ⟨W.heap.size, 2, none⟩)) w := fun _ => by kernel_rfl
            obtain ⟨X, hX⟩ : ∃ q, gvA b d = q := ⟨_, rfl⟩
            obtain ⟨Y, hY⟩ : ∃ q, gvB b d = q := ⟨_, rfl⟩
            obtain ⟨Z, hZ⟩ : ∃ q, gvC b d = q := ⟨_, rfl⟩
            have HV := Lib.hid (And.intro hX (And.intro hY hZ))
            clear hX hY hZ
            cases Z with
            | false =>
              obtain rfl := tgs_stop hrk.out hlt (nums4_no (j := 2) (by omega) (by rw [hd.out]; exact HV.out.2.2))
              clear hrk hd hy
              go_wp2_with fail
              refine (bits_GetVar_h (hb.ext (hxr.allocs _)) HV).mono ?_
              rintro e _ ⟨rfl, rfl⟩
              go_wp2_with fail
              go_ret2
              exact ⟨_, _, _, rfl, OwnL.nil _ _ _ _, hxr.allocs _⟩
            | true =>
              have HD : Hid (atN b a 3 = Y) := by
                unfold Hid
                rw [← HV.out.2.1, ← hd.out]
                rfl
              have hyx := hy.out
              have hdx := hd.out
              have h1x := HV.out
              have HY : Hid (X = gvA b (atN b a 2) ∧ gvC b (atN b a 2) = true) := by
                unfold Hid
                rw [hdx, h1x.1]
                exact ⟨rfl, h1x.2.2⟩
              have hd := hd.out
              clear hyx hdx h1x hd
              go_wp2_with fail
              refine (bits_GetVar_h (hb.ext (hxr.allocs _)) HV).mono ?_
              rintro e _ ⟨rfl, rfl⟩
              go_wp2_with fail
              go_roundw
              case rel => exact ⟨3, Y, y0, y1, X, y3, by omega, rfl, rfl, rfl, HD, ⟨fun _ => hy.out.1 (by omega), fun _ => hy.out.2.1 (by omega), fun _ => HY.out, fun h => by omega⟩⟩
              case measure => simp [intOf]
          · have ix : ∀ w, (Instr.index 139 (.agg #[.pointer (some ⟨W.heap.size, 0, none⟩), .pointer (some ⟨W.heap.size, 1, none⟩), .pointer (some ⟨W.heap.size, 2, none⟩), .pointer (some ⟨W.heap.size, 3, none⟩)]) (.int .i64 3)).run Try.prog w = .ok (.pointer (some ⟨W.heap.size, 3, none⟩)) w := fun _ => by kernel_rfl
            obtain ⟨X, hX⟩ : ∃ q, gvA b d = q := ⟨_, rfl⟩
            obtain ⟨Y, hY⟩ : ∃ q, gvB b d = q := ⟨_, rfl⟩
            obtain ⟨Z, hZ⟩ : ∃ q, gvC b d = q := ⟨_, rfl⟩
            have HV := Lib.hid (And.intro hX (And.intro hY hZ))
            clear hX hY hZ
            cases Z with
            | false =>
              obtain rfl := tgs_stop hrk.out hlt (nums4_no (j := 3) (by omega) (by rw [hd.out]; exact HV.out.2.2))
              clear hrk hd hy
              go_wp2_with fail
              refine (bits_GetVar_h (hb.ext (hxr.allocs _)) HV).mono ?_
              rintro e _ ⟨rfl, rfl⟩
              go_wp2_with fail
              go_ret2
              exact ⟨_, _, _, rfl, OwnL.nil _ _ _ _, hxr.allocs _⟩
            | true =>
              have HD : Hid (atN b a 4 = Y) := by
                unfold Hid
                rw [← HV.out.2.1, ← hd.out]
                rfl
              have hyx := hy.out
              have hdx := hd.out
              have h1x := HV.out
              have HY : Hid (X = gvA b (atN b a 3) ∧ gvC b (atN b a 3) = true) := by
                unfold Hid
                rw [hdx, h1x.1]
                exact ⟨rfl, h1x.2.2⟩
              have hd := hd.out
              clear hyx hdx h1x hd
              go_wp2_with fail
              refine (bits_GetVar_h (hb.ext (hxr.allocs _)) HV).mono ?_
              rintro e _ ⟨rfl, rfl⟩
              go_wp2_with fail
              go_roundw
              case rel => exact ⟨4, Y, y0, y1, y2, X, by omega, rfl, rfl, rfl, HD, ⟨fun _ => hy.out.1 (by omega), fun _ => hy.out.2.1 (by omega), fun _ => hy.out.2.2.1 (by omega), fun _ => HY.out⟩⟩
              case measure => simp [intOf]
          · have hyx := hy.out
            have hn4 := nums4_yes (hyx.1 (by omega)).2 (hyx.2.1 (by omega)).2 (hyx.2.2.1 (by omega)).2 (hyx.2.2.2 (by omega)).2
            rw [hd.out, ← (hyx.1 (by omega)).1, ← (hyx.2.1 (by omega)).1, ← (hyx.2.2.1 (by omega)).1, ← (hyx.2.2.2 (by omega)).1] at hn4
            have HN := Lib.hid (tgs_next hrk.out hlt hn4)
            clear hn4 hyx hy hd hrk
            have lit := (tag_lit (W.alloc (.cells #[.int .i64 y0, .int .i64 y1, .int .i64 y2, .int .i64 y3] 104)) ⟨y0, y1, y2, y3⟩).lst
            rw [show (W.alloc (.cells #[.int .i64 y0, .int .i64 y1, .int .i64 y2, .int .i64 y3] 104)).heap.size = W.heap.size + 1 by simp] at lit
            go_wp2_with (
              at_builtin
              refine wpList_append_flat (w0 := w) tg_rep (fun x cs w h => tag_nop h) rfl (.tmp 46) (.tmp 48) _ _ rfl TTg TTg i0 _ 32 under_tgs under_tgs hi0 hz0 hz1 hz2 rfl Ao k co out rfl ((hown.ext tg_rep (Ext.alloc _ _)).ext tg_rep (Ext.alloc _ _)) _ 1 1 [⟨y0, y1, y2, y3⟩] rfl lit (k + 1) rfl _ rfl (by simp only [maxLen]; omega) (by omega) ((hxr.allocs _).allocs _) ?_
              intro A3 c3 w3 hb3 hx3)
            go_wp2_with fail
            go_roundw
            case rel => exact ⟨k + 1, d, A3, c3, _, by omega, rfl, rfl, by go_num, hb3, HN, hx3⟩
            case measure => simp [intOf]; omega
      · obtain rfl : k = N := by omega
        have hr1 := hrk.out
        rw [Nat.sub_self] at hr1
        obtain rfl : o = some out := by rw [← hr1]; simp [tgsF]
        clear hrk hr1
        go_wp2_with fail
        go_ret2
        exact ⟨_, _, _, rfl, hown, hxr⟩
end Go.Proofs.Ytoeknbogaclfdaa

namespace Go.Proofs.Ytoeknbogaclfdaa
open Go.RowKit
set_option linter.unusedVariables false
set_option linter.unusedSimpArgs false
set_option linter.unnecessarySimpa false
set_option maxRecDepth 100000

theorem get_none {b : List UInt8} (h : parseL b = none) : getL b = none := by unfold getL; rw [h]
theorem get_wrong {b : List UInt8} {l : List Tg} (h : parseL b = some l) (hr : rightL l = false) : getL b = none := by
  unfold getL
  rw [h]
  simp [hr]
theorem get_other {b : List UInt8} {l : List Tg} (h : parseL b = some l) (hr : (putL l == b) = false) : getL b = none := by
  unfold getL
  rw [h]
  simp only
  rw [if_neg]
  rintro ⟨_, e⟩
  rw [e] at hr
  simp at hr
theorem get_yes {b : List UInt8} {l : List Tg} (h : parseL b = some l) (hr : rightL l = true) (he : (putL l == b) = true) : getL b = some l := by
  unfold getL
  rw [h]
  have he := eq_of_beq he
  simp [hr, he]
set_option maxHeartbeats 1000000 in
theorem chain_Get {A : Option Addr} {n c : Nat} {b : List UInt8} {w : World} (hb : Sl w A n c b) {o : Option (List Tg)} (ho : Hid (getL b = o)) :
    Calls Try.prog 106 #[.slice A n c] w fun e w' => ∃ A' n' c', e = .returned (.tuple #[.slice A' n' c', .int .i64 (if o.isSome then 0 else 2)]) ∧ OwnL TTg 4 tgR w' w.heap.size A' n' c' (o.getD []) ∧ Ext w w' := by
  obtain ⟨q, hq⟩ : ∃ q, parseL b = q := ⟨_, rfl⟩
  have HQ := Lib.hid hq
  have ho1 := ho.out
  clear ho
  cases q with
  | none =>
    rw [get_none hq] at ho1
    subst ho1
    clear hq
    go_enter Try.func106, Try.ntmps106
    go_wp2_with fail
    refine (chain_parse hb HQ).mono ?_
    rintro e w1 ⟨A1, n1, c1, rfl, h1, hx1⟩
    go_wp2_with fail
    go_ret2
    exact ⟨_, _, _, rfl, OwnL.nil _ _ _ _, hx1⟩
  | some l =>
    obtain ⟨r, hr⟩ : ∃ r, rightL l = r := ⟨_, rfl⟩
    have HR := Lib.hid hr
    obtain ⟨L, hL⟩ : ∃ L, putR l r = L := ⟨_, rfl⟩
    have HL := Lib.hid hL
    cases r with
    | false =>
      rw [get_wrong hq hr] at ho1
      subst ho1
      clear hq hr hL
      go_enter Try.func106, Try.ntmps106
      go_wp2_with fail
      refine (chain_parse hb HQ).mono ?_
      rintro e w1 ⟨A1, n1, c1, rfl, h1, hx1⟩
      go_wp2_with fail
      refine (chain_Put h1.lst HR HL).mono ?_
      rintro e w2 ⟨A2, n2, c2, rfl, h2, hx2⟩
      rw [show (if false = true then (0 : Int) else 1) = 1 from rfl]
      go_wp2_with fail
      go_ret2
      exact ⟨_, _, _, rfl, OwnL.nil _ _ _ _, hx1.trans hx2⟩
    | true =>
      obtain rfl : putL l = L := hL
      obtain ⟨z, hz⟩ : ∃ z, (putL l == b) = z := ⟨_, rfl⟩
      have HZ := Lib.hid hz
      cases z with
      | false =>
        rw [get_other hq hz] at ho1
        subst ho1
        clear hq hr hz
        go_enter Try.func106, Try.ntmps106
        go_wp2_with fail
        refine (chain_parse hb HQ).mono ?_
        rintro e w1 ⟨A1, n1, c1, rfl, h1, hx1⟩
        go_wp2_with fail
        refine (chain_Put h1.lst HR HL).mono ?_
        rintro e w2 ⟨A2, n2, c2, rfl, h2, hx2⟩
        rw [show (if true = true then (0 : Int) else 1) = 0 from rfl]
        go_wp2_with fail
        refine (bytes_Equal A2 n2 c2 _ A n c b _ h2.sl (hb.ext (hx1.trans hx2))).mono ?_
        rintro e w3 ⟨rfl, rfl⟩
        rw [HZ.out]
        go_wp2_with fail
        go_ret2
        exact ⟨_, _, _, rfl, OwnL.nil _ _ _ _, hx1.trans hx2⟩
      | true =>
        rw [get_yes hq hr hz] at ho1
        subst ho1
        clear hq hr hz
        go_enter Try.func106, Try.ntmps106
        go_wp2_with fail
        refine (chain_parse hb HQ).mono ?_
        rintro e w1 ⟨A1, n1, c1, rfl, h1, hx1⟩
        go_wp2_with fail
        refine (chain_Put h1.lst HR HL).mono ?_
        rintro e w2 ⟨A2, n2, c2, rfl, h2, hx2⟩
        rw [show (if true = true then (0 : Int) else 1) = 0 from rfl]
        go_wp2_with fail
        refine (bytes_Equal A2 n2 c2 _ A n c b _ h2.sl (hb.ext (hx1.trans hx2))).mono ?_
        rintro e w3 ⟨rfl, rfl⟩
        rw [HZ.out]
        go_wp2_with fail
        go_ret2
        exact ⟨_, _, _, rfl, h1.ext tg_rep hx2, hx1.trans hx2⟩
end Go.Proofs.Ytoeknbogaclfdaa

namespace Go.Proofs.Ytoeknbogaclfdaa
open Go.RowKit
set_option linter.unusedVariables false
set_option linter.unusedSimpArgs false
set_option linter.unnecessarySimpa false
set_option maxRecDepth 100000

theorem bits_GetText_h {A : Option Addr} {n c : Nat} {l : List UInt8} {a most : Int} {w : World} (hs : Sl w A n c l) (hn6 : n ≤ 1000000) {ta : ByteArray} {tb : Int} {tc : Bool} (h : Hid ((⟨(gtA l a most).toArray⟩ : ByteArray) = ta ∧ gtB l a most = tb ∧ gtC l a most = tc)) :
    Calls Try.prog 108 #[.slice A n c, .int .i64 a, .int .i64 most] w fun e w' => e = .returned (.tuple #[.string ta, .int .i64 tb, .bool tc]) ∧ w = w' := by
  have := bits_GetText A n c l a most w hs hn6
  rwa [h.out.1, h.out.2.1, h.out.2.2] at this
theorem ref_GetText_h {A : Option Addr} {n c : Nat} {l : List UInt8} {a most : Int} {w : World} (hs : Sl w A n c l) (hn6 : n ≤ 1000000) {ta : ByteArray} {tb : Int} {tc : Bool} (h : Hid ((⟨(gtA l a most).toArray⟩ : ByteArray) = ta ∧ gtB l a most = tb ∧ gtC l a most = tc)) :
    Calls Try.prog 97 #[.slice A n c, .int .i64 a, .int .i64 most] w fun e w' => e = .returned (.tuple #[.string ta, .int .i64 tb, .bool tc]) ∧ w = w' := by
  have := ref_GetText A n c l a most w hs hn6
  rwa [h.out.1, h.out.2.1, h.out.2.2] at this
theorem nums3_yes {b : List UInt8} {a : Int} (h0 : gvC b (atN b a 0) = true) (h1 : gvC b (atN b a 1) = true) (h2 : gvC b (atN b a 2) = true) :
    numsF 3 b a = some ([gvA b (atN b a 0), gvA b (atN b a 1), gvA b (atN b a 2)], atN b a 3) := by
  simp only [atN] at h0 h1 h2
  simp only [numsF, h0, h1, h2, if_true, Option.map_some, atN]
theorem nums3_no {b : List UInt8} {a : Int} {j : Nat} (hj : j < 3) (h : gvC b (atN b a j) = false) : numsF 3 b a = none := by
  have hj4 : j = 0 ∨ j = 1 ∨ j = 2 := by omega
  rcases hj4 with rfl | rfl | rfl <;> simp only [atN] at h <;> simp [numsF, h]
theorem mkG_none {b : List UInt8} {a : Int} {rf : Bool} (h : numsF 3 b a = none) : mkG rf b a = none := by unfold mkG; rw [h]; rfl
theorem gtO_some {b : List UInt8} {a most : Int} (h : gtC b a most = true) : gtO b a most = some (gtA b a most, gtB b a most) := by
  unfold gtC at h
  obtain ⟨p, hp⟩ := Option.isSome_iff_exists.1 h
  unfold gtA gtB
  rw [hp]
theorem gtO_none {b : List UInt8} {a most : Int} (h : gtC b a most = false) : gtO b a most = none := by
  unfold gtC at h
  cases hp : gtO b a most with
  | none => rfl
  | some p => rw [hp] at h; cases h
set_option maxHeartbeats 2000000 in
theorem header_mark {A : Option Addr} {n c : Nat} {b : List UInt8} {a : Int} {w : World} (hb : Sl w A n c b) (hn6 : n ≤ 1000000) {o : Option (Mk × Int)} (ho : Hid (mkG false b a = o)) :
    Calls Try.prog 94 #[.slice A n c, .int .i64 a] w fun e w' => ∃ m to, e = .returned (.tuple #[mkV m, .int .i64 to, .bool o.isSome]) ∧ (∀ p, o = some p → p = (m, to)) ∧ Ext w w' := by
  have h63 := hb.n63
  obtain ⟨W, hW⟩ : ∃ W, W = w := ⟨_, rfl⟩
  have hx0 : Ext w W := by rw [hW]; exact Ext.refl _
  rw [← hW] at hb
  go_enter Try.func94, Try.ntmps94
  go_wp2_with fail
  rw [← hW]
  clear hW
  go_loopw [1, 13] (fun av jv wr => ∃ (j : Nat) (d y0 y1 y2 : Int), j ≤ 3 ∧ av = .int .i64 d ∧ jv = .int .i64 j ∧ wr = (W.alloc (.cells #[.int .i64 y0, .string ⟨#[]⟩, .int .i64 y1, .bool false] TMk)).alloc (.cells #[.int .i64 y2] INT) ∧ Hid (atN b a j = d) ∧ Hid ((0 < j → y0 = gvA b (atN b a 0) ∧ gvC b (atN b a 0) = true) ∧ (1 < j → y1 = gvA b (atN b a 1) ∧ gvC b (atN b a 1) = true) ∧ (2 < j → y2 = gvA b (atN b a 2) ∧ gvC b (atN b a 2) = true))) (fun _ j _ => 3 - (intOf j).toNat)
  case atStart => exact ⟨0, a, 0, 0, 0, by omega, rfl, rfl, rfl, rfl, by simp [Hid]⟩
  case round =>
    obtain ⟨j, d, y0, y1, y2, hj, rfl, rfl, rfl, hd, hy⟩ := hrel
    have hj5 : j = 0 ∨ j = 1 ∨ j = 2 ∨ j = 3 := by omega
    rcases hj5 with rfl | rfl | rfl | rfl
    · have ix : ∀ w, (Instr.index 135 (.agg #[.pointer (some ⟨W.heap.size, 0, none⟩), .pointer (some ⟨W.heap.size, 2, none⟩), .pointer (some ⟨W.heap.size + 1, 0, none⟩)]) (.int .i64 0)).run Try.prog w = .ok (.pointer (some ⟨W.heap.size, 0, none⟩)) w := fun _ => by kernel_rfl
      obtain ⟨X, hX⟩ : ∃ q, gvA b d = q := ⟨_, rfl⟩
      obtain ⟨Y, hY⟩ : ∃ q, gvB b d = q := ⟨_, rfl⟩
      obtain ⟨Z, hZ⟩ : ∃ q, gvC b d = q := ⟨_, rfl⟩
      have HV := Lib.hid (And.intro hX (And.intro hY hZ))
      clear hX hY hZ
      cases Z with
      | false =>
        obtain rfl : none = o := by rw [← ho.out]; exact (mkG_none (nums3_no (j := 0) (by omega) (by rw [hd.out]; exact HV.out.2.2))).symm
        clear hd hy ho
        go_wp2_with fail
        refine (bits_GetVar_h (hb.ext ((Ext.alloc _ _).allocs _)) HV).mono ?_
        rintro e _ ⟨rfl, rfl⟩
        go_wp2_with fail
        refine bodyPost_ret (v := .tuple #[mkV ⟨X, ⟨#[]⟩, y1, false⟩, .int .i64 0, .bool false]) ?hres rfl ⟨_, _, rfl, (fun p hp => by cases hp), ?hxx⟩
        case hres => simp [results, Try.results94, go_sem]
        case hxx => (repeat (first | (with_reducible exact Ext.refl _) | (with_reducible assumption) | (with_reducible refine Ext.draws ?_) | (with_reducible refine Ext.allocs ?_ _) | (with_reducible refine Ext.sets ?_ ?_ _) | (with_reducible exact Nat.le_refl _) | (exact (by simp)) | (exact (by simp; omega))))
      | true =>
        have HD : Hid (atN b a 1 = Y) := by
          unfold Hid
          rw [← HV.out.2.1, ← hd.out]
          rfl
        have hdx := hd.out
        have h1x := HV.out
        have HY : Hid (X = gvA b (atN b a 0) ∧ gvC b (atN b a 0) = true) := by
          unfold Hid
          rw [hdx, h1x.1]
          exact ⟨rfl, h1x.2.2⟩
        clear hdx h1x
        go_wp2_with fail
        refine (bits_GetVar_h (hb.ext ((Ext.alloc _ _).allocs _)) HV).mono ?_
        rintro e _ ⟨rfl, rfl⟩
        go_wp2_with fail
        go_roundw
        case rel => exact ⟨1, Y, X, y1, y2, by omega, rfl, rfl, rfl, HD, ⟨fun _ => HY.out, fun h => by omega, fun h => by omega⟩⟩
        case measure => simp [intOf]
    · have ix : ∀ w, (Instr.index 135 (.agg #[.pointer (some ⟨W.heap.size, 0, none⟩), .pointer (some ⟨W.heap.size, 2, none⟩), .pointer (some ⟨W.heap.size + 1, 0, none⟩)]) (.int .i64 1)).run Try.prog w = .ok (.pointer (some ⟨W.heap.size, 2, none⟩)) w := fun _ => by kernel_rfl
      obtain ⟨X, hX⟩ : ∃ q, gvA b d = q := ⟨_, rfl⟩
      obtain ⟨Y, hY⟩ : ∃ q, gvB b d = q := ⟨_, rfl⟩
      obtain ⟨Z, hZ⟩ : ∃ q, gvC b d = q := ⟨_, rfl⟩
      have HV := Lib.hid (And.intro hX (And.intro hY hZ))
      clear hX hY hZ
      cases Z with
      | false =>
        obtain rfl : none = o := by rw [← ho.out]; exact (mkG_none (nums3_no (j := 1) (by omega) (by rw [hd.out]; exact HV.out.2.2))).symm
        clear hd hy ho
        go_wp2_with fail
        refine (bits_GetVar_h (hb.ext ((Ext.alloc _ _).allocs _)) HV).mono ?_
        rintro e _ ⟨rfl, rfl⟩
        go_wp2_with fail
        refine bodyPost_ret (v := .tuple #[mkV ⟨y0, ⟨#[]⟩, X, false⟩, .int .i64 0, .bool false]) ?hres rfl ⟨_, _, rfl, (fun p hp => by cases hp), ?hxx⟩
        case hres => simp [results, Try.results94, go_sem]
        case hxx => (repeat (first | (with_reducible exact Ext.refl _) | (with_reducible assumption) | (with_reducible refine Ext.draws ?_) | (with_reducible refine Ext.allocs ?_ _) | (with_reducible refine Ext.sets ?_ ?_ _) | (with_reducible exact Nat.le_refl _) | (exact (by simp)) | (exact (by simp; omega))))
      | true =>
        have HD : Hid (atN b a 2 = Y) := by
          unfold Hid
          rw [← HV.out.2.1, ← hd.out]
          rfl
        have hdx := hd.out
        have h1x := HV.out
        have HY : Hid (X = gvA b (atN b a 1) ∧ gvC b (atN b a 1) = true) := by
          unfold Hid
          rw [hdx, h1x.1]
          exact ⟨rfl, h1x.2.2⟩
        clear hdx h1x
        go_wp2_with fail
        refine (bits_GetVar_h (hb.ext ((Ext.alloc _ _).allocs _)) HV).mono ?_
        rintro e _ ⟨rfl, rfl⟩
        go_wp2_with fail
        go_roundw
        case rel => exact ⟨2, Y, y0, X, y2, by omega, rfl, rfl, rfl, HD, ⟨fun _ => hy.out.1 (by omega), fun _ => HY.out, fun h => by omega⟩⟩
        case measure => simp [intOf]
    · have ix : ∀ w, (Instr.index 135 (.agg #[.pointer (some ⟨W.heap.size, 0, none⟩), .pointer (some ⟨W.heap.size, 2, none⟩), .pointer (some ⟨W.heap.size + 1, 0, none⟩)]) (.int .i64 2)).run Try.prog w = .ok (.pointer (some ⟨W.heap.size + 1, 0, none⟩)) w := fun _ => by kernel_rfl
      obtain ⟨X, hX⟩ : ∃ q, gvA b d = q := ⟨_, rfl⟩
      obtain ⟨Y, hY⟩ : ∃ q, gvB b d = q := ⟨_, rfl⟩
      obtain ⟨Z, hZ⟩ : ∃ q, gvC b d = q := ⟨_, rfl⟩
      have HV := Lib.hid (And.intro hX (And.intro hY hZ))
      clear hX hY hZ
      cases Z with
      | false =>
        obtain rfl : none = o := by rw [← ho.out]; exact (mkG_none (nums3_no (j := 2) (by omega) (by rw [hd.out]; exact HV.out.2.2))).symm
        clear hd hy ho
        go_wp2_with fail
        refine (bits_GetVar_h (hb.ext ((Ext.alloc _ _).allocs _)) HV).mono ?_
        rintro e _ ⟨rfl, rfl⟩
        go_wp2_with fail
        refine bodyPost_ret (v := .tuple #[mkV ⟨y0, ⟨#[]⟩, y1, false⟩, .int .i64 0, .bool false]) ?hres rfl ⟨_, _, rfl, (fun p hp => by cases hp), ?hxx⟩
        case hres => simp [results, Try.results94, go_sem]
        case hxx => (repeat (first | (with_reducible exact Ext.refl _) | (with_reducible assumption) | (with_reducible refine Ext.draws ?_) | (with_reducible refine Ext.allocs ?_ _) | (with_reducible refine Ext.sets ?_ ?_ _) | (with_reducible exact Nat.le_refl _) | (exact (by simp)) | (exact (by simp; omega))))
      | true =>
        have HD : Hid (atN b a 3 = Y) := by
          unfold Hid
          rw [← HV.out.2.1, ← hd.out]
          rfl
        have hdx := hd.out
        have h1x := HV.out
        have HY : Hid (X = gvA b (atN b a 2) ∧ gvC b (atN b a 2) = true) := by
          unfold Hid
          rw [hdx, h1x.1]
          exact ⟨rfl, h1x.2.2⟩
        clear hdx h1x
        go_wp2_with fail
        refine (bits_GetVar_h (hb.ext ((Ext.alloc _ _).allocs _)) HV).mono ?_
        rintro e _ ⟨rfl, rfl⟩
        go_wp2_with fail
        go_roundw
        case rel => exact ⟨3, Y, y0, y1, X, by omega, rfl, rfl, rfl, HD, ⟨fun _ => hy.out.1 (by omega), fun _ => hy.out.2.1 (by omega), fun _ => HY.out⟩⟩
        case measure => simp [intOf]
    · have hyx := hy.out
      have hn3 := nums3_yes (hyx.1 (by omega)).2 (hyx.2.1 (by omega)).2 (hyx.2.2 (by omega)).2
      rw [hd.out, ← (hyx.1 (by omega)).1, ← (hyx.2.1 (by omega)).1, ← (hyx.2.2 (by omega)).1] at hn3
      have ho1 := ho.out
      unfold mkG at ho1
      rw [hn3, Option.bind_some] at ho1
      simp only [Bool.false_eq_true, false_and, if_false] at ho1
      rw [show mostG false = 13 from rfl] at ho1
      obtain ⟨ta, hta⟩ : ∃ q, (⟨(gtA b d 13).toArray⟩ : ByteArray) = q := ⟨_, rfl⟩
      obtain ⟨tb, htb⟩ : ∃ q, gtB b d 13 = q := ⟨_, rfl⟩
      obtain ⟨tc, htc⟩ : ∃ q, gtC b d 13 = q := ⟨_, rfl⟩
      have HG := Lib.hid (And.intro hta (And.intro htb htc))
      obtain ⟨g, hg⟩ : ∃ g, decide (y2 = 1) = g := ⟨_, rfl⟩
      have hgb : (y2 == 1) = g := by rw [← hg]; by_cases h : y2 = 1 <;> simp [h]
      have HO : Hid (o.isSome = tc ∧ ∀ p, o = some p → p = (⟨y0, ta, y1, g⟩, tb)) := by
        unfold Hid
        cases tc with
        | false =>
          rw [gtO_none htc] at ho1
          subst ho1
          exact ⟨rfl, fun p hp => by cases hp⟩
        | true =>
          rw [gtO_some htc] at ho1
          subst ho1
          refine ⟨rfl, fun p hp => ?_⟩
          simp only [Option.map_some, Option.some.injEq] at hp
          rw [← hp, htb]
          simp only [mkOf, List.getD_cons_zero, List.getD_cons_succ, hta, hg]
      clear hyx hy hd hn3 ho ho1 hta htb htc hg
      go_wp2_with fail
      refine (bits_GetText_h (hb.ext ((Ext.alloc _ _).allocs _)) hn6 HG).mono ?_
      rintro e _ ⟨rfl, rfl⟩
      go_wp2_with fail
      refine bodyPost_ret (v := .tuple #[mkV ⟨y0, ta, y1, g⟩, .int .i64 tb, .bool tc]) ?hres rfl ⟨_, _, by rw [HO.out.1], HO.out.2, ?hxx⟩
      case hres => simp [results, Try.results94, go_sem]
      case hxx => (repeat (first | (with_reducible exact Ext.refl _) | (with_reducible assumption) | (with_reducible refine Ext.draws ?_) | (with_reducible refine Ext.allocs ?_ _) | (with_reducible refine Ext.sets ?_ ?_ _) | (with_reducible exact Nat.le_refl _) | (exact (by simp)) | (exact (by simp; omega))))
end Go.Proofs.Ytoeknbogaclfdaa
