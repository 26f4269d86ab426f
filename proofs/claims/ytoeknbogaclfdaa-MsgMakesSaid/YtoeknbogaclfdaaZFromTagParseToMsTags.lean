/-
  Chains out of bytes: contract of the program's parse.
-/
/-
  Chains out of bytes: contract of the program's Get.
-/
/-
  Marks out of bytes: contract of the program's mark.
-/
/-
  Records out of bytes: contract of the program's parse.
-/
/-
  Messages out of bytes: contracts of the program's tags and batch.
-/
import Derived.Test.YtoeknbogaclfdaaZFromTagPutToTagFlat
import Derived.Test.YtoeknbogaclfdaaZFromFlatToMkSame
import Derived.Test.YtoeknbogaclfdaaZFromTagSameToTagRight
import Derived.Test.YtoeknbogaclfdaaZFromFrameTakeToInts
import Derived.Test.YtoeknbogaclfdaaZCore
namespace Go.Proofs.Ytoeknbogaclfdaa
open Go.RowKit
set_option linter.unusedVariables false
set_option linter.unusedSimpArgs false
set_option linter.unnecessarySimpa false
set_option maxRecDepth 100000
def atN (b : List UInt8) (a : Int) : Nat → Int
  | 0 => a
  | j + 1 => gvB b (atN b a j)
theorem nums4_yes {b : List UInt8} {a : Int} (h0 : gvC b (atN b a 0) = true) (h1 : gvC b (atN b a 1) = true) (h2 : gvC b (atN b a 2) = true) (h3 : gvC b (atN b a 3) = true) :
    numsF 4 b a = some ([gvA b (atN b a 0), gvA b (atN b a 1), gvA b (atN b a 2), gvA b (atN b a 3)], atN b a 4) := by
  simp only [atN] at h0 h1 h2 h3
  simp only [numsF, h0, h1, h2, h3, if_true, Option.map_some, atN]
theorem nums4_no {b : List UInt8} {a : Int} {j : Nat} (hj : j < 4) (h : gvC b (atN b a j) = false) : numsF 4 b a = none := by
  have hj4 : j = 0 ∨ j = 1 ∨ j = 2 ∨ j = 3 := by omega
  rcases hj4 with rfl | rfl | rfl | rfl <;> simp only [atN] at h <;> simp [numsF, h]
theorem tgs_none {f : Nat} {b : List UInt8} {a : Int} (h : numsF 4 b a = none) : tgsF (f + 1) b a = none := by rw [tgsF, h]
theorem tgs_some {f : Nat} {b : List UInt8} {a : Int} {p : List Int × Int} (h : numsF 4 b a = some p) : tgsF (f + 1) b a = (tgsF f b p.2).map fun l => tgOf p.1 :: l := by rw [tgsF, h]
theorem tgs_next {N k : Nat} {b : List UInt8} {a : Int} {out : List Tg} {o : Option (List Tg)} {p : List Int × Int} (h : (tgsF (N - k) b a).map (fun l => out ++ l) = o) (hk : k < N) (hp : numsF 4 b a = some p) :
    (tgsF (N - (k + 1)) b p.2).map (fun l => (out ++ [tgOf p.1]) ++ l) = o := by
  obtain ⟨f, hf⟩ : ∃ f, N - k = f + 1 := ⟨N - k - 1, by omega⟩
  rw [hf, tgs_some hp] at h
  rw [show N - (k + 1) = f by omega, ← h, Option.map_map]
  congr 1
  funext l
  simp
theorem tgs_stop {N k : Nat} {b : List UInt8} {a : Int} {out : List Tg} {o : Option (List Tg)} (h : (tgsF (N - k) b a).map (fun l => out ++ l) = o) (hk : k < N) (hp : numsF 4 b a = none) : o = none := by
  obtain ⟨f, hf⟩ : ∃ f, N - k = f + 1 := ⟨N - k - 1, by omega⟩
  rw [hf, tgs_none hp] at h
  exact h.symm
set_option maxHeartbeats 2000000 in
theorem chain_parse {A : Option Addr} {n c : Nat} {b : List UInt8} {w : World} (hb : Sl w A n c b) {o : Option (List Tg)} (ho : Hid (parseL b = o)) :
    Calls Try.prog 109 #[.slice A n c] w fun e w' => ∃ A' n' c', e = .returned (.tuple #[.slice A' n' c', .bool o.isSome]) ∧ OwnL TTg 4 tgR w' w.heap.size A' n' c' (o.getD []) ∧ Ext w w' := by
  have h63 := hb.n63
  obtain ⟨i0, hi0, hz0, hz1, hz2⟩ := info_parts info_tg
  have hs0 := gv_small b 0 (by omega)
  have ho1 := ho.out
  unfold parseL at ho1
  obtain ⟨ga, hga⟩ : ∃ q, gvA b 0 = q := ⟨_, rfl⟩
  obtain ⟨gb, hgb⟩ : ∃ q, gvB b 0 = q := ⟨_, rfl⟩
  obtain ⟨gc, hgc⟩ : ∃ q, gvC b 0 = q := ⟨_, rfl⟩
  rw [hga, hgb, hgc] at ho1
  rw [hga] at hs0
  have HG := Lib.hid (And.intro hga (And.intro hgb hgc))
  have hga0 : 0 ≤ ga := hs0.1
  clear hga hgb hgc hs0 ho
  cases gc with
  | false =>
    obtain rfl : o = none := by rw [← ho1]; simp
    clear ho1
    go_enter Try.func109, Try.ntmps109
    go_wp2_with fail
    refine (bits_GetVar_h hb HG).mono ?_
    rintro e _ ⟨rfl, rfl⟩
    go_wp2_with fail
    go_ret2
    exact ⟨_, _, _, rfl, OwnL.nil _ _ _ _, Ext.refl _⟩
  | true =>
    obtain ⟨N, rfl⟩ := Int.eq_ofNat_of_zero_le hga0
    by_cases h32 : 32 < N
    · obtain rfl : o = none := by rw [← ho1, if_neg (by rintro ⟨_, h⟩; omega)]
      clear ho1
      go_enter Try.func109, Try.ntmps109
      go_wp2_with fail
      refine (bits_GetVar_h hb HG).mono ?_
      rintro e _ ⟨rfl, rfl⟩
      go_wp2_with fail
      go_ret2
      exact ⟨_, _, _, rfl, OwnL.nil _ _ _ _, Ext.refl _⟩
    rw [if_pos ⟨rfl, by omega⟩, Int.toNat_natCast] at ho1
    have HO : Hid ((tgsF (N - 0) b gb).map (fun l => ([] : List Tg) ++ l) = o) := by
      unfold Hid
      rw [Nat.sub_zero, ← ho1]
      simp
    clear ho1 hga0
    go_enter Try.func109, Try.ntmps109
    go_wp2_with fail
    refine (bits_GetVar_h hb HG).mono ?_
    rintro e _ ⟨rfl, rfl⟩
    go_wp2_with fail
    go_loopw [5, 7, 24] (fun av v i wr => ∃ (k : Nat) (a : Int) (Ao : Option Addr) (co : Nat) (out : List Tg), k ≤ N ∧ av = .int .i64 a ∧ v = .slice Ao k co ∧ i = .int .i64 k ∧ OwnL TTg 4 tgR wr w.heap.size Ao k co out ∧ Hid ((tgsF (N - k) b a).map (fun l => out ++ l) = o) ∧ Ext w wr) (fun _ _ i _ => N - (intOf i).toNat)
    case atStart => exact ⟨0, gb, none, 0, [], by omega, rfl, rfl, rfl, OwnL.nil _ _ _ _, HO, Ext.refl _⟩
    case round =>
      obtain ⟨k, a, Ao, co, out, hk, rfl, rfl, rfl, hown, hrk, hxr⟩ := hrel
      clear HO HG
      by_cases hlt : k < N
      · obtain ⟨W, hW⟩ : ∃ W, W = wr := ⟨_, rfl⟩
        rw [← hW] at hown hxr
        go_wp2_with fail
        rw [← hW]
        clear hW
        go_loopw [5, 31] (fun av jv wr => ∃ (j : Nat) (d y0 y1 y2 y3 : Int), j ≤ 4 ∧ av = .int .i64 d ∧ jv = .int .i64 j ∧ wr = W.alloc (.cells #[.int .i64 y0, .int .i64 y1, .int .i64 y2, .int .i64 y3] 104) ∧ Hid (atN b a j = d) ∧ Hid ((0 < j → y0 = gvA b (atN b a 0) ∧ gvC b (atN b a 0) = true) ∧ (1 < j → y1 = gvA b (atN b a 1) ∧ gvC b (atN b a 1) = true) ∧ (2 < j → y2 = gvA b (atN b a 2) ∧ gvC b (atN b a 2) = true) ∧ (3 < j → y3 = gvA b (atN b a 3) ∧ gvC b (atN b a 3) = true))) (fun _ j _ => 4 - (intOf j).toNat)
        case atStart => exact ⟨0, a, 0, 0, 0, 0, by omega, rfl, rfl, rfl, rfl, by simp [Hid]⟩
        case round =>
          obtain ⟨j, d, y0, y1, y2, y3, hj, rfl, rfl, rfl, hd, hy⟩ := hrel
          have hj5 : j = 0 ∨ j = 1 ∨ j = 2 ∨ j = 3 ∨ j = 4 := by omega
          rcases hj5 with rfl | rfl | rfl | rfl | rfl
          · have ix : ∀ w, (Instr.index 139 (.agg #[.pointer (some ⟨W.heap.size, 0, none⟩), .pointer (some ⟨W.heap.size, 1, none⟩), .pointer (some ⟨W.heap.size, 2, none⟩), .pointer (some ⟨W.heap.size, 3, none⟩)]) (.int .i64 0)).run Try.prog w = .ok (.pointer (some ⟨W.heap.size, 0, none⟩)) w := fun _ => by kernel_rfl
            obtain ⟨X, hX⟩ : ∃ q, gvA b d = q := ⟨_, rfl⟩
            obtain ⟨Y, hY⟩ : ∃ q, gvB b d = q := ⟨_, rfl⟩
            obtain ⟨Z, hZ⟩ : ∃ q, gvC b d = q := ⟨_, rfl⟩
            have HV := Lib.hid (And.intro hX (And.intro hY hZ))
            clear hX hY hZ
            cases Z with
            | false =>
              obtain rfl := tgs_stop hrk.out hlt (nums4_no (j := 0) (by omega) (by rw [hd.out]; exact HV.out.2.2))
              clear hrk hd hy
              go_wp2_with fail
              refine (bits_GetVar_h (hb.ext (hxr.allocs _)) HV).mono ?_
              rintro e _ ⟨rfl, rfl⟩
              go_wp2_with fail
              go_ret2
              exact ⟨_, _, _, rfl, OwnL.nil _ _ _ _, hxr.allocs _⟩
            | true =>
              have HD : Hid (atN b a 1 = Y) := by
                unfold Hid
                rw [← HV.out.2.1, ← hd.out]
                rfl
              have hyx := hy.out
              have hdx := hd.out
              have h1x := HV.out
              have HY : Hid (X = gvA b (atN b a 0) ∧ gvC b (atN b a 0) = true) := by
                unfold Hid
                rw [hdx, h1x.1]
                exact ⟨rfl, h1x.2.2⟩
              have hd := hd.out
              clear hyx hdx h1x hd
              go_wp2_with fail
              refine (bits_GetVar_h (hb.ext (hxr.allocs _)) HV).mono ?_
              rintro e _ ⟨rfl, rfl⟩
              go_wp2_with fail
              go_roundw
              case rel => exact ⟨1, Y, X, y1, y2, y3, by omega, rfl, rfl, rfl, HD, ⟨fun _ => HY.out, fun h => by omega, fun h => by omega, fun h => by omega⟩⟩
              case measure => simp [intOf]
          · have ix : ∀ w, (Instr.index 139 (.agg #[.pointer (some ⟨W.heap.size, 0, none⟩), .pointer (some ⟨W.heap.size, 1, none⟩), .pointer (some ⟨W.heap.size, 2, none⟩), .pointer (some ⟨W.heap.size, 3, none⟩)]) (.int .i64 1)).run Try.prog w = .ok (.pointer (some ⟨W.heap.size, 1, none⟩)) w := fun _ => by kernel_rfl
            obtain ⟨X, hX⟩ : ∃ q, gvA b d = q := ⟨_, rfl⟩
            obtain ⟨Y, hY⟩ : ∃ q, gvB b d = q := ⟨_, rfl⟩
            obtain ⟨Z, hZ⟩ : ∃ q, gvC b d = q := ⟨_, rfl⟩
            have HV := Lib.hid (And.intro hX (And.intro hY hZ))
            clear hX hY hZ
            cases Z with
            | false =>
              obtain rfl := tgs_stop hrk.out hlt (nums4_no (j := 1) (by omega) (by rw [hd.out]; exact HV.out.2.2))
              clear hrk hd hy
              go_wp2_with fail
              refine (bits_GetVar_h (hb.ext (hxr.allocs _)) HV).mono ?_
              rintro e _ ⟨rfl, rfl⟩
              go_wp2_with fail
              go_ret2
              exact ⟨_, _, _, rfl, OwnL.nil _ _ _ _, hxr.allocs _⟩
            | true =>
              have HD : Hid (atN b a 2 = Y) := by
                unfold Hid
                rw [← HV.out.2.1, ← hd.out]
                rfl
              have hyx := hy.out
              have hdx := hd.out
              have h1x := HV.out
              have HY : Hid (X = gvA b (atN b a 1) ∧ gvC b (atN b a 1) = true) := by
                unfold Hid
                rw [hdx, h1x.1]
                exact ⟨rfl, h1x.2.2⟩
              have hd := hd.out
              clear hyx hdx h1x hd
              go_wp2_with fail
              refine (bits_GetVar_h (hb.ext (hxr.allocs _)) HV).mono ?_
              rintro e _ ⟨rfl, rfl⟩
              go_wp2_with fail
              go_roundw
              case rel => exact ⟨2, Y, y0, X, y2, y3, by omega, rfl, rfl, rfl, HD, ⟨fun _ => hy.out.1 (by omega), fun _ => HY.out, fun h => by omega, fun h => by omega⟩⟩
              case measure => simp [intOf]
          · have ix : ∀ w, (Instr.index 139 (.agg #[.pointer (some ⟨W.heap.size, 0, none⟩), .pointer (some ⟨W.heap.size, 1, none⟩), .pointer (some ⟨W.heap.size, 2, none⟩), .pointer (some ⟨W.heap.size, 3, none⟩)]) (.int .i64 2)).run Try.prog w = .ok (.pointer (some ⟨W.heap.size, 2, none⟩)) w := fun _ => by kernel_rfl
            obtain ⟨X, hX⟩ : ∃ q, gvA b d = q := ⟨_, rfl⟩
            obtain ⟨Y, hY⟩ : ∃ q, gvB b d = q := ⟨_, rfl⟩
            obtain ⟨Z, hZ⟩ : ∃ q, gvC b d = q := ⟨_, rfl⟩
            have HV := Lib.hid (And.intro hX (And.intro hY hZ))
            clear hX hY hZ
            cases Z with
            | false =>
              obtain rfl := tgs_stop hrk.out hlt (nums4_no (j := 2) (by omega) (by rw [hd.out]; exact HV.out.2.2))
              clear hrk hd hy
              go_wp2_with fail
              refine (bits_GetVar_h (hb.ext (hxr.allocs _)) HV).mono ?_
              rintro e _ ⟨rfl, rfl⟩
              go_wp2_with fail
              go_ret2
              exact ⟨_, _, _, rfl, OwnL.nil _ _ _ _, hxr.allocs _⟩
            | true =>
              have HD : Hid (atN b a 3 = Y) := by
                unfold Hid
                rw [← HV.out.2.1, ← hd.out]
                rfl
              have hyx := hy.out
              have hdx := hd.out
              have h1x := HV.out
              have HY : Hid (X = gvA b (atN b a 2) ∧ gvC b (atN b a 2) = true) := by
                unfold Hid
                rw [hdx, h1x.1]
                exact ⟨rfl, h1x.2.2⟩
              have hd := hd.out
              clear hyx hdx h1x hd
              go_wp2_with fail
              refine (bits_GetVar_h (hb.ext (hxr.allocs _)) HV).mono ?_
              rintro e _ ⟨rfl, rfl⟩
              go_wp2_with fail
              go_roundw
              case rel => exact ⟨3, Y, y0, y1, X, y3, by omega, rfl, rfl, rfl, HD, ⟨fun _ => hy.out.1 (by omega), fun _ => hy.out.2.1 (by omega), fun _ => HY.out, fun h => by omega⟩⟩
              case measure => simp [intOf]
          · have ix : ∀ w, (Instr.index 139 (.agg #[.pointer (some ⟨W.heap.size, 0, none⟩), .pointer (some ⟨W.heap.size, 1, none⟩), .pointer (some ⟨W.heap.size, 2, none⟩), .pointer (some ⟨W.heap.size, 3, none⟩)]) (.int .i64 3)).run Try.prog w = .ok (.pointer (some ⟨W.heap.size, 3, none⟩)) w := fun _ => by kernel_rfl
            obtain ⟨X, hX⟩ : ∃ q, gvA b d = q := ⟨_, rfl⟩
            obtain ⟨Y, hY⟩ : ∃ q, gvB b d = q := ⟨_, rfl⟩
            obtain ⟨Z, hZ⟩ : ∃ q, gvC b d = q := ⟨_, rfl⟩
            have HV := Lib.hid (And.intro hX (And.intro hY hZ))
            clear hX hY hZ
            cases Z with
            | false =>
              obtain rfl := tgs_stop hrk.out hlt (nums4_no (j := 3) (by omega) (by rw [hd.out]; exact HV.out.2.2))
              clear hrk hd hy
              go_wp2_with fail
              refine (bits_GetVar_h (hb.ext (hxr.allocs _)) HV).mono ?_
              rintro e _ ⟨rfl, rfl⟩
              go_wp2_with fail
              go_ret2
              exact ⟨_, _, _, rfl, OwnL.nil _ _ _ _, hxr.allocs _⟩
            | true =>
              have HD : Hid (atN b a 4 = Y) := by
                unfold Hid
                rw [← HV.out.2.1, ← hd.out]
                rfl
              have hyx := hy.out
              have hdx := hd.out
              have h1x := HV.out
              have HY : Hid (X = gvA b (atN b a 3) ∧ gvC b (atN b a 3) = true) := by
                unfold Hid
                rw [hdx, h1x.1]
                exact ⟨rfl, h1x.2.2⟩
              have hd := hd.out
              clear hyx hdx h1x hd
              go_wp2_with fail
              refine (bits_GetVar_h (hb.ext (hxr.allocs _)) HV).mono ?_
              rintro e _ ⟨rfl, rfl⟩
              go_wp2_with fail
              go_roundw
              case rel => exact ⟨4, Y, y0, y1, y2, X, by omega, rfl, rfl, rfl, HD, ⟨fun _ => hy.out.1 (by omega), fun _ => hy.out.2.1 (by omega), fun _ => hy.out.2.2.1 (by omega), fun _ => HY.out⟩⟩
              case measure => simp [intOf]
          · have hyx := hy.out
            have hn4 := nums4_yes (hyx.1 (by omega)).2 (hyx.2.1 (by omega)).2 (hyx.2.2.1 (by omega)).2 (hyx.2.2.2 (by omega)).2
            rw [hd.out, ← (hyx.1 (by omega)).1, ← (hyx.2.1 (by omega)).1, ← (hyx.2.2.1 (by omega)).1, ← (hyx.2.2.2 (by omega)).1] at hn4
            have HN := Lib.hid (tgs_next hrk.out hlt hn4)
            clear hn4 hyx hy hd hrk
            have lit := (tag_lit (W.alloc (.cells #[.int .i64 y0, .int .i64 y1, .int .i64 y2, .int .i64 y3] 104)) ⟨y0, y1, y2, y3⟩).lst
            rw [show (W.alloc (.cells #[.int .i64 y0, .int .i64 y1, .int .i64 y2, .int .i64 y3] 104)).heap.size = W.heap.size + 1 by simp] at lit
            go_wp2_with (
              at_builtin
              refine wpList_append_flat (w0 := w) tg_rep (fun x cs w h => tag_nop h) rfl (.tmp 46) (.tmp 48) _ _ rfl TTg TTg i0 _ 32 under_tgs under_tgs hi0 hz0 hz1 hz2 rfl Ao k co out rfl ((hown.ext tg_rep (Ext.alloc _ _)).ext tg_rep (Ext.alloc _ _)) _ 1 1 [⟨y0, y1, y2, y3⟩] rfl lit (k + 1) rfl _ rfl (by simp only [maxLen]; omega) (by omega) ((hxr.allocs _).allocs _) ?_
              intro A3 c3 w3 hb3 hx3)
            go_wp2_with fail
            go_roundw
            case rel => exact ⟨k + 1, d, A3, c3, _, by omega, rfl, rfl, by go_num, hb3, HN, hx3⟩
            case measure => simp [intOf]; omega
      · obtain rfl : k = N := by omega
        have hr1 := hrk.out
        rw [Nat.sub_self] at hr1
        obtain rfl : o = some out := by rw [← hr1]; simp [tgsF]
        clear hrk hr1
        go_wp2_with fail
        go_ret2
        exact ⟨_, _, _, rfl, hown, hxr⟩
end Go.Proofs.Ytoeknbogaclfdaa

namespace Go.Proofs.Ytoeknbogaclfdaa
open Go.RowKit
set_option linter.unusedVariables false
set_option linter.unusedSimpArgs false
set_option linter.unnecessarySimpa false
set_option maxRecDepth 100000
theorem get_none {b : List UInt8} (h : parseL b = none) : getL b = none := by unfold getL; rw [h]
theorem get_wrong {b : List UInt8} {l : List Tg} (h : parseL b = some l) (hr : rightL l = false) : getL b = none := by
  unfold getL
  rw [h]
  simp [hr]
theorem get_other {b : List UInt8} {l : List Tg} (h : parseL b = some l) (hr : (putL l == b) = false) : getL b = none := by
  unfold getL
  rw [h]
  simp only
  rw [if_neg]
  rintro ⟨_, e⟩
  rw [e] at hr
  simp at hr
theorem get_yes {b : List UInt8} {l : List Tg} (h : parseL b = some l) (hr : rightL l = true) (he : (putL l == b) = true) : getL b = some l := by
  unfold getL
  rw [h]
  have he := eq_of_beq he
  simp [hr, he]
set_option maxHeartbeats 1000000 in
theorem chain_Get {A : Option Addr} {n c : Nat} {b : List UInt8} {w : World} (hb : Sl w A n c b) {o : Option (List Tg)} (ho : Hid (getL b = o)) :
    Calls Try.prog 106 #[.slice A n c] w fun e w' => ∃ A' n' c', e = .returned (.tuple #[.slice A' n' c', .int .i64 (if o.isSome then 0 else 2)]) ∧ OwnL TTg 4 tgR w' w.heap.size A' n' c' (o.getD []) ∧ Ext w w' := by
  obtain ⟨q, hq⟩ : ∃ q, parseL b = q := ⟨_, rfl⟩
  have HQ := Lib.hid hq
  have ho1 := ho.out
  clear ho
  cases q with
  | none =>
    rw [get_none hq] at ho1
    subst ho1
    clear hq
    go_enter Try.func106, Try.ntmps106
    go_wp2_with fail
    refine (chain_parse hb HQ).mono ?_
    rintro e w1 ⟨A1, n1, c1, rfl, h1, hx1⟩
    go_wp2_with fail
    go_ret2
    exact ⟨_, _, _, rfl, OwnL.nil _ _ _ _, hx1⟩
  | some l =>
    obtain ⟨r, hr⟩ : ∃ r, rightL l = r := ⟨_, rfl⟩
    have HR := Lib.hid hr
    obtain ⟨L, hL⟩ : ∃ L, putR l r = L := ⟨_, rfl⟩
    have HL := Lib.hid hL
    cases r with
    | false =>
      rw [get_wrong hq hr] at ho1
      subst ho1
      clear hq hr hL
      go_enter Try.func106, Try.ntmps106
      go_wp2_with fail
      refine (chain_parse hb HQ).mono ?_
      rintro e w1 ⟨A1, n1, c1, rfl, h1, hx1⟩
      go_wp2_with fail
      refine (chain_Put h1.lst HR HL).mono ?_
      rintro e w2 ⟨A2, n2, c2, rfl, h2, hx2⟩
      rw [show (if false = true then (0 : Int) else 1) = 1 from rfl]
      go_wp2_with fail
      go_ret2
      exact ⟨_, _, _, rfl, OwnL.nil _ _ _ _, hx1.trans hx2⟩
    | true =>
      obtain rfl : putL l = L := hL
      obtain ⟨z, hz⟩ : ∃ z, (putL l == b) = z := ⟨_, rfl⟩
      have HZ := Lib.hid hz
      cases z with
      | false =>
        rw [get_other hq hz] at ho1
        subst ho1
        clear hq hr hz
        go_enter Try.func106, Try.ntmps106
        go_wp2_with fail
        refine (chain_parse hb HQ).mono ?_
        rintro e w1 ⟨A1, n1, c1, rfl, h1, hx1⟩
        go_wp2_with fail
        refine (chain_Put h1.lst HR HL).mono ?_
        rintro e w2 ⟨A2, n2, c2, rfl, h2, hx2⟩
        rw [show (if true = true then (0 : Int) else 1) = 0 from rfl]
        go_wp2_with fail
        refine (bytes_Equal A2 n2 c2 _ A n c b _ h2.sl (hb.ext (hx1.trans hx2))).mono ?_
        rintro e w3 ⟨rfl, rfl⟩
        rw [HZ.out]
        go_wp2_with fail
        go_ret2
        exact ⟨_, _, _, rfl, OwnL.nil _ _ _ _, hx1.trans hx2⟩
      | true =>
        rw [get_yes hq hr hz] at ho1
        subst ho1
        clear hq hr hz
        go_enter Try.func106, Try.ntmps106
        go_wp2_with fail
        refine (chain_parse hb HQ).mono ?_
        rintro e w1 ⟨A1, n1, c1, rfl, h1, hx1⟩
        go_wp2_with fail
        refine (chain_Put h1.lst HR HL).mono ?_
        rintro e w2 ⟨A2, n2, c2, rfl, h2, hx2⟩
        rw [show (if true = true then (0 : Int) else 1) = 0 from rfl]
        go_wp2_with fail
        refine (bytes_Equal A2 n2 c2 _ A n c b _ h2.sl (hb.ext (hx1.trans hx2))).mono ?_
        rintro e w3 ⟨rfl, rfl⟩
        rw [HZ.out]
        go_wp2_with fail
        go_ret2
        exact ⟨_, _, _, rfl, h1.ext tg_rep hx2, hx1.trans hx2⟩
end Go.Proofs.Ytoeknbogaclfdaa

namespace Go.Proofs.Ytoeknbogaclfdaa
open Go.RowKit
set_option linter.unusedVariables false
set_option linter.unusedSimpArgs false
set_option linter.unnecessarySimpa false
set_option maxRecDepth 100000
theorem bits_GetText_h {A : Option Addr} {n c : Nat} {l : List UInt8} {a most : Int} {w : World} (hs : Sl w A n c l) (hn6 : n ≤ 1000000) {ta : ByteArray} {tb : Int} {tc : Bool} (h : Hid ((⟨(gtA l a most).toArray⟩ : ByteArray) = ta ∧ gtB l a most = tb ∧ gtC l a most = tc)) :
    Calls Try.prog 108 #[.slice A n c, .int .i64 a, .int .i64 most] w fun e w' => e = .returned (.tuple #[.string ta, .int .i64 tb, .bool tc]) ∧ w = w' := by
  have := bits_GetText A n c l a most w hs hn6
  rwa [h.out.1, h.out.2.1, h.out.2.2] at this
theorem nums3_yes {b : List UInt8} {a : Int} (h0 : gvC b (atN b a 0) = true) (h1 : gvC b (atN b a 1) = true) (h2 : gvC b (atN b a 2) = true) :
    numsF 3 b a = some ([gvA b (atN b a 0), gvA b (atN b a 1), gvA b (atN b a 2)], atN b a 3) := by
  simp only [atN] at h0 h1 h2
  simp only [numsF, h0, h1, h2, if_true, Option.map_some, atN]
theorem nums3_no {b : List UInt8} {a : Int} {j : Nat} (hj : j < 3) (h : gvC b (atN b a j) = false) : numsF 3 b a = none := by
  have hj4 : j = 0 ∨ j = 1 ∨ j = 2 := by omega
  rcases hj4 with rfl | rfl | rfl <;> simp only [atN] at h <;> simp [numsF, h]
theorem mkG_none {b : List UInt8} {a : Int} {rf : Bool} (h : numsF 3 b a = none) : mkG rf b a = none := by unfold mkG; rw [h]; rfl
theorem gtO_some {b : List UInt8} {a most : Int} (h : gtC b a most = true) : gtO b a most = some (gtA b a most, gtB b a most) := by
  unfold gtC at h
  obtain ⟨p, hp⟩ := Option.isSome_iff_exists.1 h
  unfold gtA gtB
  rw [hp]
theorem gtO_none {b : List UInt8} {a most : Int} (h : gtC b a most = false) : gtO b a most = none := by
  unfold gtC at h
  cases hp : gtO b a most with
  | none => rfl
  | some p => rw [hp] at h; cases h
end Go.Proofs.Ytoeknbogaclfdaa

namespace Go.Proofs.Ytoeknbogaclfdaa
open Go.RowKit
set_option linter.unusedVariables false
set_option linter.unusedSimpArgs false
set_option linter.unnecessarySimpa false
set_option maxRecDepth 100000
theorem blk_cell {w : World} {g : Nat} {C : Array Value} {e : TypeId} (h : w.heap[g]? = some (.cells C e (0, 0))) (j : Nat) {u : Value} (hu : C[j]? = some u := by rfl) : w.cell? ⟨g, j, none⟩ = some u := (cell_of_row w g j C e (0, 0) h).trans hu
theorem blk_frozen {w : World} {g : Nat} {C : Array Value} {e : TypeId} (h : w.heap[g]? = some (.cells C e (0, 0))) (j : Nat) : w.frozen? ⟨g, j, none⟩ = false := by simp [World.frozen?, h]
theorem blk_set {w : World} {g : Nat} {C : Array Value} {e : TypeId} (h : w.heap[g]? = some (.cells C e (0, 0))) (j : Nat) (u : Value) : (w.setCell ⟨g, j, none⟩ u).heap[g]? = some (.cells (C.setIfInBounds j u) e (0, 0)) := by simp [World.setCell, Array.getElem?_modify, h]
theorem blk_far {w : World} {g : Nat} {o : Obj} (h : w.heap[g]? = some o) {p : Addr} (hp : p.block ≠ g) (u : Value) : (w.setCell p u).heap[g]? = some o := (Below.heap_setCell _ _ _ _ (fun e => hp e.symm)).trans h
theorem blk_ext {w w' : World} {g : Nat} {o : Obj} (h : w.heap[g]? = some o) (hx : Ext w w') : w'.heap[g]? = some o := (Below.block hx g (Array.getElem?_eq_some_iff.1 h).1).trans h
theorem mks_stop {rf : Bool} {N k : Nat} {b : List UInt8} {a : Int} {out : List Mk} {o : Option (List Mk × Int)} (h : (mksG rf (N - k) b a).map (fun q => (out ++ q.1, q.2)) = o) (hk : k < N) (hp : mkG rf b a = none) : o = none := by
  obtain ⟨f, hf⟩ : ∃ f, N - k = f + 1 := ⟨N - k - 1, by omega⟩
  rw [hf, mksG, hp] at h
  exact h.symm
theorem mks_next {rf : Bool} {N k : Nat} {b : List UInt8} {a d : Int} {x : Mk} {out : List Mk} {o : Option (List Mk × Int)} (h : (mksG rf (N - k) b a).map (fun q => (out ++ q.1, q.2)) = o) (hk : k < N) (hp : mkG rf b a = some (x, d)) :
    (mksG rf (N - (k + 1)) b d).map (fun q => ((out ++ [x]) ++ q.1, q.2)) = o := by
  obtain ⟨f, hf⟩ : ∃ f, N - k = f + 1 := ⟨N - k - 1, by omega⟩
  rw [hf, mksG, hp, Option.bind_some] at h
  rw [show N - (k + 1) = f by omega, ← h, Option.map_map]
  congr 1
  funext l
  simp
theorem gvA_pos (b : List UInt8) (a : Int) : 0 ≤ gvA b a := by unfold gvA; split <;> omega
def hd0 : Hd := ⟨0, 0, 0, 0, 0, 0, []⟩
end Go.Proofs.Ytoeknbogaclfdaa

namespace Go.Proofs.Ytoeknbogaclfdaa
open Go.RowKit
set_option linter.unusedVariables false
set_option linter.unusedSimpArgs false
set_option linter.unnecessarySimpa false
set_option maxRecDepth 100000
theorem gtO_at {b : List UInt8} {a : Int} {q k t : Nat} {most : Int} (ho : gvN b a = some (q, k)) (ht : a.toNat + k = t) (h0 : 0 ≤ a) : gtO b a most = if (q : Int) ≤ most ∧ t + q ≤ b.length then some ((b.drop t).take q, (t : Int) + q) else none := by
  unfold gtO
  rw [ho]
  simp only [Option.bind_some, ht]
  split
  · simp only [Option.some.injEq, Prod.mk.injEq, true_and]
    omega
  · rfl
theorem gv_val {b : List UInt8} {a : Int} {q k : Nat} (ho : gvN b a = some (q, k)) : gvA b a = (q : Int) ∧ gvB b a = a + (k : Int) ∧ gvC b a = true := gv_vals ho
theorem gv_none {b : List UInt8} {a : Int} (ho : gvN b a = none) : gvA b a = 0 ∧ gvB b a = 0 ∧ gvC b a = false := by
  unfold gvA gvB gvC
  rw [ho]
  exact ⟨rfl, rfl, rfl⟩
set_option maxHeartbeats 2000000 in
theorem msg_tags {A : Option Addr} {n c : Nat} {b : List UInt8} {a : Int} {w : World} (hb : Sl w A n c b) (hn6 : n ≤ 1000000) {o : Option (List Tg × Int)} (ho : Hid (tagsO b a = o)) :
    Calls Try.prog 85 #[.slice A n c, .int .i64 a] w fun e w' => ∃ A' n' c' d, e = .returned (.tuple #[.slice A' n' c', .int .i64 d, .bool o.isSome]) ∧ (∀ p, o = some p → d = p.2) ∧ OwnL TTg 4 tgR w' w.heap.size A' n' c' ((o.map Prod.fst).getD []) ∧ Ext w w' := by
  have h63 := hb.n63
  have hlen : b.length = n := hb.len
  have hcap := hb.cap
  have ho1 := ho.out
  unfold tagsO at ho1
  cases hv : gvN b a with
  | none =>
    have HG := Lib.hid (gv_none hv)
    have hg : gtO b a b.length = none := by unfold gtO; rw [hv]; rfl
    rw [hg] at ho1
    obtain rfl : none = o := ho1
    clear hv hg ho hlen
    go_enter Try.func85, Try.ntmps85
    go_wp2_with fail
    refine (bits_GetVar_h hb HG).mono ?_
    rintro e _ ⟨rfl, rfl⟩
    go_wp2_with fail
    go_ret3
    exact ⟨_, _, _, _, rfl, (fun p hp => by cases hp), OwnL.nil _ _ _ _, Ext.refl _⟩
  | some p =>
    obtain ⟨q, k⟩ := p
    obtain ⟨h0a, hq63, hk1, hk9, hakl⟩ := gvN_bd hv
    simp only at h0a hq63 hk1 hk9 hakl
    obtain ⟨t, ht⟩ : ∃ t, a.toNat + k = t := ⟨_, rfl⟩
    have hgt := gtO_at (most := (b.length : Int)) hv ht h0a
    have hva := gv_val hv
    have HG : Hid (gvA b a = (q : Int) ∧ gvB b a = (t : Int) ∧ gvC b a = true) := ⟨hva.1, by rw [hva.2.1]; omega, hva.2.2⟩
    rw [ht, hlen] at hakl
    by_cases hok : t + q ≤ n
    · rw [if_pos ⟨by omega, by omega⟩] at hgt
      rw [hgt, Option.bind_some] at ho1
      simp only at ho1
      obtain ⟨og, hog⟩ : ∃ z, getL ((b.drop t).take q) = z := ⟨_, rfl⟩
      have HOG := Lib.hid hog
      rw [hog] at ho1
      have hle : (q : Int) ≤ (n : Int) - (t : Int) := by omega
      have hle2 : decide ((n : Int) - (t : Int) < (q : Int)) = false := by simp; omega
      obtain ⟨B, hB⟩ : ∃ B, (if c = t then A else A.map (·.add (t * 1))) = B := ⟨_, rfl⟩
      have hcut := hb.cut (lo := t) (hi := t + q) (by omega) hok
      rw [hB, Nat.add_sub_cancel_left] at hcut
      have hsl : ∀ w : World, (Instr.slice 23 (.slice A n c) (some (.int .i64 t)) (some (.int .i64 ((t : Int) + (q : Int)))) none).run Try.prog w = .ok (.slice B q (c - t)) w := by
        intro w
        have h1 := run_cut w A n c t (t + q) (by omega) (by omega)
        rw [hB, Nat.add_sub_cancel_left, Int.natCast_add] at h1
        exact h1
      have hcg := chain_Get hcut HOG
      clear hB hv hgt hva ho hlen ht hog hcut
      cases og with
      | none =>
        obtain rfl : none = o := ho1
        simp only [Option.isSome_none, Option.getD_none, Bool.false_eq_true, if_false] at hcg
        go_enter Try.func85, Try.ntmps85
        go_wp2_with fail
        refine (bits_GetVar_h hb HG).mono ?_
        rintro e _ ⟨rfl, rfl⟩
        go_wp2_with fail
        refine hcg.mono ?_
        rintro e w2 ⟨A2, n2, c2, rfl, h2, hx2⟩
        go_wp2_with fail
        go_ret3
        exact ⟨_, _, _, _, rfl, (fun p hp => by cases hp), h2, hx2⟩
      | some l =>
        obtain rfl : some (l, (t : Int) + q) = o := ho1
        simp only [Option.isSome_some, Option.getD_some, if_true] at hcg
        go_enter Try.func85, Try.ntmps85
        go_wp2_with fail
        refine (bits_GetVar_h hb HG).mono ?_
        rintro e _ ⟨rfl, rfl⟩
        go_wp2_with fail
        refine hcg.mono ?_
        rintro e w2 ⟨A2, n2, c2, rfl, h2, hx2⟩
        go_wp2_with fail
        go_ret3
        exact ⟨_, _, _, _, rfl, (fun p hp => by injection hp with hp; rw [← hp]), h2, hx2⟩
    · rw [if_neg (by omega)] at hgt
      rw [hgt] at ho1
      obtain rfl : none = o := ho1
      have hle2 : decide ((n : Int) - (t : Int) < (q : Int)) = true := by simp; omega
      clear hv hgt hva ho hlen ht
      go_enter Try.func85, Try.ntmps85
      go_wp2_with fail
      refine (bits_GetVar_h hb HG).mono ?_
      rintro e _ ⟨rfl, rfl⟩
      go_wp2_with fail
      go_ret3
      exact ⟨_, _, _, _, rfl, (fun p hp => by cases hp), OwnL.nil _ _ _ _, Ext.refl _⟩
theorem ents_stop {N k : Nat} {b : List UInt8} {a : Int} {out : List En} {o : Option (List En)} (h : (entsG (N - k) b a).map (out ++ ·) = o) (hk : k < N) (hp : (tkA b a).2.2.2.2 ≠ 0) : none = o := by
  obtain ⟨f, hf⟩ : ∃ f, N - k = f + 1 := ⟨N - k - 1, by omega⟩
  rw [hf, entsG, if_neg hp] at h
  exact h
theorem ents_next {N k : Nat} {b : List UInt8} {a : Int} {out : List En} {o : Option (List En)} {T S : Nat} {D : List UInt8} {nx : Int} (h : (entsG (N - k) b a).map (out ++ ·) = o) (hk : k < N) (hp : tkA b a = (T, S, D, nx, 0)) :
    (entsG (N - (k + 1)) b nx).map ((out ++ [⟨(T : Int), (S : Int), D⟩]) ++ ·) = o := by
  obtain ⟨f, hf⟩ : ∃ f, N - k = f + 1 := ⟨N - k - 1, by omega⟩
  rw [hf, entsG, hp, if_pos rfl] at h
  simp only at h
  rw [show N - (k + 1) = f by omega, ← h, Option.map_map]
  congr 1
  funext l
  simp
set_option maxHeartbeats 4000000 in
theorem msg_batch {A : Option Addr} {n c : Nat} {b : List UInt8} {a : Int} {w : World} (hb : Sl w A n c b) (hn6 : n ≤ 1000000) {o : Option (List En)} (ho : Hid (entsO b a = o)) :
    Calls Try.prog 86 #[.slice A n c, .int .i64 a] w fun e w' => ∃ A' n' c', e = .returned (.tuple #[.slice A' n' c', .bool o.isSome]) ∧ OwnL TEn 3 (enRB w.heap.size) w' w.heap.size A' n' c' (o.getD []) ∧ Ext w w' := by
  have h63 := hb.n63
  obtain ⟨i0, hi0, hz0, hz1, hz2⟩ := info_parts info_en
  have ho1 := ho.out
  unfold entsO at ho1
  obtain ⟨X, hX⟩ : ∃ q, gvA b a = q := ⟨_, rfl⟩
  obtain ⟨Y, hY⟩ : ∃ q, gvB b a = q := ⟨_, rfl⟩
  obtain ⟨Z, hZ⟩ : ∃ q, gvC b a = q := ⟨_, rfl⟩
  have HV := Lib.hid (And.intro hX (And.intro hY hZ))
  have hX0 : 0 ≤ X := by rw [← hX]; exact gvA_pos b a
  rw [hX, hY, hZ] at ho1
  clear hX hY hZ ho
  cases Z with
  | false =>
    obtain rfl : none = o := by rw [← ho1]; rfl
    clear ho1
    go_enter Try.func86, Try.ntmps86
    go_wp2_with fail
    refine (bits_GetVar_h hb HV).mono ?_
    rintro e _ ⟨rfl, rfl⟩
    go_wp2_with fail
    go_ret2
    exact ⟨_, _, _, rfl, OwnL.nil _ _ _ _, Ext.refl _⟩
  | true =>
  obtain ⟨N, rfl⟩ := Int.eq_ofNat_of_zero_le hX0
  by_cases hN : 4 < N
  · have d4 : decide ((4 : Int) < (N : Int)) = true := by simp; omega
    rw [if_neg (by rintro ⟨_, e⟩; omega)] at ho1
    obtain rfl : none = o := ho1
    go_enter Try.func86, Try.ntmps86
    go_wp2_with fail
    refine (bits_GetVar_h hb HV).mono ?_
    rintro e _ ⟨rfl, rfl⟩
    go_wp2_with fail
    go_ret2
    exact ⟨_, _, _, rfl, OwnL.nil _ _ _ _, Ext.refl _⟩
  have d4 : decide ((4 : Int) < (N : Int)) = false := by simp; omega
  rw [if_pos ⟨rfl, by omega⟩, Int.toNat_natCast] at ho1
  have HO : Hid ((entsG (N - 0) b Y).map (([] : List En) ++ ·) = o) := by
    unfold Hid
    rw [← ho1]
    simp
  clear ho1 hX0
  go_enter Try.func86, Try.ntmps86
  go_wp2_with fail
  refine (bits_GetVar_h hb HV).mono ?_
  rintro e _ ⟨rfl, rfl⟩
  go_wp2_with fail
  go_loopw [1, 8, 26] (fun av v i wr => ∃ (k : Nat) (d : Int) (Ao : Option Addr) (co : Nat) (out : List En), k ≤ N ∧ av = .int .i64 d ∧ v = .slice Ao k co ∧ i = .int .i64 k ∧ OwnL TEn 3 (enRB w.heap.size) wr w.heap.size Ao k co out ∧ Hid ((entsG (N - k) b d).map (out ++ ·) = o) ∧ Ext w wr) (fun _ _ i _ => N - (intOf i).toNat)
  case atStart => exact ⟨0, Y, none, 0, [], by omega, rfl, rfl, rfl, OwnL.nil _ _ _ _, HO, Ext.refl _⟩
  case round =>
    clear HO
    obtain ⟨k, d, Ao, co, out, hk, rfl, rfl, rfl, hown, hrk, hxr⟩ := hrel
    by_cases hlt : k < N
    · obtain ⟨T, S, D, nx, er, hT⟩ : ∃ T S D nx er, tkA b d = (T, S, D, nx, er) := ⟨_, _, _, _, _, rfl⟩
      have HT := Lib.hid hT
      by_cases he : er = 0
      · subst he
        have HN := Lib.hid (ents_next hrk.out hlt hT)
        clear hrk hT
        go_wp2_with fail
        refine (frame_Take (hb.ext hxr) hn6 HT).mono ?_
        rintro e w2 ⟨A2, n2, c2, rfl, h2, hx2⟩
        have gx2 := hxr.trans hx2
        have hown2 := hown.ext (enRB_rep _) hx2
        have hsr := hxr.size
        have hrow := hown.row_lt
        have h2d := h2.fr
        have hfd : ∀ q, Pts [.int .i64 (T : Int), .int .i64 (S : Int), .slice A2 n2 c2] q → wr.heap.size ≤ q := by
          intro q hq
          obtain ⟨ad, e1, e2, e3⟩ := pts_en hq
          have := h2d ad e1 e2
          omega
        have hrx : enRB w.heap.size ⟨(T : Int), (S : Int), D⟩ [.int .i64 (T : Int), .int .i64 (S : Int), .slice A2 n2 c2] (w2.alloc (.cells #[.int .i64 (T : Int), .int .i64 (S : Int), .slice A2 n2 c2] TEn)) := ⟨⟨A2, n2, c2, rfl, h2.sl.ext (Ext.alloc _ _)⟩, fun q hq => by have := hfd q hq; omega⟩
        have hnr : ∀ q, Pts [.int .i64 (T : Int), .int .i64 (S : Int), .slice A2 n2 c2] q → rowOf Ao co ≠ some q := by
          intro q hq e
          have e1 := hfd q hq
          have e2 := (hrow q e).2
          omega
        have hsz : w2.heap.size + 1 = (w2.alloc (.cells #[.int .i64 (T : Int), .int .i64 (S : Int), .slice A2 n2 c2] TEn)).heap.size := by simp
        have feed := Feed.lit (P := Try.prog) (tx := 26) (e := TEn) (A := Ao) (c := co) (enRB_rep w.heap.size) #[.int .i64 (T : Int), .int .i64 (S : Int), .slice A2 n2 c2] ⟨(T : Int), (S : Int), D⟩ hrx under_ens hnr hsz
        clear hrow h2d hfd hrx hnr hsz h2 hx2 hown
        go_wp2_with (
          at_builtin
          refine wpList_append_lst (w0 := w) (enRB_rep w.heap.size) rfl _ _ _ _ rfl TEn i0 _ 40 under_ens hi0 hz0 hz1 hz2 rfl Ao k co out rfl ((hown2.ext (enRB_rep _) (Ext.alloc _ _)).ext (enRB_rep _) (Ext.alloc _ _)) _ 1 _ rfl feed (k + 1) rfl _ rfl (by simp only [maxLen]; omega) (by omega) ((gx2.allocs _).allocs _) ?_
          intro A6 c6 w6 hb6 hx6)
        go_wp2_with fail
        go_roundw
        case rel => exact ⟨k + 1, nx, A6, c6, _, by omega, rfl, rfl, by go_num, hb6, HN, hx6⟩
        case measure => simp [intOf]; omega
      · obtain rfl := ents_stop hrk.out hlt (by rw [hT]; exact he)
        have hne : ((er : Int) != 0) = true := by simp; omega
        clear hrk hT
        go_wp2_with fail
        refine (frame_Take (hb.ext hxr) hn6 HT).mono ?_
        rintro e w2 ⟨A2, n2, c2, rfl, h2, hx2⟩
        go_wp2_with fail
        go_ret2
        exact ⟨_, _, _, rfl, OwnL.nil _ _ _ _, (hxr.trans hx2).allocs _⟩
    · obtain rfl : k = N := by omega
      have hr1 := hrk.out
      rw [Nat.sub_self] at hr1
      obtain rfl : some out = o := by rw [← hr1]; simp [entsG]
      clear hrk hr1
      go_wp2_with fail
      go_ret2
      exact ⟨_, _, _, rfl, hown, hxr⟩
end Go.Proofs.Ytoeknbogaclfdaa
