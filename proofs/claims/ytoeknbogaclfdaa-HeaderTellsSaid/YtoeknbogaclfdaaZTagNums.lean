/-
  Chains out of bytes: contract of the reference's numbers.
-/
import Derived.Test.YtoeknbogaclfdaaZTagParse
namespace Go.Proofs.Ytoeknbogaclfdaa
open Go.RowKit
set_option linter.unusedVariables false
set_option linter.unusedSimpArgs false
set_option linter.unnecessarySimpa false
set_option maxRecDepth 100000

theorem int_lit (w : World) (x : Int) : OwnL INT 1 intR (w.alloc (.cells #[.int .i64 x] INT)) w.heap.size (some ⟨w.heap.size, 0, none⟩) 1 1 [x] :=
  ⟨rfl, [[.int .i64 x]], .cons rfl .nil, Own.made w w.heap.size INT 1 #[.int .i64 x] 1 1 (Nat.le_refl _) (Nat.le_refl _) (by simp [maxLen]) rfl, fun cs hcs k hk => by simp at hcs; subst hcs; exact absurd hk (int_no_pts (x := x) (w := w) rfl k)⟩
theorem nums_next {F k : Nat} {b : List UInt8} {a : Int} {out : List Int} {o : Option (List Int × Int)} (h : (numsF (F - k) b a).map (fun p => (out ++ p.1, p.2)) = o) (hk : k < F) (hc : gvC b a = true) :
    (numsF (F - (k + 1)) b (gvB b a)).map (fun p => ((out ++ [gvA b a]) ++ p.1, p.2)) = o := by
  obtain ⟨f, hf⟩ : ∃ f, F - k = f + 1 := ⟨F - k - 1, by omega⟩
  rw [hf, numsF, if_pos hc] at h
  rw [show F - (k + 1) = f by omega, ← h, Option.map_map]
  congr 1
  funext p
  simp
theorem nums_stop {F k : Nat} {b : List UInt8} {a : Int} {out : List Int} {o : Option (List Int × Int)} (h : (numsF (F - k) b a).map (fun p => (out ++ p.1, p.2)) = o) (hk : k < F) (hc : gvC b a = false) : o = none := by
  obtain ⟨f, hf⟩ : ∃ f, F - k = f + 1 := ⟨F - k - 1, by omega⟩
  rw [hf, numsF, if_neg (by simp [hc])] at h
  exact h.symm
set_option maxHeartbeats 1000000 in
theorem ref_numbers {A : Option Addr} {n c : Nat} {b : List UInt8} {a : Int} {F : Nat} {w : World} (hb : Sl w A n c b) (hn6 : n ≤ 1000000) (hF : F ≤ 1000) {o : Option (List Int × Int)} (ho : Hid (numsF F b a = o)) :
    Calls Try.prog 63 #[.slice A n c, .int .i64 a, .int .i64 F] w fun e w' => ∃ A' n' c', e = .returned (.tuple #[.slice A' n' c', .int .i64 ((o.map Prod.snd).getD 0), .bool o.isSome]) ∧ OwnL INT 1 intR w' w.heap.size A' n' c' ((o.map Prod.fst).getD []) ∧ Ext w w' := by
  have h63 := hb.n63
  obtain ⟨i0, hi0, hz0, hz1, hz2⟩ := info_parts info_int
  have HO : Hid ((numsF (F - 0) b a).map (fun p => (([] : List Int) ++ p.1, p.2)) = o) := by
    unfold Hid
    rw [Nat.sub_zero, ← ho.out]
    simp
  clear ho
  go_enter Try.func63, Try.ntmps63
  go_wp2_with fail
  go_loopw [1, 9, 10] (fun av v i wr => ∃ (k : Nat) (d : Int) (Ao : Option Addr) (co : Nat) (out : List Int), k ≤ F ∧ av = .int .i64 d ∧ v = .slice Ao k co ∧ i = .int .i64 k ∧ OwnL INT 1 intR wr w.heap.size Ao k co out ∧ Hid ((numsF (F - k) b d).map (fun p => (out ++ p.1, p.2)) = o) ∧ Ext w wr) (fun _ _ i _ => F - (intOf i).toNat)
  case atStart => exact ⟨0, a, none, 0, [], by omega, rfl, rfl, rfl, OwnL.nil _ _ _ _, HO, Ext.refl _⟩
  case round =>
    obtain ⟨k, d, Ao, co, out, hk, rfl, rfl, rfl, hown, hrk, hxr⟩ := hrel
    clear HO
    by_cases hlt : k < F
    · obtain ⟨X, hX⟩ : ∃ q, gvA b d = q := ⟨_, rfl⟩
      obtain ⟨Y, hY⟩ : ∃ q, gvB b d = q := ⟨_, rfl⟩
      obtain ⟨Z, hZ⟩ : ∃ q, gvC b d = q := ⟨_, rfl⟩
      have HV := Lib.hid (And.intro hX (And.intro hY hZ))
      cases Z with
      | false =>
        obtain rfl := nums_stop hrk.out hlt hZ
        clear hrk hX hY hZ
        go_wp2_with fail
        refine (ref_GetVar_h (hb.ext hxr) hn6 HV).mono ?_
        rintro e _ ⟨rfl, rfl⟩
        go_wp2_with fail
        go_ret3
        exact ⟨_, _, _, rfl, OwnL.nil _ _ _ _, hxr⟩
      | true =>
        have hn := nums_next hrk.out hlt hZ
        rw [hX, hY] at hn
        have HN := Lib.hid hn
        clear hrk hX hY hZ hn
        have lit := (int_lit wr X).lst
        go_wp2_with fail
        refine (ref_GetVar_h (hb.ext hxr) hn6 HV).mono ?_
        rintro e _ ⟨rfl, rfl⟩
        go_wp2_with (
          at_builtin
          refine wpList_append_flat (w0 := w) int_rep (fun x cs w h => int_no_pts h) rfl (.tmp 28) (.tmp 30) _ _ rfl INT INT i0 _ 8 under_ints under_ints hi0 hz0 hz1 hz2 rfl Ao k co out rfl (hown.ext int_rep (Ext.alloc _ _)) _ 1 1 [X] rfl lit (k + 1) rfl _ rfl (by simp only [maxLen]; omega) (by omega) (hxr.allocs _) ?_
          intro A3 c3 w3 hb3 hx3)
        go_wp2_with fail
        go_roundw
        case rel => exact ⟨k + 1, Y, A3, c3, _, by omega, rfl, rfl, by go_num, hb3, HN, hx3⟩
        case measure => simp [intOf]; omega
    · obtain rfl : k = F := by omega
      have hr1 := hrk.out
      rw [Nat.sub_self] at hr1
      obtain rfl : o = some (out, d) := by rw [← hr1]; simp [numsF]
      clear hrk hr1
      go_wp2_with fail
      go_ret3
      exact ⟨_, _, _, rfl, hown, hxr⟩
end Go.Proofs.Ytoeknbogaclfdaa
