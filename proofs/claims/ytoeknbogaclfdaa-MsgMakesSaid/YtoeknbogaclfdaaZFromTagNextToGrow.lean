/-
  Chains: a new tag's number: contracts of the program's Next and the reference's NextID. UNFINISHED.
-/
/-
  Chains that grow by numbers: contracts of Grow.
-/
import Derived.Test.YtoeknbogaclfdaaZFromChainPlainToGet
import Derived.Test.YtoeknbogaclfdaaZFromLePlainToMask2
import Derived.Test.YtoeknbogaclfdaaZFromTagSameToTagRight
import Derived.Test.YtoeknbogaclfdaaZFromFrameTakeToInts
import Derived.Test.YtoeknbogaclfdaaZCore
namespace Go.Proofs.Ytoeknbogaclfdaa
open Go.RowKit
set_option linter.unusedVariables false
set_option linter.unusedSimpArgs false
set_option linter.unnecessarySimpa false
set_option maxRecDepth 100000
set_option maxHeartbeats 1000000 in
theorem ref_NextID {A : Option Addr} {n c : Nat} {xs : List Tg} {s : Int} {w : World} (l1 : Lst 4 tgR w A n c xs) {r : Int} (hr : Hid (nextI xs s = r)) :
    Calls Try.prog 79 #[.slice A n c, .int .i64 s] w fun e w' => e = .returned (.int .i64 r) ∧ Ext w w' := by
  have h63 := l1.n63
  go_enter Try.func79, Try.ntmps79
  go_wp2_with fail
  go_loopw [5, 6] (fun v i wr => ∃ (k : Nat) (d : Int), k ≤ n ∧ v = .int .i64 d ∧ i = .int .i64 k ∧ 0 ≤ d ∧ d ≤ 1073741824 ∧ Hid (mostI (xs.take k) 0 = d) ∧ Ext w wr) (fun _ i _ => n - (intOf i).toNat)
  case atStart => exact ⟨0, 0, by omega, rfl, rfl, by omega, by omega, rfl, Ext.refl _⟩
  case round =>
    obtain ⟨k, d, hk, rfl, rfl, hd0, hd1, hrk, hxr⟩ := hrel
    by_cases hlt : k < n
    · obtain ⟨ga, oa, x, cs, rfl, hx, rfl, ha⟩ := l1.at2 tg_rep (by omega) hlt
      have hn := mostI_next hx 0
      rw [hrk.out] at hn
      have a0 : wr.cell? ⟨ga, oa + k * 4, none⟩ = _ := hxr.cell (ha 0 _ rfl)
      have ht := mostI_take xs (k + 1) 0
      obtain ⟨x1, x2, x3, x4⟩ := x
      simp only at hn a0
      clear ha hx hrk
      by_cases hls : 1073741824 < x1
      · have hr1 := hr.out
        unfold nextI at hr1
        rw [if_pos (by omega)] at hr1
        subst hr1
        clear hn ht hr
        go_wp2_with fail
        go_ret
        exact ⟨rfl, hxr⟩
      · obtain ⟨m, hm⟩ : ∃ m, max d x1 = m := ⟨_, rfl⟩
        rw [hm] at hn
        have HN := Lib.hid hn
        clear hn ht
        go_wp2_with fail
        all_goals (
          go_roundw
          case rel => exact ⟨k + 1, m, by omega, by congr 2; omega, by go_num, by omega, by omega, HN, hxr⟩
          case measure => simp [intOf]; omega)
    · obtain rfl : k = n := by omega
      have hm := hrk.out
      rw [List.take_of_length_le (by rw [l1.len]; exact Nat.le_refl _)] at hm
      have hr1 := hr.out
      unfold nextI at hr1
      rw [hm, if_neg (by omega)] at hr1
      obtain ⟨e, rfl⟩ := Int.eq_ofNat_of_zero_le hd0
      clear hrk hm hr
      have eb : e ≤ 1073741824 := by omega
      by_cases hp : ((e : Int) + 1) % 2 = 1
      · by_cases hs1 : s = 1
        · have HR := Lib.hid (show (e : Int) + 1 = r by simpa [hp, hs1] using hr1)
          clear hr1
          go_wp2_with fail
          all_goals (
            go_ret
            refine ⟨congrArg (fun z => Ending.returned (.int .i64 z)) ?_, hxr⟩
            have := HR.out
            omega)
        · have qs : (s == 1) = false := by simp [hs1]
          have HR := Lib.hid (show (e : Int) + 2 = r by simpa [hp, hs1] using hr1)
          clear hr1
          go_wp2_with fail
          all_goals (
            go_ret
            refine ⟨congrArg (fun z => Ending.returned (.int .i64 z)) ?_, hxr⟩
            have := HR.out
            omega)
      · have qp : (((e : Int) + 1) % 2 == 1) = false := by simp [hp]
        by_cases hs1 : s = 1
        · have HR := Lib.hid (show (e : Int) + 2 = r by simpa [hp, hs1] using hr1)
          clear hr1
          go_wp2_with fail
          all_goals (
            go_ret
            refine ⟨congrArg (fun z => Ending.returned (.int .i64 z)) ?_, hxr⟩
            have := HR.out
            omega)
        · have qs : (s == 1) = false := by simp [hs1]
          have HR := Lib.hid (show (e : Int) + 1 = r by simpa [hp, hs1] using hr1)
          clear hr1
          go_wp2_with fail
          all_goals (
            go_ret
            refine ⟨congrArg (fun z => Ending.returned (.int .i64 z)) ?_, hxr⟩
            have := HR.out
            omega)
end Go.Proofs.Ytoeknbogaclfdaa

namespace Go.Proofs.Ytoeknbogaclfdaa
open Go.RowKit
set_option linter.unusedVariables false
set_option linter.unusedSimpArgs false
set_option linter.unnecessarySimpa false
set_option maxRecDepth 100000
theorem tg1_src {P : Program} {w : World} {tx e e' : TypeId} (hk : P.underlying tx = some (.slice e')) (x : Tg) : Src P 4 tx (.slice (some ⟨w.heap.size, 0, none⟩) 1 1) 1 [.int .i64 x.id, .int .i64 x.ow, .int .i64 x.he, .int .i64 x.pt] (w.alloc (.cells #[.int .i64 x.id, .int .i64 x.ow, .int .i64 x.he, .int .i64 x.pt] e)) :=
  src_cells (P := P) (w := w) (e := e) hk #[.int .i64 x.id, .int .i64 x.ow, .int .i64 x.he, .int .i64 x.pt] rfl (by intro u hu; simp at hu; rcases hu with rfl | rfl | rfl | rfl <;> rfl)
theorem tg_no_pts {x : Tg} {cs : List Value} {w : World} (h : tgR x cs w) : ∀ k, ¬ Pts cs k := by
  rintro k ⟨ad, m, c', hm, _⟩
  rw [h] at hm
  simp at hm
theorem grow_next {l : List Int} {k : Nat} {x : Int} {out : List Tg} {e : Int} (hx : l[k]? = some x) (hl : out.length < 20) : growF (l.drop k) out e = if x / 4 % 2 = 0 then growF (l.drop (k + 1)) out (e + x % 4) else growF (l.drop (k + 1)) (out ++ [newTg out x (e + x % 4)]) (e + x % 4) := by
  rw [drop_step hx, growF, if_pos hl]
set_option maxHeartbeats 1000000 in
theorem law6_Grow {A : Option Addr} {n c : Nat} {l : List Int} {w : World} (l1 : Lst 1 intR w A n c l) (hn : n ≤ 1000) {R : List Tg} {E : Int} (hr : Hid (growL l = (R, E))) :
    Calls Try.prog 42 #[.slice A n c] w fun e w' => ∃ A' n' c', e = .returned (.tuple #[.slice A' n' c', .int .i64 E]) ∧ OwnL TTg 4 tgR w' w.heap.size A' n' c' R ∧ Ext w w' := by
  have h63 := l1.n63
  obtain ⟨i0, hi0, hz0, hz1, hz2⟩ := info_parts info_tg
  go_enter Try.func42, Try.ntmps42
  go_wp2_with fail
  have own0 : OwnL TTg 4 tgR (w.alloc (.cells #[.int .i64 1, .int .i64 1, .int .i64 0, .int .i64 0] TTg)) w.heap.size (some ⟨w.heap.size, 0, none⟩) 1 1 [tag1] :=
    ⟨rfl, [[.int .i64 1, .int .i64 1, .int .i64 0, .int .i64 0]], .cons rfl .nil, Own.made w w.heap.size TTg 4 #[.int .i64 1, .int .i64 1, .int .i64 0, .int .i64 0] 1 1 (Nat.le_refl _) (Nat.le_refl _) (by simp [maxLen]) rfl, fun cs hcs k hk => by simp at hcs; subst hcs; exact absurd hk (tg_no_pts (x := tag1) (w := w) rfl k)⟩
  go_loopw [4, 5, 6] (fun v ev i wr => ∃ (k : Nat) (out : List Tg) (d : Nat) (Ao : Option Addr) (m co : Nat), k ≤ n ∧ v = .slice Ao m co ∧ ev = .int .i64 (d : Int) ∧ i = .int .i64 k ∧ OwnL TTg 4 tgR wr w.heap.size Ao m co out ∧ Hid (growF (l.drop k) out (d : Int) = (R, E)) ∧ m ≤ 20 ∧ d ≤ 3 * k ∧ Ext w wr) (fun _ _ i _ => n - (intOf i).toNat)
  case atStart => exact ⟨0, [tag1], 0, _, 1, 1, by omega, rfl, rfl, rfl, own0, hr, by omega, by omega, Ext.alloc _ _⟩
  case round =>
    obtain ⟨k, out, d, Ao, m, co, hk, rfl, rfl, rfl, hown, hrk, hm20, hd, hxr⟩ := hrel
    clear own0 hr
    by_cases hlt : k < n
    case neg =>
      obtain rfl : k = n := by omega
      have hr1 := hrk.out
      rw [List.drop_of_length_le (by rw [l1.len]; exact Nat.le_refl _), growF] at hr1
      injection hr1 with e1 e2
      subst e1 e2
      clear hrk
      go_wp2_with fail
      go_ret2
      exact ⟨_, _, _, rfl, hown, hxr⟩
    by_cases hlm : m < 20
    case neg =>
      have hr1 := hrk.out
      rw [growF_full _ (by rw [hown.len]; exact hlm)] at hr1
      injection hr1 with e1 e2
      subst e1 e2
      clear hrk
      go_wp2_with fail
      go_ret2
      exact ⟨_, _, _, rfl, hown, hxr⟩
    obtain ⟨ga, oa, x, rfl, hx, hc⟩ := l1.atI hlt
    have a0 := hxr.cell hc
    have hgn := grow_next (out := out) (e := (d : Int)) hx (by rw [hown.len]; exact hlm)
    rw [hrk.out] at hgn
    obtain ⟨q, hq, hq3, hqx⟩ : ∃ q : Nat, bits BinOp.and IntKind.i64 x 3 = (q : Int) ∧ q ≤ 3 ∧ x % 4 = (q : Int) := ⟨(x % 4).toNat, by rw [and3]; omega, by omega, by omega⟩
    rw [hqx] at hgn
    by_cases h4 : x / 4 % 2 = 0
    · have hq4 : bits BinOp.and IntKind.i64 x 4 = 0 := by rw [and4]; omega
      rw [if_pos h4] at hgn
      have HN := Lib.hid hgn.symm
      clear hgn hrk hx hqx h4 hc
      go_wp2_with fail
      go_roundw
      case rel => exact ⟨k + 1, out, d + q, Ao, m, co, by omega, rfl, by push_cast; rfl, by go_num, hown, by push_cast; exact HN, hm20, by omega, hxr⟩
      case measure => simp [intOf]; omega
    · have hq4 : bits BinOp.and IntKind.i64 x 4 = 4 := by rw [and4]; omega
      rw [if_neg h4] at hgn
      obtain ⟨s, hs, hs1, hsx⟩ : ∃ s : Nat, bits BinOp.and IntKind.i64 (x / 8) 1 = (s : Int) ∧ s ≤ 1 ∧ x / 8 % 2 = (s : Int) := ⟨(x / 8 % 2).toNat, by rw [and1]; omega, by omega, by omega⟩
      unfold newTg at hgn
      rw [hsx] at hgn
      obtain ⟨z, hz⟩ : ∃ z, nextI out (1 + (s : Int)) = z := ⟨_, rfl⟩
      rw [hz] at hgn
      have HZ := Lib.hid hz
      obtain ⟨t, ht⟩ : ∃ t : Tg, (if x / 16 % 2 = 0 then (⟨z, 1 + (s : Int), 0, (d : Int) + q⟩ : Tg) else ⟨z, 0, 3 - (1 + (s : Int)), (d : Int) + q⟩) = t := ⟨_, rfl⟩
      rw [ht] at hgn
      have HN := Lib.hid hgn.symm
      have hlen := hown.len
      clear hz hrk hx hqx h4 hc hgn hsx
      have hzb := nextI_le (xs := out) (s := 1 + (s : Int))
      rw [HZ.out] at hzb
      by_cases h16 : x / 16 % 2 = 0
      · have hq16 : bits BinOp.and IntKind.i64 x 16 = 0 := by rw [and16]; omega
        rw [if_pos h16] at ht
        clear h16
        go_wp2_with fail
        refine (ref_NextID hown.lst HZ).mono ?_
        rintro e w2 ⟨rfl, hx2⟩
        replace a0 := hx2.cell a0
        have b0 : (w2.alloc (.cells #[.int .i64 z, .int .i64 (1 + (s : Int)), .int .i64 0, .int .i64 ((d : Int) + q)] 104)).cell? ⟨ga, oa + k, none⟩ = some (.int .i64 x) := (Ext.alloc _ _).cell a0
        subst ht
        have hs2 := hx2.size
        have hsr := hxr.size
        obtain ⟨css, ha, ho, hp⟩ := (hown.ext tg_rep hx2).own
        have hsrc : Src Try.prog 4 25 (.slice (some ⟨w2.heap.size + 1, 0, none⟩) 1 1) 1 [.int .i64 z, .int .i64 (1 + (s : Int)), .int .i64 0, .int .i64 ((d : Int) + q)] ((w2.alloc (.cells #[.int .i64 z, .int .i64 (1 + (s : Int)), .int .i64 0, .int .i64 ((d : Int) + q)] 104)).alloc (.cells #[.int .i64 z, .int .i64 (1 + (s : Int)), .int .i64 0, .int .i64 ((d : Int) + q)] 104)) := by
          have := tg1_src (P := Try.prog) (w := w2.alloc (.cells #[.int .i64 z, .int .i64 (1 + (s : Int)), .int .i64 0, .int .i64 ((d : Int) + q)] 104)) (e := 104) under_tgs ⟨z, (1 + (s : Int)), 0, (d : Int) + q⟩
          simpa using this
        go_wp2_with (at_builtin; refine wpList_append_mine _ rfl _ _ _ _ rfl w.heap.size TTg i0 _ 4 32 under_tgs hi0 hz0 hz1 hz2 rfl Ao m co _ rfl ((ho.alloc _).alloc _) _ rfl 1 _ hsrc (by simp only [maxLen]; omega) (by omega) (by simp; omega) ?_; intro A3 c3 w3 hown3 hg3 hr3)
        have hnew : OwnL TTg 4 tgR w3 w.heap.size A3 (m + 1) c3 (out ++ [⟨z, (1 + (s : Int)), 0, (d : Int) + q⟩]) := by
          refine OwnL.more (css := css) (dss := [[.int .i64 z, .int .i64 (1 + (s : Int)), .int .i64 0, .int .i64 ((d : Int) + q)]]) tg_rep hlen rfl ?_ hp (.cons rfl .nil) ?_ (by simpa using hown3) hg3 hr3
          · exact ha.mono fun x cs _ hr => hr
          · intro cs hcs k hk
            simp at hcs
            subst hcs
            exact absurd hk (tg_no_pts (x := ⟨z, (1 + (s : Int)), 0, (d : Int) + q⟩) (w := w) rfl k)
        have hx3 : Ext w w3 := below_grown (((hxr.trans hx2).allocs _).allocs _) ((ho.alloc _).alloc _) hg3 (by simp; omega)
        clear hown3 hg3 hr3 hsrc ha ho hp hown
        go_wp2_with fail
        go_roundw
        case rel => exact ⟨k + 1, _, d + q, A3, m + 1, c3, by omega, rfl, by push_cast; rfl, by go_num, hnew, by push_cast; exact HN, by omega, by omega, hx3⟩
        case measure => simp [intOf]; omega
      · have hq16 : bits BinOp.and IntKind.i64 x 16 = 16 := by rw [and16]; omega
        rw [if_neg h16] at ht
        clear h16
        go_wp2_with fail
        refine (ref_NextID hown.lst HZ).mono ?_
        rintro e w2 ⟨rfl, hx2⟩
        replace a0 := hx2.cell a0
        have b0 : (w2.alloc (.cells #[.int .i64 z, .int .i64 (1 + (s : Int)), .int .i64 0, .int .i64 ((d : Int) + q)] 104)).cell? ⟨ga, oa + k, none⟩ = some (.int .i64 x) := (Ext.alloc _ _).cell a0
        subst ht
        have hs2 := hx2.size
        have hsr := hxr.size
        obtain ⟨css, ha, ho, hp⟩ := (hown.ext tg_rep hx2).own
        have hsrc : Src Try.prog 4 25 (.slice (some ⟨w2.heap.size + 1, 0, none⟩) 1 1) 1 [.int .i64 z, .int .i64 0, .int .i64 (3 - (1 + (s : Int))), .int .i64 ((d : Int) + q)] ((w2.alloc (.cells #[.int .i64 z, .int .i64 0, .int .i64 (3 - (1 + (s : Int))), .int .i64 ((d : Int) + q)] 104)).alloc (.cells #[.int .i64 z, .int .i64 0, .int .i64 (3 - (1 + (s : Int))), .int .i64 ((d : Int) + q)] 104)) := by
          have := tg1_src (P := Try.prog) (w := w2.alloc (.cells #[.int .i64 z, .int .i64 0, .int .i64 (3 - (1 + (s : Int))), .int .i64 ((d : Int) + q)] 104)) (e := 104) under_tgs ⟨z, 0, (3 - (1 + (s : Int))), (d : Int) + q⟩
          simpa using this
        go_wp2_with (at_builtin; refine wpList_append_mine _ rfl _ _ _ _ rfl w.heap.size TTg i0 _ 4 32 under_tgs hi0 hz0 hz1 hz2 rfl Ao m co _ rfl ((ho.alloc _).alloc _) _ rfl 1 _ hsrc (by simp only [maxLen]; omega) (by omega) (by simp; omega) ?_; intro A3 c3 w3 hown3 hg3 hr3)
        have hnew : OwnL TTg 4 tgR w3 w.heap.size A3 (m + 1) c3 (out ++ [⟨z, 0, (3 - (1 + (s : Int))), (d : Int) + q⟩]) := by
          refine OwnL.more (css := css) (dss := [[.int .i64 z, .int .i64 0, .int .i64 (3 - (1 + (s : Int))), .int .i64 ((d : Int) + q)]]) tg_rep hlen rfl ?_ hp (.cons rfl .nil) ?_ (by simpa using hown3) hg3 hr3
          · exact ha.mono fun x cs _ hr => hr
          · intro cs hcs k hk
            simp at hcs
            subst hcs
            exact absurd hk (tg_no_pts (x := ⟨z, 0, (3 - (1 + (s : Int))), (d : Int) + q⟩) (w := w) rfl k)
        have hx3 : Ext w w3 := below_grown (((hxr.trans hx2).allocs _).allocs _) ((ho.alloc _).alloc _) hg3 (by simp; omega)
        clear hown3 hg3 hr3 hsrc ha ho hp hown
        go_wp2_with fail
        go_roundw
        case rel => exact ⟨k + 1, _, d + q, A3, m + 1, c3, by omega, rfl, by push_cast; rfl, by go_num, hnew, by push_cast; exact HN, by omega, by omega, hx3⟩
        case measure => simp [intOf]; omega
end Go.Proofs.Ytoeknbogaclfdaa
