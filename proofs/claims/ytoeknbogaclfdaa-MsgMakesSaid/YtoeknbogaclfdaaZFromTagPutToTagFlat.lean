/-
  Chains in bytes: contracts of the program's Put and of the reference PutChain.
-/
/-
  GetVar's contracts with named answers.
-/
/-
  Tags: a row of one, written down; append onto a row of tags.
-/
import Derived.Test.YtoeknbogaclfdaaZTagRightRef
import Derived.Test.YtoeknbogaclfdaaZFromChainPlainToGet
import Derived.Test.YtoeknbogaclfdaaZFromNmToTag
import Derived.Test.YtoeknbogaclfdaaZCore
import Derived.Test.YtoeknbogaclfdaaZFromTagSameToTagRight
import Derived.Test.YtoeknbogaclfdaaZFromFlatToMkSame
namespace Go.Proofs.Ytoeknbogaclfdaa
open Go.RowKit
set_option linter.unusedVariables false
set_option linter.unusedSimpArgs false
set_option linter.unnecessarySimpa false
set_option maxRecDepth 100000
theorem mem_allNs {l : List Tg} {x : Tg} (hx : x ∈ l) : ∀ k ∈ tgNs x, k ∈ allNs l := by
  induction l with
  | nil => simp at hx
  | cons y ys ih =>
    intro k hk
    rw [allNs]
    rcases List.mem_cons.1 hx with rfl | hx
    · exact List.mem_append.2 (.inl hk)
    · exact List.mem_append.2 (.inr (ih hx k hk))
theorem right_bounds {l : List Tg} (h : RightL l) {x : Tg} (hx : x ∈ l) : (0 ≤ x.id ∧ x.id ≤ 9223372036854775807) ∧ (0 ≤ x.ow ∧ x.ow ≤ 9223372036854775807) ∧ (0 ≤ x.he ∧ x.he ≤ 9223372036854775807) ∧ (0 ≤ x.pt ∧ x.pt ≤ 9223372036854775807) :=
  ⟨h.nums _ (mem_allNs hx _ (by simp [tgNs])), h.nums _ (mem_allNs hx _ (by simp [tgNs])), h.nums _ (mem_allNs hx _ (by simp [tgNs])), h.nums _ (mem_allNs hx _ (by simp [tgNs]))⟩
def putR (xs : List Tg) (r : Bool) : List UInt8 := if r then putL xs else []
set_option maxHeartbeats 1000000 in
theorem chain_Put {A : Option Addr} {n c : Nat} {xs : List Tg} {w : World} (l1 : Lst 4 tgR w A n c xs) {r : Bool} (hr : Hid (rightL xs = r)) {L : List UInt8} (hL : Hid (putR xs r = L)) :
    Calls Try.prog 44 #[.slice A n c] w fun e w' => ∃ A' n' c', e = .returned (.tuple #[.slice A' n' c', .int .i64 (if r then 0 else 1)]) ∧ Byt U8 w' w.heap.size A' n' c' L ∧ Ext w w' := by
  have h63 := l1.n63
  cases r with
  | false =>
    obtain rfl : L = [] := by rw [← hL.out]; rfl
    go_enter Try.func44, Try.ntmps44
    go_wp2_with fail
    refine (chain_Right l1 hr).mono ?_
    rintro e w1 ⟨rfl, hx1⟩
    go_wp2_with fail
    go_ret2
    exact ⟨_, _, _, rfl, Byt.nil _ _ _ _, hx1⟩
  | true =>
    have hR := rightL_iff.1 hr.out
    have hn32 : n ≤ 32 := by rw [← l1.len]; exact hR.2.1
    have HR := Lib.hid hR
    have HL : Hid (putL xs = L) := hL.out
    clear hL hR
    rw [show (if true = true then (0 : Int) else 1) = 0 from rfl]
    go_enter Try.func44, Try.ntmps44
    go_wp2_with fail
    refine (chain_Right l1 hr).mono ?_
    rintro e w1 ⟨rfl, hx1⟩
    go_wp2_with fail
    refine (bits_Var none 0 0 [] (n : Int) _ (Sl.nil _) (by omega) (by omega)).mono ?_
    rintro e w2 ⟨A2, n2, c2, rfl, hb2, hx2⟩
    rw [Int.toNat_natCast, List.nil_append] at hb2
    replace hb2 := hb2.low hx1.size
    have hn2 : n2 ≤ 9 := by rw [← hb2.len]; exact (varl_length n).2
    replace hx2 := hx1.trans hx2
    clear hx1
    go_wp2_with fail
    go_loopw [4, 17] (fun v i wr => ∃ (k : Nat) (Ab : Option Addr) (m cb : Nat) (G : List UInt8), k ≤ n ∧ v = .slice Ab m cb ∧ i = .int .i64 k ∧ Byt U8 wr w.heap.size Ab m cb G ∧ Hid (varl n ++ putTs (xs.take k) = G) ∧ m ≤ 9 + 36 * k ∧ Ext w wr) (fun _ i _ => n - (intOf i).toNat)
    case atStart => exact ⟨0, A2, n2, c2, varl n, by omega, rfl, rfl, hb2, by simp [Hid, putTs, allNs, varsL], by omega, hx2⟩
    case round =>
      obtain ⟨k, Ab, m, cb, G, hk, rfl, rfl, hb, hG, hm, hxr⟩ := hrel
      clear hb2 hx2
      by_cases hlt : k < n
      · obtain ⟨ga, oa, x, cs, rfl, hx, rfl, ha⟩ := l1.at2 tg_rep (by omega) hlt
        have a0 : wr.cell? ⟨ga, oa + k * 4, none⟩ = _ := hxr.cell (ha 0 _ rfl)
        have a1 := hxr.cell (ha 1 _ rfl)
        have a2 := hxr.cell (ha 2 _ rfl)
        have a3 := hxr.cell (ha 3 _ rfl)
        have hbd := Lib.hid (right_bounds HR.out (List.mem_of_getElem? hx))
        have hnx := putTs_next hx
        have HNX : Hid (varl n ++ putTs (xs.take (k + 1)) = G ++ varsL (tgNs x)) := by
          unfold Hid
          rw [hnx, ← List.append_assoc, hG.out]
        clear hG hnx hx ha
        obtain ⟨x1, x2, x3, x4⟩ := x
        simp only at a0 a1 a2 a3
        obtain ⟨w3, hw3⟩ : ∃ q, q = wr.alloc (.cells #[.int .i64 x1, .int .i64 x2, .int .i64 x3, .int .i64 x4] 104) := ⟨_, rfl⟩
        have hx3 : Ext w w3 := by rw [hw3]; exact hxr.allocs _
        have hb3 : Byt U8 w3 w.heap.size Ab m cb G := by rw [hw3]; exact hb.ext (Ext.alloc _ _)
        have b0 : w3.cell? ⟨wr.heap.size, 0, none⟩ = some (.int .i64 x1) := by rw [hw3]; exact cell_new _ _ _ 0
        have b1 : w3.cell? ⟨wr.heap.size, 1, none⟩ = some (.int .i64 x2) := by rw [hw3]; exact cell_new _ _ _ 1
        have b2 : w3.cell? ⟨wr.heap.size, 2, none⟩ = some (.int .i64 x3) := by rw [hw3]; exact cell_new _ _ _ 2
        have b3 : w3.cell? ⟨wr.heap.size, 3, none⟩ = some (.int .i64 x4) := by rw [hw3]; exact cell_new _ _ _ 3
        go_wp2_with fail
        rw [← hw3]
        clear hw3 hb hxr
        go_wp2_with fail
        go_loopw [4, 30] (fun v i wr => ∃ (j : Nat) (Ab : Option Addr) (p cb : Nat) (H : List UInt8), j ≤ 4 ∧ v = .slice Ab p cb ∧ i = .int .i64 j ∧ Byt U8 wr w.heap.size Ab p cb H ∧ Hid (G ++ varsL ([x1, x2, x3, x4].take j) = H) ∧ p ≤ 9 + 36 * k + 9 * j ∧ Ext w wr) (fun _ i _ => 4 - (intOf i).toNat)
        case atStart => exact ⟨0, Ab, m, cb, G, by omega, rfl, rfl, hb3, by simp [Hid, varsL], by omega, hx3⟩
        case round =>
          obtain ⟨j, Ac, p, cc, H, hj, rfl, rfl, hbH, hH, hp, hxq⟩ := hrel
          clear hb3 hx3 b0 b1 b2 b3 a0 a1 a2 a3
          have hj5 : j = 0 ∨ j = 1 ∨ j = 2 ∨ j = 3 ∨ j = 4 := by omega
          rcases hj5 with rfl | rfl | rfl | rfl | rfl
          · have ix : ∀ w, (Instr.index 108 (.agg #[.int .i64 x1, .int .i64 x2, .int .i64 x3, .int .i64 x4]) (.int .i64 0)).run Try.prog w = .ok (.int .i64 x1) w := fun _ => by kernel_rfl
            go_wp2_with fail
            refine (bits_Var Ac p cc H x1 _ hbH.sl (by omega) hbd.out.1.2).mono ?_
            rintro e w4 ⟨A4, n4, c4, rfl, hb4, hx4⟩
            replace hb4 := hb4.low hxq.size
            have hl4 : n4 ≤ p + 9 := by
              have := varl_length x1.toNat
              rw [← hb4.len, List.length_append, hbH.len]
              omega
            go_wp2_with fail
            go_roundw
            case rel => exact ⟨1, A4, n4, c4, _, by omega, rfl, rfl, hb4, by unfold Hid; rw [← hH.out]; simp [varsL], by omega, hxq.trans hx4⟩
            case measure => simp [intOf]
          · have ix : ∀ w, (Instr.index 108 (.agg #[.int .i64 x1, .int .i64 x2, .int .i64 x3, .int .i64 x4]) (.int .i64 1)).run Try.prog w = .ok (.int .i64 x2) w := fun _ => by kernel_rfl
            go_wp2_with fail
            refine (bits_Var Ac p cc H x2 _ hbH.sl (by omega) hbd.out.2.1.2).mono ?_
            rintro e w4 ⟨A4, n4, c4, rfl, hb4, hx4⟩
            replace hb4 := hb4.low hxq.size
            have hl4 : n4 ≤ p + 9 := by
              have := varl_length x2.toNat
              rw [← hb4.len, List.length_append, hbH.len]
              omega
            go_wp2_with fail
            go_roundw
            case rel => exact ⟨2, A4, n4, c4, _, by omega, rfl, rfl, hb4, by unfold Hid; rw [← hH.out]; simp [varsL], by omega, hxq.trans hx4⟩
            case measure => simp [intOf]
          · have ix : ∀ w, (Instr.index 108 (.agg #[.int .i64 x1, .int .i64 x2, .int .i64 x3, .int .i64 x4]) (.int .i64 2)).run Try.prog w = .ok (.int .i64 x3) w := fun _ => by kernel_rfl
            go_wp2_with fail
            refine (bits_Var Ac p cc H x3 _ hbH.sl (by omega) hbd.out.2.2.1.2).mono ?_
            rintro e w4 ⟨A4, n4, c4, rfl, hb4, hx4⟩
            replace hb4 := hb4.low hxq.size
            have hl4 : n4 ≤ p + 9 := by
              have := varl_length x3.toNat
              rw [← hb4.len, List.length_append, hbH.len]
              omega
            go_wp2_with fail
            go_roundw
            case rel => exact ⟨3, A4, n4, c4, _, by omega, rfl, rfl, hb4, by unfold Hid; rw [← hH.out]; simp [varsL], by omega, hxq.trans hx4⟩
            case measure => simp [intOf]
          · have ix : ∀ w, (Instr.index 108 (.agg #[.int .i64 x1, .int .i64 x2, .int .i64 x3, .int .i64 x4]) (.int .i64 3)).run Try.prog w = .ok (.int .i64 x4) w := fun _ => by kernel_rfl
            go_wp2_with fail
            refine (bits_Var Ac p cc H x4 _ hbH.sl (by omega) hbd.out.2.2.2.2).mono ?_
            rintro e w4 ⟨A4, n4, c4, rfl, hb4, hx4⟩
            replace hb4 := hb4.low hxq.size
            have hl4 : n4 ≤ p + 9 := by
              have := varl_length x4.toNat
              rw [← hb4.len, List.length_append, hbH.len]
              omega
            go_wp2_with fail
            go_roundw
            case rel => exact ⟨4, A4, n4, c4, _, by omega, rfl, rfl, hb4, by unfold Hid; rw [← hH.out]; simp [varsL], by omega, hxq.trans hx4⟩
            case measure => simp [intOf]
          · have HH : Hid (varl n ++ putTs (xs.take (k + 1)) = H) := by
              unfold Hid
              rw [HNX.out, ← hH.out]
              rfl
            clear hH HNX
            go_wp2_with fail
            go_roundw
            case rel => exact ⟨k + 1, Ac, p, cc, H, by omega, rfl, by go_num, hbH, HH, by omega, hxq⟩
            case measure => simp [intOf]; omega
      · obtain rfl : k = n := by omega
        have hG1 := hG.out
        rw [List.take_of_length_le (by rw [l1.len]; exact Nat.le_refl _)] at hG1
        obtain rfl : G = L := by rw [← hG1, ← HL.out, putL, l1.len]
        clear hG1 hG HL
        go_wp2_with fail
        go_ret2
        exact ⟨_, _, _, rfl, hb, hxr⟩
set_option maxHeartbeats 1000000 in
theorem ref_PutChain {A : Option Addr} {n c : Nat} {xs : List Tg} {w : World} (l1 : Lst 4 tgR w A n c xs) {r : Bool} (hr : Hid (rightL xs = r)) {L : List UInt8} (hL : Hid (putR xs r = L)) :
    Calls Try.prog 66 #[.slice A n c] w fun e w' => ∃ A' n' c', e = .returned (.tuple #[.slice A' n' c', .int .i64 (if r then 0 else 1)]) ∧ Byt U8 w' w.heap.size A' n' c' L ∧ Ext w w' := by
  have h63 := l1.n63
  cases r with
  | false =>
    obtain rfl : L = [] := by rw [← hL.out]; rfl
    go_enter Try.func66, Try.ntmps66
    go_wp2_with fail
    refine (ref_RightChain l1 hr).mono ?_
    rintro e w1 ⟨rfl, hx1⟩
    go_wp2_with fail
    go_ret2
    exact ⟨_, _, _, rfl, Byt.nil _ _ _ _, hx1⟩
  | true =>
    have hR := rightL_iff.1 hr.out
    have hn32 : n ≤ 32 := by rw [← l1.len]; exact hR.2.1
    have HR := Lib.hid hR
    have HL : Hid (putL xs = L) := hL.out
    clear hL hR
    rw [show (if true = true then (0 : Int) else 1) = 0 from rfl]
    go_enter Try.func66, Try.ntmps66
    go_wp2_with fail
    refine (ref_RightChain l1 hr).mono ?_
    rintro e w1 ⟨rfl, hx1⟩
    go_wp2_with fail
    refine (ref_Var none 0 0 [] (n : Int) _ (Sl.nil _) (by omega) (by omega)).mono ?_
    rintro e w2 ⟨A2, n2, c2, rfl, hb2, hx2⟩
    rw [Int.toNat_natCast, List.nil_append] at hb2
    replace hb2 := hb2.low hx1.size
    have hn2 : n2 ≤ 9 := by rw [← hb2.len]; exact (varl_length n).2
    replace hx2 := hx1.trans hx2
    clear hx1
    go_wp2_with fail
    go_loopw [4, 5] (fun v i wr => ∃ (k : Nat) (Ab : Option Addr) (m cb : Nat) (G : List UInt8), k ≤ n ∧ v = .slice Ab m cb ∧ i = .int .i64 k ∧ Byt U8 wr w.heap.size Ab m cb G ∧ Hid (varl n ++ putTs (xs.take k) = G) ∧ m ≤ 9 + 36 * k ∧ Ext w wr) (fun _ i _ => n - (intOf i).toNat)
    case atStart => exact ⟨0, A2, n2, c2, varl n, by omega, rfl, rfl, hb2, by simp [Hid, putTs, allNs, varsL], by omega, hx2⟩
    case round =>
      obtain ⟨k, Ab, m, cb, G, hk, rfl, rfl, hb, hG, hm, hxr⟩ := hrel
      clear hb2 hx2
      by_cases hlt : k < n
      · obtain ⟨ga, oa, x, cs, rfl, hx, rfl, ha⟩ := l1.at2 tg_rep (by omega) hlt
        have a0 : wr.cell? ⟨ga, oa + k * 4, none⟩ = _ := hxr.cell (ha 0 _ rfl)
        have a1 := hxr.cell (ha 1 _ rfl)
        have a2 := hxr.cell (ha 2 _ rfl)
        have a3 := hxr.cell (ha 3 _ rfl)
        have hbd := Lib.hid (right_bounds HR.out (List.mem_of_getElem? hx))
        have hnx := putTs_next hx
        have HNX : Hid (varl n ++ putTs (xs.take (k + 1)) = G ++ varsL (tgNs x)) := by
          unfold Hid
          rw [hnx, ← List.append_assoc, hG.out]
        clear hG hnx hx ha
        obtain ⟨x1, x2, x3, x4⟩ := x
        simp only at a0 a1 a2 a3
        go_wp2_with fail
        refine wp_region_typed2 (R := But wr.heap.size (fun _ => False)) Ext.steady (But.steady _ _) (fun _ _ => But.of_ext) rfl 44 rfl [0, 0, 0, 6, 14, 30, 63, 0, 0, 384, 896, 1920, 4095, 0, 0, 24576, 57344, 122880, 262143, 0, 0, 1572864, 3670016, 7864320, 16777215, 33554431] 0 (by kernel_rfl) ?_
        apply Stage2.step (Is _) true [] true false (Is.keeps _) (fun _ => Is.keeps _) (by kernel_rfl)
        · intro w1 h1
          have h1 : Ext _ w1 := h1
          simp only [List.nil_append, List.cons_append, List.map_cons, List.map_nil, Given]
          go_wp2_with fail
          exact Post.isv (Ext.refl _) rfl rfl rfl
        apply Stage2.step (Is _) true [] true false (Is.keeps _) (fun _ => Is.keeps _) (by kernel_rfl)
        · intro w1 h1
          have h1 : Ext _ w1 := h1
          simp only [List.nil_append, List.cons_append, List.map_cons, List.map_nil, Given]
          go_wp2_with fail
          exact Post.isv (Ext.refl _) rfl rfl rfl
        apply Stage2.step (Is _) true [] true false (Is.keeps _) (fun _ => Is.keeps _) (by kernel_rfl)
        · intro w1 h1
          have h1 : Ext _ w1 := h1
          simp only [List.nil_append, List.cons_append, List.map_cons, List.map_nil, Given]
          go_wp2_with fail
          exact Post.isv (Ext.refl _) rfl rfl rfl
        apply Stage2.step (Is _) true [false, true, true] true false (Is.keeps _) (fun _ => Is.keeps _) (by kernel_rfl)
        · intro w1 h1
          have h1 : Ext _ w1 := h1
          simp only [List.nil_append, List.cons_append, List.map_cons, List.map_nil, Sp.pr, Given]
          rintro _ rfl
          rintro _ rfl
          go_wp2_with fail
          exact Post.isv (Ext.refl _) rfl rfl rfl
        apply Stage2.step (Is _) true [false, false, false, true] true false (Is.keeps _) (fun _ => Is.keeps _) (by kernel_rfl)
        · intro w1 h1
          have h1 : Ext _ w1 := h1
          simp only [List.nil_append, List.cons_append, List.map_cons, List.map_nil, Sp.pr, Given]
          rintro _ rfl
          go_wp2_with fail
          exact Post.isv (Ext.refl _) rfl rfl rfl
        apply Stage2.step (Is (.int .i64 x1)) true [false, false, false, false, true] true false (Is.keeps _) (fun _ => Is.keeps _) (by kernel_rfl)
        · intro w1 h1
          have h1 : Ext _ w1 := h1
          simp only [List.nil_append, List.cons_append, List.map_cons, List.map_nil, Sp.pr, Given]
          rintro _ rfl
          have q0 := h1.cell a0
          go_wp2_with fail
          exact Post.isv (Ext.refl _) rfl rfl rfl
        apply Stage2.step (BytT U8 wr.heap.size (G ++ varl x1.toNat)) false [true, false, false, false, false, true] true false (BytT.keeps _ _ _) (no_keeps) (by kernel_rfl)
        · intro w1 h1
          have h1 : Ext _ w1 := h1
          simp only [List.nil_append, List.cons_append, List.map_cons, List.map_nil, Sp.pr, Given]
          rintro _ rfl
          rintro _ rfl
          go_wp2_with fail
          refine (ref_Var Ab m cb G x1 _ (hb.sl.ext h1) (by omega) hbd.out.1.2).mono ?_
          rintro e w2 ⟨A3, n3, c3, rfl, h3, hx3⟩
          go_wp2_with fail
          exact ⟨rfl, rfl, hx3, _, _, _, rfl, h3.low h1.size⟩
        apply Stage2.step (Is _) true [] true false (Is.keeps _) (fun _ => Is.keeps _) (by kernel_rfl)
        · intro w1 h1
          have h1 : Ext _ w1 := h1
          simp only [List.nil_append, List.cons_append, List.map_cons, List.map_nil, Given]
          go_wp2_with fail
          exact Post.isv (Ext.refl _) rfl rfl rfl
        apply Stage2.step (Is _) true [] true false (Is.keeps _) (fun _ => Is.keeps _) (by kernel_rfl)
        · intro w1 h1
          have h1 : Ext _ w1 := h1
          simp only [List.nil_append, List.cons_append, List.map_cons, List.map_nil, Given]
          go_wp2_with fail
          exact Post.isv (Ext.refl _) rfl rfl rfl
        apply Stage2.step (Is _) true [false, false, false, false, false, false, false, true, true] true false (Is.keeps _) (fun _ => Is.keeps _) (by kernel_rfl)
        · intro w1 h1
          have h1 : Ext _ w1 := h1
          simp only [List.nil_append, List.cons_append, List.map_cons, List.map_nil, Sp.pr, Given]
          rintro _ rfl
          rintro _ rfl
          go_wp2_with fail
          exact Post.isv (Ext.refl _) rfl rfl rfl
        apply Stage2.step (Is _) true [false, false, false, false, false, false, false, false, false, true] true false (Is.keeps _) (fun _ => Is.keeps _) (by kernel_rfl)
        · intro w1 h1
          have h1 : Ext _ w1 := h1
          simp only [List.nil_append, List.cons_append, List.map_cons, List.map_nil, Sp.pr, Given]
          rintro _ rfl
          go_wp2_with fail
          exact Post.isv (Ext.refl _) rfl rfl rfl
        apply Stage2.step (Is (.int .i64 x2)) true [false, false, false, false, false, false, false, false, false, false, true] true false (Is.keeps _) (fun _ => Is.keeps _) (by kernel_rfl)
        · intro w1 h1
          have h1 : Ext _ w1 := h1
          simp only [List.nil_append, List.cons_append, List.map_cons, List.map_nil, Sp.pr, Given]
          rintro _ rfl
          have q1 := h1.cell a1
          go_wp2_with fail
          exact Post.isv (Ext.refl _) rfl rfl rfl
        apply Stage2.step (BytT U8 wr.heap.size (G ++ varl x1.toNat ++ varl x2.toNat)) false [false, false, false, false, false, false, true, false, false, false, false, true] true false (BytT.keeps _ _ _) (no_keeps) (by kernel_rfl)
        · intro w1 h1
          have h1 : Ext _ w1 := h1
          simp only [List.nil_append, List.cons_append, List.map_cons, List.map_nil, Sp.pr, Given]
          rintro _ ⟨A3, n3, c3, rfl, h3⟩
          rintro _ rfl
          have l3 : n3 ≤ m + 9 := by
            have := varl_length x1.toNat
            rw [← h3.len, List.length_append, hb.len]
            omega
          go_wp2_with fail
          refine (ref_Var A3 n3 c3 _ x2 _ h3.sl (by omega) hbd.out.2.1.2).mono ?_
          rintro e w2 ⟨A4, n4, c4, rfl, h4, hx4⟩
          go_wp2_with fail
          exact ⟨rfl, rfl, hx4, _, _, _, rfl, h4.low h1.size⟩
        apply Stage2.step (Is _) true [] true false (Is.keeps _) (fun _ => Is.keeps _) (by kernel_rfl)
        · intro w1 h1
          have h1 : Ext _ w1 := h1
          simp only [List.nil_append, List.cons_append, List.map_cons, List.map_nil, Given]
          go_wp2_with fail
          exact Post.isv (Ext.refl _) rfl rfl rfl
        apply Stage2.step (Is _) true [] true false (Is.keeps _) (fun _ => Is.keeps _) (by kernel_rfl)
        · intro w1 h1
          have h1 : Ext _ w1 := h1
          simp only [List.nil_append, List.cons_append, List.map_cons, List.map_nil, Given]
          go_wp2_with fail
          exact Post.isv (Ext.refl _) rfl rfl rfl
        apply Stage2.step (Is _) true [false, false, false, false, false, false, false, false, false, false, false, false, false, true, true] true false (Is.keeps _) (fun _ => Is.keeps _) (by kernel_rfl)
        · intro w1 h1
          have h1 : Ext _ w1 := h1
          simp only [List.nil_append, List.cons_append, List.map_cons, List.map_nil, Sp.pr, Given]
          rintro _ rfl
          rintro _ rfl
          go_wp2_with fail
          exact Post.isv (Ext.refl _) rfl rfl rfl
        apply Stage2.step (Is _) true [false, false, false, false, false, false, false, false, false, false, false, false, false, false, false, true] true false (Is.keeps _) (fun _ => Is.keeps _) (by kernel_rfl)
        · intro w1 h1
          have h1 : Ext _ w1 := h1
          simp only [List.nil_append, List.cons_append, List.map_cons, List.map_nil, Sp.pr, Given]
          rintro _ rfl
          go_wp2_with fail
          exact Post.isv (Ext.refl _) rfl rfl rfl
        apply Stage2.step (Is (.int .i64 x3)) true [false, false, false, false, false, false, false, false, false, false, false, false, false, false, false, false, true] true false (Is.keeps _) (fun _ => Is.keeps _) (by kernel_rfl)
        · intro w1 h1
          have h1 : Ext _ w1 := h1
          simp only [List.nil_append, List.cons_append, List.map_cons, List.map_nil, Sp.pr, Given]
          rintro _ rfl
          have q2 := h1.cell a2
          go_wp2_with fail
          exact Post.isv (Ext.refl _) rfl rfl rfl
        apply Stage2.step (BytT U8 wr.heap.size (G ++ varl x1.toNat ++ varl x2.toNat ++ varl x3.toNat)) false [false, false, false, false, false, false, false, false, false, false, false, false, true, false, false, false, false, true] true false (BytT.keeps _ _ _) (no_keeps) (by kernel_rfl)
        · intro w1 h1
          have h1 : Ext _ w1 := h1
          simp only [List.nil_append, List.cons_append, List.map_cons, List.map_nil, Sp.pr, Given]
          rintro _ ⟨A4, n4, c4, rfl, h4⟩
          rintro _ rfl
          have l4 : n4 ≤ m + 18 := by
            have := varl_length x1.toNat
            have := varl_length x2.toNat
            rw [← h4.len, List.length_append, List.length_append, hb.len]
            omega
          go_wp2_with fail
          refine (ref_Var A4 n4 c4 _ x3 _ h4.sl (by omega) hbd.out.2.2.1.2).mono ?_
          rintro e w2 ⟨A5, n5, c5, rfl, h5, hx5⟩
          go_wp2_with fail
          exact ⟨rfl, rfl, hx5, _, _, _, rfl, h5.low h1.size⟩
        apply Stage2.step (Is _) true [] true false (Is.keeps _) (fun _ => Is.keeps _) (by kernel_rfl)
        · intro w1 h1
          have h1 : Ext _ w1 := h1
          simp only [List.nil_append, List.cons_append, List.map_cons, List.map_nil, Given]
          go_wp2_with fail
          exact Post.isv (Ext.refl _) rfl rfl rfl
        apply Stage2.step (Is _) true [] true false (Is.keeps _) (fun _ => Is.keeps _) (by kernel_rfl)
        · intro w1 h1
          have h1 : Ext _ w1 := h1
          simp only [List.nil_append, List.cons_append, List.map_cons, List.map_nil, Given]
          go_wp2_with fail
          exact Post.isv (Ext.refl _) rfl rfl rfl
        apply Stage2.step (Is _) true [false, false, false, false, false, false, false, false, false, false, false, false, false, false, false, false, false, false, false, true, true] true false (Is.keeps _) (fun _ => Is.keeps _) (by kernel_rfl)
        · intro w1 h1
          have h1 : Ext _ w1 := h1
          simp only [List.nil_append, List.cons_append, List.map_cons, List.map_nil, Sp.pr, Given]
          rintro _ rfl
          rintro _ rfl
          go_wp2_with fail
          exact Post.isv (Ext.refl _) rfl rfl rfl
        apply Stage2.step (Is _) true [false, false, false, false, false, false, false, false, false, false, false, false, false, false, false, false, false, false, false, false, false, true] true false (Is.keeps _) (fun _ => Is.keeps _) (by kernel_rfl)
        · intro w1 h1
          have h1 : Ext _ w1 := h1
          simp only [List.nil_append, List.cons_append, List.map_cons, List.map_nil, Sp.pr, Given]
          rintro _ rfl
          go_wp2_with fail
          exact Post.isv (Ext.refl _) rfl rfl rfl
        apply Stage2.step (Is (.int .i64 x4)) true [false, false, false, false, false, false, false, false, false, false, false, false, false, false, false, false, false, false, false, false, false, false, true] true false (Is.keeps _) (fun _ => Is.keeps _) (by kernel_rfl)
        · intro w1 h1
          have h1 : Ext _ w1 := h1
          simp only [List.nil_append, List.cons_append, List.map_cons, List.map_nil, Sp.pr, Given]
          rintro _ rfl
          have q3 := h1.cell a3
          go_wp2_with fail
          exact Post.isv (Ext.refl _) rfl rfl rfl
        apply Stage2.step (BytT U8 wr.heap.size (G ++ varl x1.toNat ++ varl x2.toNat ++ varl x3.toNat ++ varl x4.toNat)) false [false, false, false, false, false, false, false, false, false, false, false, false, false, false, false, false, false, false, true, false, false, false, false, true] true false (BytT.keeps _ _ _) (no_keeps) (by kernel_rfl)
        · intro w1 h1
          have h1 : Ext _ w1 := h1
          simp only [List.nil_append, List.cons_append, List.map_cons, List.map_nil, Sp.pr, Given]
          rintro _ ⟨A5, n5, c5, rfl, h5⟩
          rintro _ rfl
          have l5 : n5 ≤ m + 27 := by
            have := varl_length x1.toNat
            have := varl_length x2.toNat
            have := varl_length x3.toNat
            rw [← h5.len, List.length_append, List.length_append, List.length_append, hb.len]
            omega
          go_wp2_with fail
          refine (ref_Var A5 n5 c5 _ x4 _ h5.sl (by omega) hbd.out.2.2.2.2).mono ?_
          rintro e w2 ⟨A6, n6, c6, rfl, h6, hx6⟩
          go_wp2_with fail
          exact ⟨rfl, rfl, hx6, _, _, _, rfl, h6.low h1.size⟩
        apply Stage2.step (BytT U8 wr.heap.size (G ++ varl x1.toNat ++ varl x2.toNat ++ varl x3.toNat ++ varl x4.toNat)) false [false, false, false, false, false, false, false, false, false, false, false, false, false, false, false, false, false, false, false, false, false, false, false, false, true] true false (BytT.keeps _ _ _) (no_keeps) (by kernel_rfl)
        · intro w1 h1
          have h1 : Ext _ w1 := h1
          simp only [List.nil_append, List.cons_append, List.map_cons, List.map_nil, Sp.pr, Given]
          rintro v hcp
          go_wp2_with fail
          exact ⟨rfl, rfl, Ext.refl _, hcp⟩
        apply Stage2.nil [true, true, true, true, true, true, true, true, true, true, true, true, true, true, true, true, true, true, true, true, true, true, true, true, true, true] (by kernel_rfl)
        intro w1 h1
        have h1 : (Ext) _ w1 := h1
        simp only [List.nil_append, List.cons_append, List.map_cons, List.map_nil, Sp.pr]
        refine Fin2.is_ ?_
        refine Fin2.is_ ?_
        refine Fin2.is_ ?_
        refine Fin2.is_ ?_
        refine Fin2.is_ ?_
        refine Fin2.is_ ?_
        refine Fin2.step_ ?_
        rintro _ ⟨A3, n3, c3, rfl, h3⟩
        refine Fin2.is_ ?_
        refine Fin2.is_ ?_
        refine Fin2.is_ ?_
        refine Fin2.is_ ?_
        refine Fin2.is_ ?_
        refine Fin2.step_ ?_
        rintro _ ⟨A4, n4, c4, rfl, h4⟩
        refine Fin2.is_ ?_
        refine Fin2.is_ ?_
        refine Fin2.is_ ?_
        refine Fin2.is_ ?_
        refine Fin2.is_ ?_
        refine Fin2.step_ ?_
        rintro _ ⟨A5, n5, c5, rfl, h5⟩
        refine Fin2.is_ ?_
        refine Fin2.is_ ?_
        refine Fin2.is_ ?_
        refine Fin2.is_ ?_
        refine Fin2.is_ ?_
        refine Fin2.step_ ?_
        rintro _ ⟨A6, n6, c6, rfl, h6⟩
        refine Fin2.step_ ?_
        rintro _ ⟨A6, n6, c6, rfl, h6⟩
        refine Fin2.nil_ ?_
        go_simp
        have l6 : n6 ≤ m + 36 := by
          have := varl_length x1.toNat
          have := varl_length x2.toNat
          have := varl_length x3.toNat
          have := varl_length x4.toNat
          rw [← h6.len, List.length_append, List.length_append, List.length_append, List.length_append, hb.len]
          omega
        have HH : Hid (varl n ++ putTs (xs.take (k + 1)) = G ++ varl x1.toNat ++ varl x2.toNat ++ varl x3.toNat ++ varl x4.toNat) := by
          unfold Hid
          rw [HNX.out]
          simp [varsL, tgNs]
        go_wp2_with fail
        go_roundw
        case rel => exact ⟨k + 1, A6, n6, c6, _, by omega, rfl, by go_num, h6.low hxr.size, HH, by omega, hxr.trans h1⟩
        case measure => simp [intOf]; omega
      · obtain rfl : k = n := by omega
        have hG1 := hG.out
        rw [List.take_of_length_le (by rw [l1.len]; exact Nat.le_refl _)] at hG1
        obtain rfl : G = L := by rw [← hG1, ← HL.out, putL, l1.len]
        clear hG1 hG HL
        go_wp2_with fail
        go_ret2
        exact ⟨_, _, _, rfl, hb, hxr⟩
end Go.Proofs.Ytoeknbogaclfdaa

namespace Go.Proofs.Ytoeknbogaclfdaa
open Go.RowKit
set_option linter.unusedVariables false
theorem gvN_bd {l : List UInt8} {a : Int} {p : Nat × Nat} (h : gvN l a = some p) : 0 ≤ a ∧ p.1 < 9223372036854775808 ∧ 1 ≤ p.2 ∧ p.2 ≤ 9 ∧ a.toNat + p.2 ≤ l.length := by
  unfold gvN at h
  split at h
  · have := gvF_lt 9 0 _ p h
    rw [List.length_drop] at this
    omega
  · cases h
theorem gv_small (l : List UInt8) (a : Int) (ha : 0 ≤ a) : 0 ≤ gvA l a ∧ gvA l a ≤ 9223372036854775807 ∧ 0 ≤ gvB l a ∧ gvB l a ≤ l.length ∧ (gvC l a = true → a < gvB l a) ∧ (gvC l a = false → gvA l a = 0 ∧ gvB l a = 0) := by
  unfold gvA gvB gvC
  cases h : gvN l a with
  | none => simp
  | some p =>
    have := gvN_bd h
    simp only [Option.isSome_some, Bool.true_eq_false, false_implies, and_true, true_implies]
    omega
theorem bits_GetVar_h {A : Option Addr} {n c : Nat} {l : List UInt8} {a : Int} {w : World} (hs : Sl w A n c l) {ga gb : Int} {gc : Bool} (h : Hid (gvA l a = ga ∧ gvB l a = gb ∧ gvC l a = gc)) :
    Calls Try.prog 84 #[.slice A n c, .int .i64 a] w fun e w' => e = .returned (.tuple #[.int .i64 ga, .int .i64 gb, .bool gc]) ∧ w = w' := by
  have := bits_GetVar A n c l a w hs
  rwa [h.out.1, h.out.2.1, h.out.2.2] at this
end Go.Proofs.Ytoeknbogaclfdaa

namespace Go.Proofs.Ytoeknbogaclfdaa
open Go.RowKit
set_option linter.unusedVariables false
set_option linter.unusedSimpArgs false
set_option linter.unnecessarySimpa false
set_option maxRecDepth 100000
theorem tag_nop {x : Tg} {cs : List Value} {w : World} (h : tgR x cs w) : ∀ k, ¬ Pts cs k := by
  rintro k ⟨ad, m, c', hm, _⟩
  rw [h] at hm
  simp at hm
theorem tag_lit (w : World) (x : Tg) : OwnL TTg 4 tgR (w.alloc (.cells #[.int .i64 x.id, .int .i64 x.ow, .int .i64 x.he, .int .i64 x.pt] TTg)) w.heap.size (some ⟨w.heap.size, 0, none⟩) 1 1 [x] :=
  ⟨rfl, [[.int .i64 x.id, .int .i64 x.ow, .int .i64 x.he, .int .i64 x.pt]], .cons rfl .nil, Own.made w w.heap.size TTg 4 #[.int .i64 x.id, .int .i64 x.ow, .int .i64 x.he, .int .i64 x.pt] 1 1 (Nat.le_refl _) (Nat.le_refl _) (by simp [maxLen]) rfl, fun cs hcs k hk => by simp at hcs; subst hcs; exact absurd hk (tag_nop (x := x) (w := w) rfl k)⟩
end Go.Proofs.Ytoeknbogaclfdaa
