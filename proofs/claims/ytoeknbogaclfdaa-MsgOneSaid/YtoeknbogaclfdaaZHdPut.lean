/-
  Records in bytes: contracts of the program's Put and of the reference's PutHead.
-/
import Derived.Test.YtoeknbogaclfdaaZHdRight
import Derived.Test.YtoeknbogaclfdaaZHdRightR
import Derived.Test.YtoeknbogaclfdaaZMksPut
import Derived.Test.YtoeknbogaclfdaaZFromSumToFrameRt
namespace Go.Proofs.Ytoeknbogaclfdaa
open Go.RowKit
set_option linter.unusedVariables false
set_option linter.unusedSimpArgs false
set_option linter.unnecessarySimpa false
set_option maxRecDepth 100000

def putHr (h : Hd) (r : Bool) : List UInt8 := if r then putH h else []
theorem right_bds {h : Hd} (hr : rightH h = true) : ((0 ≤ h.size ∧ h.size ≤ 9223372036854775807) ∧ (0 ≤ h.order ∧ h.order ≤ 9223372036854775807) ∧ (0 ≤ h.unit ∧ h.unit ≤ 9223372036854775807) ∧ (0 ≤ h.count ∧ h.count ≤ 9223372036854775807) ∧ (0 ≤ h.next ∧ h.next ≤ 9223372036854775807) ∧ (0 ≤ h.seq ∧ h.seq ≤ 9223372036854775807)) ∧ (∀ x ∈ h.marks, fitM x) ∧ h.marks.length ≤ 17 := by
  unfold rightH at hr
  rw [Bool.and_eq_true, numsB_iff] at hr
  obtain ⟨hn, hm⟩ := hr
  obtain ⟨hf, hl⟩ := right_fit hn.2.2.2.1 hm
  exact ⟨by omega, fun x hx => (hf x hx).1, hl⟩
set_option maxHeartbeats 4000000 in
theorem header_Put (h : Hd) {A : Option Addr} {n c : Nat} {w : World} (hl : Lst 4 mkR w A n c h.marks) (hs : Hid (Shorts h.marks)) (hn1 : n ≤ 1000) {r : Bool} (hr : Hid (rightH h = r)) {L : List UInt8} (hL : Hid (putHr h r = L)) :
    Calls Try.prog 19 #[hdV h A n c] w fun e w' => ∃ A' n' c', e = .returned (.tuple #[.slice A' n' c', .int .i64 (if r then 0 else 1)]) ∧ Byt U8 w' w.heap.size A' n' c' L ∧ Ext w w' := by
  have h63 := hl.n63
  have hlw := hl.ext mk_rep (Ext.alloc w (.cells #[.int .i64 h.size, .int .i64 h.order, .int .i64 h.unit, .int .i64 h.count, .int .i64 h.next, .int .i64 h.seq, .slice A n c] THd))
  have HRC := Lib.hid (header_Right h hlw hs hn1 hr)
  cases r with
  | false =>
    obtain rfl : L = [] := by rw [← hL.out]; rfl
    go_enter Try.func19, Try.ntmps19
    go_wp2_with fail
    refine HRC.out.mono ?_
    rintro e w1 ⟨rfl, hx1⟩
    go_wp2_with fail
    go_ret2
    exact ⟨_, _, _, rfl, Byt.nil _ _ _ _, (Ext.alloc _ _).trans hx1⟩
  | true =>
    have hbd := right_bds hr.out
    have hlen := hl.len
    have HL : Hid (putH h = L) := hL.out
    obtain ⟨h1v, h2, h3, h4, nx, sq, xs⟩ := h
    simp only at hbd hlen hl
    obtain ⟨⟨d1, d2, d3, d4, d5, d6⟩, HF0, hn17⟩ := hbd
    rw [hlen] at hn17
    have HFF := Lib.hid HF0
    have HD := Lib.hid (And.intro d1 (And.intro d2 (And.intro d3 (And.intro d4 (And.intro d5 d6)))))
    clear hL hr HF0 hlw d1 d2 d3 d4 d5 d6
    have HLEN := Lib.hid hlen
    clear hlen
    rw [show (if true = true then (0 : Int) else 1) = 0 from rfl]
    go_enter Try.func19, Try.ntmps19
    go_wp2_with fail
    refine HRC.out.mono ?_
    rintro e w2 ⟨rfl, hx2⟩
    have b0 : w2.cell? ⟨w.heap.size, 0, none⟩ = some (.int .i64 h1v) := hx2.cell (cell_new w #[.int .i64 h1v, .int .i64 h2, .int .i64 h3, .int .i64 h4, .int .i64 nx, .int .i64 sq, .slice A n c] THd 0)
    have b1 : w2.cell? ⟨w.heap.size, 1, none⟩ = some (.int .i64 h2) := hx2.cell (cell_new w #[.int .i64 h1v, .int .i64 h2, .int .i64 h3, .int .i64 h4, .int .i64 nx, .int .i64 sq, .slice A n c] THd 1)
    have b2 : w2.cell? ⟨w.heap.size, 2, none⟩ = some (.int .i64 h3) := hx2.cell (cell_new w #[.int .i64 h1v, .int .i64 h2, .int .i64 h3, .int .i64 h4, .int .i64 nx, .int .i64 sq, .slice A n c] THd 2)
    have b3 : w2.cell? ⟨w.heap.size, 3, none⟩ = some (.int .i64 h4) := hx2.cell (cell_new w #[.int .i64 h1v, .int .i64 h2, .int .i64 h3, .int .i64 h4, .int .i64 nx, .int .i64 sq, .slice A n c] THd 3)
    have b4 : w2.cell? ⟨w.heap.size, 4, none⟩ = some (.int .i64 nx) := hx2.cell (cell_new w #[.int .i64 h1v, .int .i64 h2, .int .i64 h3, .int .i64 h4, .int .i64 nx, .int .i64 sq, .slice A n c] THd 4)
    have b5 : w2.cell? ⟨w.heap.size, 5, none⟩ = some (.int .i64 sq) := hx2.cell (cell_new w #[.int .i64 h1v, .int .i64 h2, .int .i64 h3, .int .i64 h4, .int .i64 nx, .int .i64 sq, .slice A n c] THd 5)
    have b6 : w2.cell? ⟨w.heap.size, 6, none⟩ = some (.slice A n c) := hx2.cell (cell_new w #[.int .i64 h1v, .int .i64 h2, .int .i64 h3, .int .i64 h4, .int .i64 nx, .int .i64 sq, .slice A n c] THd 6)
    have gx2 : Ext w w2 := (Ext.alloc _ _).trans hx2
    clear hx2 HRC
    go_wp2_with fail
    go_loopw [4, 32] (fun v i wr => ∃ (j : Nat) (Ab : Option Addr) (p cb : Nat) (H : List UInt8), j ≤ 7 ∧ v = .slice Ab p cb ∧ i = .int .i64 j ∧ Byt U8 wr w.heap.size Ab p cb H ∧ Hid (varsL ([h1v, h2, h3, h4, nx, sq, (n : Int)].take j) = H) ∧ p ≤ 9 * j ∧ Ext w2 wr) (fun _ i _ => 7 - (intOf i).toNat)
    case atStart => exact ⟨0, none, 0, 0, [], by omega, rfl, rfl, Byt.nil _ _ _ _, rfl, by omega, Ext.refl _⟩
    case round =>
      obtain ⟨j, Ac, p, cc, H, hj, rfl, rfl, hbH, hH, hp, hxq⟩ := hrel
      replace b6 := hxq.cell b6
      clear b0 b1 b2 b3 b4 b5
      have gsz := (gx2.trans hxq).size
      have hj8 : j = 0 ∨ j = 1 ∨ j = 2 ∨ j = 3 ∨ j = 4 ∨ j = 5 ∨ j = 6 ∨ 7 ≤ j := by omega
      rcases hj8 with rfl | rfl | rfl | rfl | rfl | rfl | rfl | hj7
      · have ix : ∀ w, (Instr.index 66 (.agg #[.int .i64 h1v, .int .i64 h2, .int .i64 h3, .int .i64 h4, .int .i64 nx, .int .i64 sq, .int .i64 (n : Int)]) (.int .i64 0)).run Try.prog w = .ok (.int .i64 h1v) w := fun _ => by kernel_rfl
        go_wp2_with fail
        refine (bits_Var Ac p cc H h1v _ hbH.sl (by omega) HD.out.1.2).mono ?_
        rintro e w4 ⟨A4, n4, c4, rfl, hb4, hx4⟩
        have hl4 : n4 ≤ p + 9 := by
          have := varl_length (h1v).toNat
          rw [← hb4.len, List.length_append, hbH.len]
          omega
        go_wp2_with fail
        go_roundw
        case rel => exact ⟨1, A4, n4, c4, _, by omega, rfl, rfl, hb4.low gsz, by unfold Hid; rw [← hH.out]; simp [varsL], by omega, hxq.trans hx4⟩
        case measure => simp [intOf]
      · have ix : ∀ w, (Instr.index 66 (.agg #[.int .i64 h1v, .int .i64 h2, .int .i64 h3, .int .i64 h4, .int .i64 nx, .int .i64 sq, .int .i64 (n : Int)]) (.int .i64 1)).run Try.prog w = .ok (.int .i64 h2) w := fun _ => by kernel_rfl
        go_wp2_with fail
        refine (bits_Var Ac p cc H h2 _ hbH.sl (by omega) HD.out.2.1.2).mono ?_
        rintro e w4 ⟨A4, n4, c4, rfl, hb4, hx4⟩
        have hl4 : n4 ≤ p + 9 := by
          have := varl_length (h2).toNat
          rw [← hb4.len, List.length_append, hbH.len]
          omega
        go_wp2_with fail
        go_roundw
        case rel => exact ⟨2, A4, n4, c4, _, by omega, rfl, rfl, hb4.low gsz, by unfold Hid; rw [← hH.out]; simp [varsL], by omega, hxq.trans hx4⟩
        case measure => simp [intOf]
      · have ix : ∀ w, (Instr.index 66 (.agg #[.int .i64 h1v, .int .i64 h2, .int .i64 h3, .int .i64 h4, .int .i64 nx, .int .i64 sq, .int .i64 (n : Int)]) (.int .i64 2)).run Try.prog w = .ok (.int .i64 h3) w := fun _ => by kernel_rfl
        go_wp2_with fail
        refine (bits_Var Ac p cc H h3 _ hbH.sl (by omega) HD.out.2.2.1.2).mono ?_
        rintro e w4 ⟨A4, n4, c4, rfl, hb4, hx4⟩
        have hl4 : n4 ≤ p + 9 := by
          have := varl_length (h3).toNat
          rw [← hb4.len, List.length_append, hbH.len]
          omega
        go_wp2_with fail
        go_roundw
        case rel => exact ⟨3, A4, n4, c4, _, by omega, rfl, rfl, hb4.low gsz, by unfold Hid; rw [← hH.out]; simp [varsL], by omega, hxq.trans hx4⟩
        case measure => simp [intOf]
      · have ix : ∀ w, (Instr.index 66 (.agg #[.int .i64 h1v, .int .i64 h2, .int .i64 h3, .int .i64 h4, .int .i64 nx, .int .i64 sq, .int .i64 (n : Int)]) (.int .i64 3)).run Try.prog w = .ok (.int .i64 h4) w := fun _ => by kernel_rfl
        go_wp2_with fail
        refine (bits_Var Ac p cc H h4 _ hbH.sl (by omega) HD.out.2.2.2.1.2).mono ?_
        rintro e w4 ⟨A4, n4, c4, rfl, hb4, hx4⟩
        have hl4 : n4 ≤ p + 9 := by
          have := varl_length (h4).toNat
          rw [← hb4.len, List.length_append, hbH.len]
          omega
        go_wp2_with fail
        go_roundw
        case rel => exact ⟨4, A4, n4, c4, _, by omega, rfl, rfl, hb4.low gsz, by unfold Hid; rw [← hH.out]; simp [varsL], by omega, hxq.trans hx4⟩
        case measure => simp [intOf]
      · have ix : ∀ w, (Instr.index 66 (.agg #[.int .i64 h1v, .int .i64 h2, .int .i64 h3, .int .i64 h4, .int .i64 nx, .int .i64 sq, .int .i64 (n : Int)]) (.int .i64 4)).run Try.prog w = .ok (.int .i64 nx) w := fun _ => by kernel_rfl
        go_wp2_with fail
        refine (bits_Var Ac p cc H nx _ hbH.sl (by omega) HD.out.2.2.2.2.1.2).mono ?_
        rintro e w4 ⟨A4, n4, c4, rfl, hb4, hx4⟩
        have hl4 : n4 ≤ p + 9 := by
          have := varl_length (nx).toNat
          rw [← hb4.len, List.length_append, hbH.len]
          omega
        go_wp2_with fail
        go_roundw
        case rel => exact ⟨5, A4, n4, c4, _, by omega, rfl, rfl, hb4.low gsz, by unfold Hid; rw [← hH.out]; simp [varsL], by omega, hxq.trans hx4⟩
        case measure => simp [intOf]
      · have ix : ∀ w, (Instr.index 66 (.agg #[.int .i64 h1v, .int .i64 h2, .int .i64 h3, .int .i64 h4, .int .i64 nx, .int .i64 sq, .int .i64 (n : Int)]) (.int .i64 5)).run Try.prog w = .ok (.int .i64 sq) w := fun _ => by kernel_rfl
        go_wp2_with fail
        refine (bits_Var Ac p cc H sq _ hbH.sl (by omega) HD.out.2.2.2.2.2.2).mono ?_
        rintro e w4 ⟨A4, n4, c4, rfl, hb4, hx4⟩
        have hl4 : n4 ≤ p + 9 := by
          have := varl_length (sq).toNat
          rw [← hb4.len, List.length_append, hbH.len]
          omega
        go_wp2_with fail
        go_roundw
        case rel => exact ⟨6, A4, n4, c4, _, by omega, rfl, rfl, hb4.low gsz, by unfold Hid; rw [← hH.out]; simp [varsL], by omega, hxq.trans hx4⟩
        case measure => simp [intOf]
      · have ix : ∀ w, (Instr.index 66 (.agg #[.int .i64 h1v, .int .i64 h2, .int .i64 h3, .int .i64 h4, .int .i64 nx, .int .i64 sq, .int .i64 (n : Int)]) (.int .i64 6)).run Try.prog w = .ok (.int .i64 (n : Int)) w := fun _ => by kernel_rfl
        go_wp2_with fail
        refine (bits_Var Ac p cc H (n : Int) _ hbH.sl (by omega) (by omega)).mono ?_
        rintro e w4 ⟨A4, n4, c4, rfl, hb4, hx4⟩
        have hl4 : n4 ≤ p + 9 := by
          have := varl_length ((n : Int)).toNat
          rw [← hb4.len, List.length_append, hbH.len]
          omega
        go_wp2_with fail
        go_roundw
        case rel => exact ⟨7, A4, n4, c4, _, by omega, rfl, rfl, hb4.low gsz, by unfold Hid; rw [← hH.out]; simp [varsL], by omega, hxq.trans hx4⟩
        case measure => simp [intOf]
      · have HG0 : Hid (varsL [h1v, h2, h3, h4, nx, sq, (n : Int)] ++ mksBs (xs.take 0) = H) := by
          unfold Hid
          rw [← hH.out, show j = 7 by omega]
          simp [mksBs]
        have dj : decide ((j : Int) < 7) = false := by simp; omega
        have djn : decide (j < 7) = false := by simp; omega
        clear hH
        go_wp2_with fail
        go_loopw [4, 42] (fun v i wr => ∃ (k : Nat) (Ab : Option Addr) (p cb : Nat) (G : List UInt8), k ≤ n ∧ v = .slice Ab p cb ∧ i = .int .i64 k ∧ Byt U8 wr w.heap.size Ab p cb G ∧ Hid (varsL [h1v, h2, h3, h4, nx, sq, (n : Int)] ++ mksBs (xs.take k) = G) ∧ p ≤ 63 + 49 * k ∧ Ext w2 wr) (fun _ i _ => n - (intOf i).toNat)
        case atStart => exact ⟨0, Ac, p, cc, H, by omega, rfl, rfl, hbH, HG0, by omega, hxq⟩
        case round =>
          clear hbH HG0 hxq gsz b6 hp
          obtain ⟨k, Ab, p, cb, G, hk, rfl, rfl, hbG, hG, hp, hxr⟩ := hrel
          by_cases hlt : k < n
          · obtain ⟨ga, oa, x, cs, rfl, hx, rfl, ha⟩ := hl.at2 mk_rep (by omega) hlt
            have gxr := gx2.trans hxr
            have a0 : wr.cell? ⟨ga, oa + k * 4, none⟩ = _ := gxr.cell (ha 0 _ rfl)
            have a1 := gxr.cell (ha 1 _ rfl)
            have a2 := gxr.cell (ha 2 _ rfl)
            have a3 := gxr.cell (ha 3 _ rfl)
            have HF := Lib.hid (HFF.out x (List.mem_of_getElem? hx))
            have hnx := mksBs_next hx
            have hmb := (mkBs_len x).2
            have HNX : Hid (varsL [h1v, h2, h3, h4, nx, sq, (n : Int)] ++ mksBs (xs.take (k + 1)) = G ++ mkBs x) := by
              unfold Hid
              rw [hnx, ← List.append_assoc, hG.out]
            have HP := Lib.hid (mkBs_parts x)
            have hnm : x.nm.size ≤ 13 := HF.out.2.2
            clear hG hnx hx ha
            obtain ⟨M, hM⟩ : ∃ M, mkBs x = M := ⟨_, rfl⟩
            rw [hM] at HNX HP hmb
            clear hM
            obtain ⟨x1, x2, x3, x4⟩ := x
            simp only at a0 a1 a2 a3 HP hnm hmb
            cases x4 with
            | false =>
              skip
              have hp2 : p ≤ 2000 := by omega
              obtain ⟨w3, hw3⟩ : ∃ q, q = wr.alloc (.cells #[.int .i64 x1, .string x2, .int .i64 x3, .bool false] TMk) := ⟨_, rfl⟩
              have hx3 : Ext w2 w3 := by rw [hw3]; exact hxr.allocs _
              have hbG3 : Byt U8 w3 w.heap.size Ab p cb G := by rw [hw3]; exact hbG.ext (Ext.alloc _ _)
              have p0 : w3.cell? ⟨wr.heap.size, 0, none⟩ = some (.int .i64 x1) := by rw [hw3]; exact cell_new _ _ _ 0
              have p1 : w3.cell? ⟨wr.heap.size, 1, none⟩ = some (.string x2) := by rw [hw3]; exact cell_new _ _ _ 1
              have p2 : w3.cell? ⟨wr.heap.size, 2, none⟩ = some (.int .i64 x3) := by rw [hw3]; exact cell_new _ _ _ 2
              have p3 : w3.cell? ⟨wr.heap.size, 3, none⟩ = some (.bool false) := by rw [hw3]; exact cell_new _ _ _ 3
              go_wp2_with fail
              rw [← hw3]
              clear hw3 hbG
              refine wp_region_typed2 (R := But w3.heap.size (fun _ => False)) Ext.steady (But.steady _ _) (fun _ _ => But.of_ext) rfl 64 rfl [0, 0, 2, 7, 0, 16, 63, 0, 255, 511] 0 (by kernel_rfl) ?_
              -- 0: Op.move t4
              apply Stage2.step (Is _) true [] true false (Is.keeps _) (fun _ => Is.keeps _) (by kernel_rfl)
              · intro w1 h1
                have h1 : Ext _ w1 := h1
                simp only [List.nil_append, List.cons_append, List.map_cons, List.map_nil, Given]
                go_wp2_with fail
                exact Post.isv (Ext.refl _) rfl rfl rfl
              -- 1: Op.fieldAddr 48 t8 0
              apply Stage2.step (Is _) true [] true false (Is.keeps _) (fun _ => Is.keeps _) (by kernel_rfl)
              · intro w1 h1
                have h1 : Ext _ w1 := h1
                simp only [List.nil_append, List.cons_append, List.map_cons, List.map_nil, Given]
                go_wp2_with fail
                exact Post.isv (Ext.refl _) rfl rfl rfl
              -- 2: Op.load 3 t49
              apply Stage2.step (Is (.int .i64 x1)) true [false, true] true false (Is.keeps _) (fun _ => Is.keeps _) (by kernel_rfl)
              · intro w1 h1
                have h1 : Ext _ w1 := h1
                simp only [List.nil_append, List.cons_append, List.map_cons, List.map_nil, Sp.pr, Given]
                rintro _ rfl
                have q0 := h1.cell p0
                go_wp2_with fail
                exact Post.isv (Ext.refl _) rfl rfl rfl
              -- 3: Op.call { value (Operand.func 43), args := #[t48, t50], argTypes := #[23, 3] }
              apply Stage2.step (BytT U8 w3.heap.size (G ++ varl x1.toNat)) false [true, false, true] true false (BytT.keeps _ _ _) (no_keeps) (by kernel_rfl)
              · intro w1 h1
                have h1 : Ext _ w1 := h1
                simp only [List.nil_append, List.cons_append, List.map_cons, List.map_nil, Sp.pr, Given]
                rintro _ rfl
                rintro _ rfl
                go_wp2_with fail
                refine (bits_Var Ab p cb G x1 _ (hbG3.sl.ext h1) (by omega) HF.out.1.2).mono ?_
                rintro e w2 ⟨A5, n5, c5, rfl, h5, hx5⟩
                go_wp2_with fail
                exact ⟨rfl, rfl, hx5, _, _, _, rfl, h5.low h1.size⟩
              -- 4: Op.fieldAddr 48 t8 2
              apply Stage2.step (Is _) true [] true false (Is.keeps _) (fun _ => Is.keeps _) (by kernel_rfl)
              · intro w1 h1
                have h1 : Ext _ w1 := h1
                simp only [List.nil_append, List.cons_append, List.map_cons, List.map_nil, Given]
                go_wp2_with fail
                exact Post.isv (Ext.refl _) rfl rfl rfl
              -- 5: Op.load 3 t52
              apply Stage2.step (Is (.int .i64 x3)) true [false, false, false, false, true] true false (Is.keeps _) (fun _ => Is.keeps _) (by kernel_rfl)
              · intro w1 h1
                have h1 : Ext _ w1 := h1
                simp only [List.nil_append, List.cons_append, List.map_cons, List.map_nil, Sp.pr, Given]
                rintro _ rfl
                have q0 := h1.cell p2
                go_wp2_with fail
                exact Post.isv (Ext.refl _) rfl rfl rfl
              -- 6: Op.call { value (Operand.func 43), args := #[t51, t53], argTypes := #[23, 3] }
              apply Stage2.step (BytT U8 w3.heap.size (G ++ varl x1.toNat ++ varl x3.toNat)) false [false, false, false, true, false, true] true false (BytT.keeps _ _ _) (no_keeps) (by kernel_rfl)
              · intro w1 h1
                have h1 : Ext _ w1 := h1
                simp only [List.nil_append, List.cons_append, List.map_cons, List.map_nil, Sp.pr, Given]
                rintro _ ⟨A5, n5, c5, rfl, h5⟩
                rintro _ rfl
                have l5 : n5 ≤ p + 9 := by
                  have := varl_length x1.toNat
                  rw [← h5.len, List.length_append, hbG3.len]
                  omega
                go_wp2_with fail
                refine (bits_Var A5 n5 c5 _ x3 _ h5.sl (by omega) HF.out.2.1.2).mono ?_
                rintro e w2 ⟨A6, n6, c6, rfl, h6, hx6⟩
                go_wp2_with fail
                exact ⟨rfl, rfl, hx6, _, _, _, rfl, h6.low h1.size⟩
              -- 7: Op.move t9
              apply Stage2.step (Is _) true [] true false (Is.keeps _) (fun _ => Is.keeps _) (by kernel_rfl)
              · intro w1 h1
                have h1 : Ext _ w1 := h1
                simp only [List.nil_append, List.cons_append, List.map_cons, List.map_nil, Given]
                go_wp2_with fail
                exact Post.isv (Ext.refl _) rfl rfl rfl
              -- 8: Op.call { value (Operand.func 43), args := #[t54, t55], argTypes := #[23, 3] }
              apply Stage2.step (BytT U8 w3.heap.size (G ++ varl x1.toNat ++ varl x3.toNat ++ varl 0)) false [false, false, false, false, false, false, true, true] true false (BytT.keeps _ _ _) (no_keeps) (by kernel_rfl)
              · intro w1 h1
                have h1 : Ext _ w1 := h1
                simp only [List.nil_append, List.cons_append, List.map_cons, List.map_nil, Sp.pr, Given]
                rintro _ ⟨A6, n6, c6, rfl, h6⟩
                rintro _ rfl
                have l6 : n6 ≤ p + 18 := by
                  have := varl_length x1.toNat
                  have := varl_length x3.toNat
                  rw [← h6.len, List.length_append, List.length_append, hbG3.len]
                  omega
                go_wp2_with fail
                refine (bits_Var A6 n6 c6 _ 0 _ h6.sl (by omega) (by omega)).mono ?_
                rintro e w2 ⟨A7, n7, c7, rfl, h7, hx7⟩
                go_wp2_with fail
                exact ⟨rfl, rfl, hx7, _, _, _, rfl, h7.low h1.size⟩
              -- 9: Op.assign t56
              apply Stage2.step (BytT U8 w3.heap.size (G ++ varl x1.toNat ++ varl x3.toNat ++ varl 0)) false [false, false, false, false, false, false, false, false, true] true false (BytT.keeps _ _ _) (no_keeps) (by kernel_rfl)
              · intro w1 h1
                have h1 : Ext _ w1 := h1
                simp only [List.nil_append, List.cons_append, List.map_cons, List.map_nil, Sp.pr, Given]
                rintro v hcp
                go_wp2_with fail
                exact ⟨rfl, rfl, Ext.refl _, hcp⟩
              apply Stage2.nil [true, true, true, true, true, true, true, true, true, true] (by kernel_rfl)
              intro w1 h1
              have h1 : (Ext) _ w1 := h1
              simp only [List.nil_append, List.cons_append, List.map_cons, List.map_nil, Sp.pr]
              refine Fin2.is_ ?_
              refine Fin2.is_ ?_
              refine Fin2.is_ ?_
              refine Fin2.step_ ?_
              rintro _ ⟨A5, n5, c5, rfl, h5⟩
              refine Fin2.is_ ?_
              refine Fin2.is_ ?_
              refine Fin2.step_ ?_
              rintro _ ⟨A6, n6, c6, rfl, h6⟩
              refine Fin2.is_ ?_
              refine Fin2.step_ ?_
              rintro _ ⟨A7, n7, c7, rfl, h7⟩
              refine Fin2.step_ ?_
              rintro _ ⟨A7, n7, c7, rfl, h7⟩
              refine Fin2.nil_ ?_
              go_simp
              have l7 : n7 ≤ p + 27 := by
                have := varl_length x1.toNat
                have := varl_length x3.toNat
                have := varl_length 0
                rw [← h7.len, List.length_append, List.length_append, List.length_append, hbG3.len]
                omega
              have gx3 := hx3.trans h1
              replace p1 := h1.cell p1
              obtain ⟨wm, rfl⟩ : ∃ q, q = w1 := ⟨_, rfl⟩
              have hsz3 := hx3.size
              have hsz2 := gx2.size
              go_wp2_with fail
              refine (bits_Text A7 n7 c7 _ x2 _ h7.sl (by omega) (by omega)).mono ?_
              rintro e w8 ⟨A8, n8, c8, rfl, h8, hx8⟩
              have HH : Hid (varsL [h1v, h2, h3, h4, nx, sq, (n : Int)] ++ mksBs (xs.take (k + 1)) = G ++ varl x1.toNat ++ varl x3.toNat ++ varl 0 ++ varl x2.size ++ x2.data.toList) := by
                unfold Hid
                rw [HNX.out, HP.out]
                simp [goneI]
              have hl8 : n8 ≤ 63 + 49 * (k + 1) := by
                have := varl_length x1.toNat
                have := varl_length x3.toNat
                have := varl_length 0
                have := varl_length x2.size
                have h9 := size_list x2
                have h8l := h8.len
                simp only [List.length_append, hbG3.len, h9] at h8l
                omega
              have hm8 := h1.size
              clear HNX HP h7
              go_wp2_with fail
              go_roundw
              case rel => exact ⟨k + 1, A8, n8, c8, _, by omega, rfl, by go_num, h8.low (by omega), HH, hl8, gx3.trans hx8⟩
              case measure => simp [intOf]; omega
            | true =>
              skip
              have hp2 : p ≤ 2000 := by omega
              obtain ⟨w3, hw3⟩ : ∃ q, q = wr.alloc (.cells #[.int .i64 x1, .string x2, .int .i64 x3, .bool true] TMk) := ⟨_, rfl⟩
              have hx3 : Ext w2 w3 := by rw [hw3]; exact hxr.allocs _
              have hbG3 : Byt U8 w3 w.heap.size Ab p cb G := by rw [hw3]; exact hbG.ext (Ext.alloc _ _)
              have p0 : w3.cell? ⟨wr.heap.size, 0, none⟩ = some (.int .i64 x1) := by rw [hw3]; exact cell_new _ _ _ 0
              have p1 : w3.cell? ⟨wr.heap.size, 1, none⟩ = some (.string x2) := by rw [hw3]; exact cell_new _ _ _ 1
              have p2 : w3.cell? ⟨wr.heap.size, 2, none⟩ = some (.int .i64 x3) := by rw [hw3]; exact cell_new _ _ _ 2
              have p3 : w3.cell? ⟨wr.heap.size, 3, none⟩ = some (.bool true) := by rw [hw3]; exact cell_new _ _ _ 3
              go_wp2_with fail
              rw [← hw3]
              clear hw3 hbG
              refine wp_region_typed2 (R := But w3.heap.size (fun _ => False)) Ext.steady (But.steady _ _) (fun _ _ => But.of_ext) rfl 64 rfl [0, 0, 2, 7, 0, 16, 63, 0, 255, 511] 0 (by kernel_rfl) ?_
              -- 0: Op.move t4
              apply Stage2.step (Is _) true [] true false (Is.keeps _) (fun _ => Is.keeps _) (by kernel_rfl)
              · intro w1 h1
                have h1 : Ext _ w1 := h1
                simp only [List.nil_append, List.cons_append, List.map_cons, List.map_nil, Given]
                go_wp2_with fail
                exact Post.isv (Ext.refl _) rfl rfl rfl
              -- 1: Op.fieldAddr 48 t8 0
              apply Stage2.step (Is _) true [] true false (Is.keeps _) (fun _ => Is.keeps _) (by kernel_rfl)
              · intro w1 h1
                have h1 : Ext _ w1 := h1
                simp only [List.nil_append, List.cons_append, List.map_cons, List.map_nil, Given]
                go_wp2_with fail
                exact Post.isv (Ext.refl _) rfl rfl rfl
              -- 2: Op.load 3 t49
              apply Stage2.step (Is (.int .i64 x1)) true [false, true] true false (Is.keeps _) (fun _ => Is.keeps _) (by kernel_rfl)
              · intro w1 h1
                have h1 : Ext _ w1 := h1
                simp only [List.nil_append, List.cons_append, List.map_cons, List.map_nil, Sp.pr, Given]
                rintro _ rfl
                have q0 := h1.cell p0
                go_wp2_with fail
                exact Post.isv (Ext.refl _) rfl rfl rfl
              -- 3: Op.call { value (Operand.func 43), args := #[t48, t50], argTypes := #[23, 3] }
              apply Stage2.step (BytT U8 w3.heap.size (G ++ varl x1.toNat)) false [true, false, true] true false (BytT.keeps _ _ _) (no_keeps) (by kernel_rfl)
              · intro w1 h1
                have h1 : Ext _ w1 := h1
                simp only [List.nil_append, List.cons_append, List.map_cons, List.map_nil, Sp.pr, Given]
                rintro _ rfl
                rintro _ rfl
                go_wp2_with fail
                refine (bits_Var Ab p cb G x1 _ (hbG3.sl.ext h1) (by omega) HF.out.1.2).mono ?_
                rintro e w2 ⟨A5, n5, c5, rfl, h5, hx5⟩
                go_wp2_with fail
                exact ⟨rfl, rfl, hx5, _, _, _, rfl, h5.low h1.size⟩
              -- 4: Op.fieldAddr 48 t8 2
              apply Stage2.step (Is _) true [] true false (Is.keeps _) (fun _ => Is.keeps _) (by kernel_rfl)
              · intro w1 h1
                have h1 : Ext _ w1 := h1
                simp only [List.nil_append, List.cons_append, List.map_cons, List.map_nil, Given]
                go_wp2_with fail
                exact Post.isv (Ext.refl _) rfl rfl rfl
              -- 5: Op.load 3 t52
              apply Stage2.step (Is (.int .i64 x3)) true [false, false, false, false, true] true false (Is.keeps _) (fun _ => Is.keeps _) (by kernel_rfl)
              · intro w1 h1
                have h1 : Ext _ w1 := h1
                simp only [List.nil_append, List.cons_append, List.map_cons, List.map_nil, Sp.pr, Given]
                rintro _ rfl
                have q0 := h1.cell p2
                go_wp2_with fail
                exact Post.isv (Ext.refl _) rfl rfl rfl
              -- 6: Op.call { value (Operand.func 43), args := #[t51, t53], argTypes := #[23, 3] }
              apply Stage2.step (BytT U8 w3.heap.size (G ++ varl x1.toNat ++ varl x3.toNat)) false [false, false, false, true, false, true] true false (BytT.keeps _ _ _) (no_keeps) (by kernel_rfl)
              · intro w1 h1
                have h1 : Ext _ w1 := h1
                simp only [List.nil_append, List.cons_append, List.map_cons, List.map_nil, Sp.pr, Given]
                rintro _ ⟨A5, n5, c5, rfl, h5⟩
                rintro _ rfl
                have l5 : n5 ≤ p + 9 := by
                  have := varl_length x1.toNat
                  rw [← h5.len, List.length_append, hbG3.len]
                  omega
                go_wp2_with fail
                refine (bits_Var A5 n5 c5 _ x3 _ h5.sl (by omega) HF.out.2.1.2).mono ?_
                rintro e w2 ⟨A6, n6, c6, rfl, h6, hx6⟩
                go_wp2_with fail
                exact ⟨rfl, rfl, hx6, _, _, _, rfl, h6.low h1.size⟩
              -- 7: Op.move t9
              apply Stage2.step (Is _) true [] true false (Is.keeps _) (fun _ => Is.keeps _) (by kernel_rfl)
              · intro w1 h1
                have h1 : Ext _ w1 := h1
                simp only [List.nil_append, List.cons_append, List.map_cons, List.map_nil, Given]
                go_wp2_with fail
                exact Post.isv (Ext.refl _) rfl rfl rfl
              -- 8: Op.call { value (Operand.func 43), args := #[t54, t55], argTypes := #[23, 3] }
              apply Stage2.step (BytT U8 w3.heap.size (G ++ varl x1.toNat ++ varl x3.toNat ++ varl 1)) false [false, false, false, false, false, false, true, true] true false (BytT.keeps _ _ _) (no_keeps) (by kernel_rfl)
              · intro w1 h1
                have h1 : Ext _ w1 := h1
                simp only [List.nil_append, List.cons_append, List.map_cons, List.map_nil, Sp.pr, Given]
                rintro _ ⟨A6, n6, c6, rfl, h6⟩
                rintro _ rfl
                have l6 : n6 ≤ p + 18 := by
                  have := varl_length x1.toNat
                  have := varl_length x3.toNat
                  rw [← h6.len, List.length_append, List.length_append, hbG3.len]
                  omega
                go_wp2_with fail
                refine (bits_Var A6 n6 c6 _ 1 _ h6.sl (by omega) (by omega)).mono ?_
                rintro e w2 ⟨A7, n7, c7, rfl, h7, hx7⟩
                go_wp2_with fail
                exact ⟨rfl, rfl, hx7, _, _, _, rfl, h7.low h1.size⟩
              -- 9: Op.assign t56
              apply Stage2.step (BytT U8 w3.heap.size (G ++ varl x1.toNat ++ varl x3.toNat ++ varl 1)) false [false, false, false, false, false, false, false, false, true] true false (BytT.keeps _ _ _) (no_keeps) (by kernel_rfl)
              · intro w1 h1
                have h1 : Ext _ w1 := h1
                simp only [List.nil_append, List.cons_append, List.map_cons, List.map_nil, Sp.pr, Given]
                rintro v hcp
                go_wp2_with fail
                exact ⟨rfl, rfl, Ext.refl _, hcp⟩
              apply Stage2.nil [true, true, true, true, true, true, true, true, true, true] (by kernel_rfl)
              intro w1 h1
              have h1 : (Ext) _ w1 := h1
              simp only [List.nil_append, List.cons_append, List.map_cons, List.map_nil, Sp.pr]
              refine Fin2.is_ ?_
              refine Fin2.is_ ?_
              refine Fin2.is_ ?_
              refine Fin2.step_ ?_
              rintro _ ⟨A5, n5, c5, rfl, h5⟩
              refine Fin2.is_ ?_
              refine Fin2.is_ ?_
              refine Fin2.step_ ?_
              rintro _ ⟨A6, n6, c6, rfl, h6⟩
              refine Fin2.is_ ?_
              refine Fin2.step_ ?_
              rintro _ ⟨A7, n7, c7, rfl, h7⟩
              refine Fin2.step_ ?_
              rintro _ ⟨A7, n7, c7, rfl, h7⟩
              refine Fin2.nil_ ?_
              go_simp
              have l7 : n7 ≤ p + 27 := by
                have := varl_length x1.toNat
                have := varl_length x3.toNat
                have := varl_length 1
                rw [← h7.len, List.length_append, List.length_append, List.length_append, hbG3.len]
                omega
              have gx3 := hx3.trans h1
              replace p1 := h1.cell p1
              obtain ⟨wm, rfl⟩ : ∃ q, q = w1 := ⟨_, rfl⟩
              have hsz3 := hx3.size
              have hsz2 := gx2.size
              go_wp2_with fail
              refine (bits_Text A7 n7 c7 _ x2 _ h7.sl (by omega) (by omega)).mono ?_
              rintro e w8 ⟨A8, n8, c8, rfl, h8, hx8⟩
              have HH : Hid (varsL [h1v, h2, h3, h4, nx, sq, (n : Int)] ++ mksBs (xs.take (k + 1)) = G ++ varl x1.toNat ++ varl x3.toNat ++ varl 1 ++ varl x2.size ++ x2.data.toList) := by
                unfold Hid
                rw [HNX.out, HP.out]
                simp [goneI]
              have hl8 : n8 ≤ 63 + 49 * (k + 1) := by
                have := varl_length x1.toNat
                have := varl_length x3.toNat
                have := varl_length 1
                have := varl_length x2.size
                have h9 := size_list x2
                have h8l := h8.len
                simp only [List.length_append, hbG3.len, h9] at h8l
                omega
              have hm8 := h1.size
              clear HNX HP h7
              go_wp2_with fail
              go_roundw
              case rel => exact ⟨k + 1, A8, n8, c8, _, by omega, rfl, by go_num, h8.low (by omega), HH, hl8, gx3.trans hx8⟩
              case measure => simp [intOf]; omega
          · obtain rfl : k = n := by omega
            have hG1 := hG.out
            rw [List.take_of_length_le (by rw [HLEN.out]; exact Nat.le_refl _)] at hG1
            have HB : Hid (bodyH ⟨h1v, h2, h3, h4, nx, sq, xs⟩ = G) := by
              unfold Hid bodyH
              simp only [hdNs]
              rw [← hG1, HLEN.out]
              simp [varsL]
            have HL2 : Hid (put G (crcOf G) 4 = L) := by
              unfold Hid
              rw [← HL.out, ← HB.out]
              rfl
            clear hG1 hG HL HB
            go_wp2_with fail
            refine (crc_Seal Ab p cb G _ hbG.sl (by omega)).mono ?_
            rintro e w5 ⟨A5, c5, rfl, h5, hx5⟩
            rw [HL2.out] at h5
            go_wp2_with fail
            go_ret2
            exact ⟨_, _, _, rfl, h5.low (gx2.trans hxr).size, (gx2.trans hxr).trans hx5⟩
end Go.Proofs.Ytoeknbogaclfdaa
