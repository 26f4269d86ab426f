/-
  Chapter 11: the statement ScanWhole, walked.
-/
import Derived.Test.YtcchlkialgjamaaScanLaw
import Derived.Test.YtcchlkialgjamaaScanRows
import Derived.Test.YtcchlkialgjamaaDealt2
import Derived.Test.YtcchlkialgjamaaMask
namespace Go.Proofs.Ytcchlkialgjamaa
open Go.RowKit
set_option linter.unusedVariables false
set_option linter.unusedSimpArgs false
set_option linter.unnecessarySimpa false
set_option maxRecDepth 100000

theorem shortW_few {rows : List (List UInt8)} (h : fewB rows = true) : ShortF rows := fun r hr => by have := (fewB_iff.1 h).1 r hr; omega
theorem shortW_rows {N : Nat} {ds : List (List UInt8)} {s : Int} (h : ds.length ≤ 100) : ShortF (rowsOf N (ensF s ds)) := fun r hr => by
  obtain ⟨j, hj⟩ := List.getElem?_of_mem hr
  have := rowsOf_small hj ensF_small
  rw [ensF_len] at this
  omega
set_option maxHeartbeats 4000000 in
theorem law_ScanWhole (A : Option Addr) (n c : Nat) (data : List (List UInt8)) (a1 a2 a3 : Int) (w : World) (hl : Lst 1 blR w A n c data) :
    Calls Try.prog 9 #[.slice A n c, .int .i64 a1, .int .i64 a2, .int .i64 a3] w fun e w' => e = .returned (.bool true) ∧ Ext w w' := by
  have h63 := hl.n63
  obtain ⟨res, hres⟩ : ∃ q, fewB data = q := ⟨_, rfl⟩
  have HR := Lib.hid hres
  cases res with
  | false =>
    clear hres
    go_enter Try.func9, Try.ntmps9
    go_wp2_with fail
    refine (law11_few hl HR).mono ?_
    rintro e w1 ⟨rfl, hx1⟩
    go_wp2_with fail
    refine (law11_known w1).mono ?_
    rintro e w2 ⟨rfl, hx2⟩
    go_wp2_with fail
    go_ret
    exact ⟨rfl, hx1.trans hx2⟩
  | true =>
    have hn : n ≤ 40 := by have := (fewB_iff.1 hres).2.1; rw [hl.len] at this; exact this
    have hdl := hl.len
    obtain ⟨s0, hs0, hs0b⟩ : ∃ p : Nat, bits BinOp.and IntKind.i64 a1 65535 = (p : Int) ∧ p ≤ 65535 := ⟨(a1 % 65536).toNat, by rw [and65535]; omega, by omega⟩
    obtain ⟨N0, hN0, hN0b⟩ : ∃ p : Nat, bits BinOp.and IntKind.i64 a2 3 = (p : Int) ∧ p ≤ 3 := ⟨(a2 % 4).toNat, by rw [and3]; omega, by omega⟩
    obtain ⟨k0, hk0, hk0b⟩ : ∃ p : Nat, bits BinOp.and IntKind.i64 a3 255 = (p : Int) ∧ p ≤ 255 := ⟨(a3 % 256).toNat, by rw [and255]; omega, by omega⟩
    obtain ⟨s, hs⟩ : ∃ s, s = s0 + 1 := ⟨_, rfl⟩
    obtain ⟨N, hN⟩ : ∃ N, N = N0 + 1 := ⟨_, rfl⟩
    have hs1 : 1 + (s0 : Int) = (s : Int) := by omega
    have hN1 : 1 + (N0 : Int) = (N : Int) := by omega
    have hsb : 1 ≤ s ∧ s ≤ 65536 := by omega
    have hNb : 1 ≤ N ∧ N ≤ 4 := by omega
    obtain ⟨k, hk, hkn⟩ : ∃ k : Nat, (k0 : Int) % ((n : Int) + 1) = (k : Int) ∧ k ≤ n := ⟨k0 % (n + 1), by simp, by have := Nat.mod_lt k0 (show n + 1 > 0 by omega); omega⟩
    have hM := whole_merge (ds := data) (s := (s : Int)) (N := N) (k := k) (by omega) (by omega) (by omega) (by omega) (by omega)
    have hT := whole_torn (ds := data) (s := (s : Int)) (N := N) (by omega) (by omega) (by omega) (by omega)
    have hF : 0 < data.length → firstL (rowsOf N (ensF (s : Int) data)) = (s : Int) := fun h => whole_first (by omega) (by omega) (by omega) (by omega) h
    have hSH := shortW_rows (N := N) (ds := data) (s := (s : Int)) (by omega)
    have hget := ensF_get data (s : Int)
    obtain ⟨ds, hds⟩ : ∃ q, (ensF (s : Int) data).drop k = q := ⟨_, rfl⟩
    have hdsl : ds.length = n - k := by rw [← hds, List.length_drop, ensF_len, hdl]
    have hdsg : Hid (∀ (i : Nat) (d : List UInt8), data[k + i]? = some d → ds[i]? = some ⟨3, (s : Int) + (k : Nat) + (i : Nat), pay d⟩) := fun i d hd => by
      rw [← hds, List.getElem?_drop, hget _ _ hd]
      congr 2
      omega
    rw [hds] at hM
    rw [hdl] at hT hF
    obtain ⟨RR, hRR⟩ : ∃ q, rowsOf N (ensF (s : Int) data) = q := ⟨_, rfl⟩
    rw [hRR] at hM hT hF hSH
    have HRR := Lib.hid hRR
    have HM := Lib.hid hM
    have HT := Lib.hid hT
    have HF := Lib.hid hF
    have HSH := Lib.hid hSH
    clear hres hget hds hM hT hF hSH hRR hs hN hdl
    go_enter Try.func9, Try.ntmps9
    go_wp2_with fail
    refine (law11_few hl HR).mono ?_
    rintro e w1 ⟨rfl, hx1⟩
    clear HR
    go_wp2_with fail
    refine (law11_Rows (N := N) (s := s) (hl.ext bl_rep hx1) hn hsb.1 (by omega) hNb.1 hNb.2).mono ?_
    rintro e w2 ⟨g, V, rfl, hrw, hx2⟩
    rw [HRR.out] at hrw
    have hlr := hrw.lst (by simp only [maxLen]; omega)
    have gx2 := hx1.trans hx2
    clear hrw HRR hs0 hN0 hs1 hN1
    go_wp2_with fail
    have hcl := scan_Merge hlr (s := (s : Int) + (k : Nat)) (by omega) HSH.out (by omega)
    rw [HM.out] at hcl
    refine hcl.mono ?_
    rintro e w3 ⟨A3, n3, c3, rfl, hown, hx3⟩
    clear hcl HM
    obtain rfl : n3 = n - k := by rw [← hown.len]; exact hdsl
    obtain ⟨m, hm⟩ : ∃ m, n - k = m := ⟨_, rfl⟩
    have hmI : (n : Int) - (k : Int) = (m : Int) := by omega
    rw [hm] at hown hdsl ⊢
    have hmk : k + m = n := by omega
    have hle := hown.lst
    have gx3 := gx2.trans hx3
    clear hown hm
    go_wp2_with fail
    have hlk := hl.ext bl_rep gx3
    go_loopw [12] (fun i wr => ∃ (i2 : Nat), i2 ≤ m ∧ i = .int .i64 i2 ∧ Ext w3 wr) (fun i _ => m - (intOf i).toNat)
    case atStart => exact ⟨0, by omega, rfl, Ext.refl _⟩
    case round =>
      obtain ⟨i2, hi2, rfl, hxr⟩ := hrel
      by_cases hlt : i2 < m
      · obtain ⟨ga, oa, d, Ad, nd, cd, rfl, hd, a0, hsl⟩ := row_at hlk (i := k + i2) (by omega)
        obtain ⟨gb, ob, x, cs, rfl, hx, ⟨Aa, na, ca, rfl, sa0⟩, ha⟩ := hle.at2 en_rep (by omega) hlt
        have hxe := hdsg.out i2 d hd
        rw [hx] at hxe
        injection hxe with hxe
        subst hxe
        replace a0 := hxr.cell a0
        replace hsl := hsl.ext hxr
        have b0 : wr.cell? ⟨gb, ob + i2 * 3, none⟩ = _ := hxr.cell (ha 0 _ rfl)
        have b1 := hxr.cell (ha 1 _ rfl)
        have b2 := hxr.cell (ha 2 _ rfl)
        replace sa0 := sa0.ext hxr
        simp only at b0 b1 b2 sa0
        have hnd := hsl.n63
        have hidx : (k : Int) + (i2 : Int) = ((k + i2 : Nat) : Int) := by omega
        obtain ⟨q, hq⟩ : ∃ q, k + i2 = q := ⟨_, rfl⟩
        have hqn : q < n := by omega
        rw [hq] at hidx a0
        have hsum : (s : Int) + (k : Int) + (i2 : Int) ≤ 100000 := by omega
        obtain ⟨D, hD⟩ : ∃ D, pay d = D := ⟨_, rfl⟩
        rw [hD] at sa0
        by_cases hd0 : d = []
        · have hnd0 : nd = 0 := by rw [← hsl.len, hd0]; rfl
          have hp : D = [0] := by rw [← hD]; unfold pay; rw [if_pos hd0]
          subst hnd0 hp
          have s0' : Sl (wr.alloc (.cells #[.int .u8 0] U8)) (some ⟨wr.heap.size, 0, none⟩) 1 1 [0] := sl_new wr _ _ _ [0] rfl (by simp [maxLen])
          have gx := Ext.alloc wr (.cells #[.int .u8 0] U8)
          replace b0 := gx.cell b0
          replace b1 := gx.cell b1
          replace b2 := gx.cell b2
          have sa5 := sa0.ext gx
          have gx5 := hxr.trans gx
          clear hd hd0 hsl hx ha hD hdsg hq sa0 gx
          go_wp2_with fail
          obtain ⟨w5, hw5⟩ : ∃ w5, wr.alloc (.cells #[.int .u8 0] U8) = w5 := ⟨_, rfl⟩
          rw [hw5] at b0 b1 b2 sa5 s0' gx5 ⊢
          obtain ⟨g5, hg5⟩ : ∃ g5, wr.heap.size = g5 := ⟨_, rfl⟩
          rw [hg5] at s0' ⊢
          clear hw5 hg5 a0
          refine wp_region_typed Ext.steady rfl 117 rfl (by kernel_rfl) ?_
          -- 0: Op.move t11
          apply Stage.step (Is _) [] (Is.keeps _) (by kernel_rfl)
          · intro w1 h1
            simp only [Given]
            go_wp2_with fail
            exact Post.isv (Ext.refl _) rfl rfl rfl
          -- 1: Op.move t12
          apply Stage.step (Is _) [] (Is.keeps _) (by kernel_rfl)
          · intro w1 h1
            simp only [Given]
            go_wp2_with fail
            exact Post.isv (Ext.refl _) rfl rfl rfl
          -- 2: Op.indexAddr 32 t62 t63
          apply Stage.step (Is _) [true, true] (Is.keeps _) (by kernel_rfl)
          · intro w1 h1
            simp only [List.nil_append, List.cons_append, Given]
            rintro _ rfl
            rintro _ rfl
            go_wp2_with fail
            exact Post.isv (Ext.refl _) rfl rfl rfl
          -- 3: Op.fieldAddr 24 t64 1
          apply Stage.step (Is _) [false, false, true] (Is.keeps _) (by kernel_rfl)
          · intro w1 h1
            simp only [List.nil_append, List.cons_append, Given]
            rintro _ rfl
            go_wp2_with fail
            exact Post.isv (Ext.refl _) rfl rfl rfl
          -- 4: Op.load 3 t65
          apply Stage.step (Is _) [false, false, false, true] (Is.keeps _) (by kernel_rfl)
          · intro w1 h1
            simp only [List.nil_append, List.cons_append, Given]
            rintro _ rfl
            have hq := h1.cell b1
            go_wp2_with fail
            exact Post.isv (Ext.refl _) rfl rfl rfl
          -- 5: Op.move t1
          apply Stage.step (Is _) [] (Is.keeps _) (by kernel_rfl)
          · intro w1 h1
            simp only [Given]
            go_wp2_with fail
            exact Post.isv (Ext.refl _) rfl rfl rfl
          -- 6: Op.move t10
          apply Stage.step (Is _) [] (Is.keeps _) (by kernel_rfl)
          · intro w1 h1
            simp only [Given]
            go_wp2_with fail
            exact Post.isv (Ext.refl _) rfl rfl rfl
          -- 7: Op.binOp BinOp.add 3 t67 t68 3
          apply Stage.step (Is _) [false, false, false, false, false, true, true] (Is.keeps _) (by kernel_rfl)
          · intro w1 h1
            simp only [List.nil_append, List.cons_append, Given]
            rintro _ rfl
            rintro _ rfl
            go_wp2_with fail
            exact Post.isv (Ext.refl _) rfl rfl rfl
          -- 8: Op.move t12
          apply Stage.step (Is _) [] (Is.keeps _) (by kernel_rfl)
          · intro w1 h1
            simp only [Given]
            go_wp2_with fail
            exact Post.isv (Ext.refl _) rfl rfl rfl
          -- 9: Op.binOp BinOp.add 3 t69 t70 3
          apply Stage.step (Is _) [false, false, false, false, false, false, false, true, true] (Is.keeps _) (by kernel_rfl)
          · intro w1 h1
            simp only [List.nil_append, List.cons_append, Given]
            rintro _ rfl
            rintro _ rfl
            go_wp2_with fail
            exact Post.isv (Ext.refl _) rfl rfl rfl
          -- 10: Op.binOp BinOp.neq 3 t66 t71 3
          apply Stage.step (Is _) [false, false, false, false, true, false, false, false, false, true] (Is.keeps _) (by kernel_rfl)
          · intro w1 h1
            simp only [List.nil_append, List.cons_append, Given]
            rintro _ rfl
            rintro _ rfl
            go_wp2_with fail
            exact Post.isv (Ext.refl _) rfl rfl rfl
          -- 11: Op.move t72
          apply Stage.step (Is _) [false, false, false, false, false, false, false, false, false, false, true] (Is.keeps _) (by kernel_rfl)
          · intro w1 h1
            simp only [List.nil_append, List.cons_append, Given]
            rintro _ rfl
            go_wp2_with fail
            exact Post.isv (Ext.refl _) rfl rfl rfl
          -- 12: Op.move t11   [guarded: some (11, false)]
          apply Stage.step (Is _) [false, false, false, false, false, false, false, false, false, false, false, true] (Is.keeps _) (by kernel_rfl)
          · intro w1 h1
            simp only [List.nil_append, List.cons_append, Given]
            rintro _ rfl
            go_wp2_with fail
            exact Post.isv (Ext.refl _) rfl rfl rfl
          -- 13: Op.move t12   [guarded: some (11, false)]
          apply Stage.step (Is _) [false, false, false, false, false, false, false, false, false, false, false, true] (Is.keeps _) (by kernel_rfl)
          · intro w1 h1
            simp only [List.nil_append, List.cons_append, Given]
            rintro _ rfl
            go_wp2_with fail
            exact Post.isv (Ext.refl _) rfl rfl rfl
          -- 14: Op.indexAddr 32 t74 t75   [guarded: some (11, false)]
          apply Stage.step (Is _) [false, false, false, false, false, false, false, false, false, false, false, true, true, true] (Is.keeps _) (by kernel_rfl)
          · intro w1 h1
            simp only [List.nil_append, List.cons_append, Given]
            rintro _ rfl
            rintro _ rfl
            rintro _ rfl
            go_wp2_with fail
            exact Post.isv (Ext.refl _) rfl rfl rfl
          -- 15: Op.fieldAddr 24 t76 0   [guarded: some (11, false)]
          apply Stage.step (Is _) [false, false, false, false, false, false, false, false, false, false, false, true, false, false, true] (Is.keeps _) (by kernel_rfl)
          · intro w1 h1
            simp only [List.nil_append, List.cons_append, Given]
            rintro _ rfl
            rintro _ rfl
            go_wp2_with fail
            exact Post.isv (Ext.refl _) rfl rfl rfl
          -- 16: Op.load 3 t77   [guarded: some (11, false)]
          apply Stage.step (Is _) [false, false, false, false, false, false, false, false, false, false, false, true, false, false, false, true] (Is.keeps _) (by kernel_rfl)
          · intro w1 h1
            simp only [List.nil_append, List.cons_append, Given]
            rintro _ rfl
            rintro _ rfl
            have hq := h1.cell b0
            go_wp2_with fail
            exact Post.isv (Ext.refl _) rfl rfl rfl
          -- 17: Op.binOp BinOp.neq 3 t78 (const (3:i64)) 3   [guarded: some (11, false)]
          apply Stage.step (Is _) [false, false, false, false, false, false, false, false, false, false, false, true, false, false, false, false, true] (Is.keeps _) (by kernel_rfl)
          · intro w1 h1
            simp only [List.nil_append, List.cons_append, Given]
            rintro _ rfl
            rintro _ rfl
            go_wp2_with fail
            exact Post.isv (Ext.refl _) rfl rfl rfl
          -- 18: Op.pick t73 (const (Value.bool true)) t79
          apply Stage.step (Is _) [false, false, false, false, false, false, false, false, false, false, false, true, false, false, false, false, false, true] (Is.keeps _) (by kernel_rfl)
          · intro w1 h1
            simp only [List.nil_append, List.cons_append, Given]
            rintro _ rfl
            rintro _ rfl
            go_wp2_with fail
            exact Post.isv (Ext.refl _) rfl rfl rfl
          -- 19: Op.move t80
          apply Stage.step (Is _) [false, false, false, false, false, false, false, false, false, false, false, false, false, false, false, false, false, false, true] (Is.keeps _) (by kernel_rfl)
          · intro w1 h1
            simp only [List.nil_append, List.cons_append, Given]
            rintro _ rfl
            go_wp2_with fail
            exact Post.isv (Ext.refl _) rfl rfl rfl
          -- 20: Op.move t11   [guarded: some (19, false)]
          apply Stage.step (Is _) [false, false, false, false, false, false, false, false, false, false, false, false, false, false, false, false, false, false, false, true] (Is.keeps _) (by kernel_rfl)
          · intro w1 h1
            simp only [List.nil_append, List.cons_append, Given]
            rintro _ rfl
            go_wp2_with fail
            exact Post.isv (Ext.refl _) rfl rfl rfl
          -- 21: Op.move t12   [guarded: some (19, false)]
          apply Stage.step (Is _) [false, false, false, false, false, false, false, false, false, false, false, false, false, false, false, false, false, false, false, true] (Is.keeps _) (by kernel_rfl)
          · intro w1 h1
            simp only [List.nil_append, List.cons_append, Given]
            rintro _ rfl
            go_wp2_with fail
            exact Post.isv (Ext.refl _) rfl rfl rfl
          -- 22: Op.indexAddr 32 t82 t83   [guarded: some (19, false)]
          apply Stage.step (Is _) [false, false, false, false, false, false, false, false, false, false, false, false, false, false, false, false, false, false, false, true, true, true] (Is.keeps _) (by kernel_rfl)
          · intro w1 h1
            simp only [List.nil_append, List.cons_append, Given]
            rintro _ rfl
            rintro _ rfl
            rintro _ rfl
            go_wp2_with fail
            exact Post.isv (Ext.refl _) rfl rfl rfl
          -- 23: Op.fieldAddr 24 t84 2   [guarded: some (19, false)]
          apply Stage.step (Is _) [false, false, false, false, false, false, false, false, false, false, false, false, false, false, false, false, false, false, false, true, false, false, true] (Is.keeps _) (by kernel_rfl)
          · intro w1 h1
            simp only [List.nil_append, List.cons_append, Given]
            rintro _ rfl
            rintro _ rfl
            go_wp2_with fail
            exact Post.isv (Ext.refl _) rfl rfl rfl
          -- 24: Op.load 22 t85   [guarded: some (19, false)]
          apply Stage.step (Is _) [false, false, false, false, false, false, false, false, false, false, false, false, false, false, false, false, false, false, false, true, false, false, false, true] (Is.keeps _) (by kernel_rfl)
          · intro w1 h1
            simp only [List.nil_append, List.cons_append, Given]
            rintro _ rfl
            rintro _ rfl
            have hq := h1.cell b2
            go_wp2_with fail
            exact Post.isv (Ext.refl _) rfl rfl rfl
          -- 25: Op.convert 22 9 t86   [guarded: some (19, false)]
          apply Stage.step (Is _) [false, false, false, false, false, false, false, false, false, false, false, false, false, false, false, false, false, false, false, true, false, false, false, false, true] (Is.keeps _) (by kernel_rfl)
          · intro w1 h1
            simp only [List.nil_append, List.cons_append, Given]
            rintro _ rfl
            rintro _ rfl
            have ht := run_text_u8 (sa5.ext h1)
            go_wp2_with fail
            exact Post.isv (Ext.refl _) rfl rfl rfl
          -- 26: Op.move t13   [guarded: some (19, false)]
          apply Stage.step (Is _) [false, false, false, false, false, false, false, false, false, false, false, false, false, false, false, false, false, false, false, true] (Is.keeps _) (by kernel_rfl)
          · intro w1 h1
            simp only [List.nil_append, List.cons_append, Given]
            rintro _ rfl
            go_wp2_with fail
            exact Post.isv (Ext.refl _) rfl rfl rfl
          -- 27: Op.move t13   [guarded: some (19, false)]
          apply Stage.step (Is _) [false, false, false, false, false, false, false, false, false, false, false, false, false, false, false, false, false, false, false, true] (Is.keeps _) (by kernel_rfl)
          · intro w1 h1
            simp only [List.nil_append, List.cons_append, Given]
            rintro _ rfl
            go_wp2_with fail
            exact Post.isv (Ext.refl _) rfl rfl rfl
          -- 28: Op.call { builtin len, args := #[t89], argTypes := #[22] }   [guarded: some (19, false)]
          apply Stage.step (Is _) [false, false, false, false, false, false, false, false, false, false, false, false, false, false, false, false, false, false, false, true, false, false, false, false, false, false, false, true] (Is.keeps _) (by kernel_rfl)
          · intro w1 h1
            simp only [List.nil_append, List.cons_append, Given]
            rintro _ rfl
            rintro _ rfl
            go_wp2_with fail
            exact Post.isv (Ext.refl _) rfl rfl rfl
          -- 29: Op.call { builtin min, args := #[t90, const (40:i64)], argTypes := #[3, 3] }   [guarded: some (19, f
          apply Stage.step (Is _) [false, false, false, false, false, false, false, false, false, false, false, false, false, false, false, false, false, false, false, true, false, false, false, false, false, false, false, false, true] (Is.keeps _) (by kernel_rfl)
          · intro w1 h1
            simp only [List.nil_append, List.cons_append, Given]
            rintro _ rfl
            rintro _ rfl
            go_wp2_with fail
            exact Post.isv (Ext.refl _) rfl rfl rfl
          -- 30: Op.slice 22 t88 none (some t91) none   [guarded: some (19, false)]
          apply Stage.step (Is _) [false, false, false, false, false, false, false, false, false, false, false, false, false, false, false, false, false, false, false, true, false, false, false, false, false, false, true, false, false, true] (Is.keeps _) (by kernel_rfl)
          · intro w1 h1
            simp only [List.nil_append, List.cons_append, Given]
            rintro _ rfl
            rintro _ rfl
            rintro _ rfl
            go_wp2_with fail
            exact Post.isv (Ext.refl _) rfl rfl rfl
          -- 31: Op.convert 22 9 t92   [guarded: some (19, false)]
          apply Stage.step (Is _) [false, false, false, false, false, false, false, false, false, false, false, false, false, false, false, false, false, false, false, true, false, false, false, false, false, false, false, false, false, false, true] (Is.keeps _) (by kernel_rfl)
          · intro w1 h1
            simp only [List.nil_append, List.cons_append, Given]
            rintro _ rfl
            rintro _ rfl
            have ht := run_text_u8 (s0'.ext h1)
            go_wp2_with fail
            exact Post.isv (Ext.refl _) rfl rfl rfl
          -- 32: Op.binOp BinOp.neq 9 t87 t93 9   [guarded: some (19, false)]
          apply Stage.step (Is _) [false, false, false, false, false, false, false, false, false, false, false, false, false, false, false, false, false, false, false, true, false, false, false, false, false, true, false, false, false, false, false, true] (Is.keeps _) (by kernel_rfl)
          · intro w1 h1
            simp only [List.nil_append, List.cons_append, Given]
            rintro _ rfl
            rintro _ rfl
            rintro _ rfl
            go_wp2_with fail
            exact Post.isv (Ext.refl _) rfl rfl rfl
          -- 33: Op.pick t81 (const (Value.bool true)) t94
          apply Stage.step (Is _) [false, false, false, false, false, false, false, false, false, false, false, false, false, false, false, false, false, false, false, true, false, false, false, false, false, false, false, false, false, false, false, false, true] (Is.keeps _) (by kernel_rfl)
          · intro w1 h1
            simp only [List.nil_append, List.cons_append, Given]
            rintro _ rfl
            rintro _ rfl
            go_wp2_with fail
            exact Post.isv (Ext.refl _) rfl rfl rfl
          apply Stage.nil
          intro w1 h1
          simp only [List.nil_append, List.cons_append]
          refine Fin.is_ ?_
          refine Fin.is_ ?_
          refine Fin.is_ ?_
          refine Fin.is_ ?_
          refine Fin.is_ ?_
          refine Fin.is_ ?_
          refine Fin.is_ ?_
          refine Fin.is_ ?_
          refine Fin.is_ ?_
          refine Fin.is_ ?_
          refine Fin.is_ ?_
          refine Fin.is_ ?_
          refine Fin.is_ ?_
          refine Fin.is_ ?_
          refine Fin.is_ ?_
          refine Fin.is_ ?_
          refine Fin.is_ ?_
          refine Fin.is_ ?_
          refine Fin.is_ ?_
          refine Fin.is_ ?_
          refine Fin.is_ ?_
          refine Fin.is_ ?_
          refine Fin.is_ ?_
          refine Fin.is_ ?_
          refine Fin.is_ ?_
          refine Fin.is_ ?_
          refine Fin.is_ ?_
          refine Fin.is_ ?_
          refine Fin.is_ ?_
          refine Fin.is_ ?_
          refine Fin.is_ ?_
          refine Fin.is_ ?_
          refine Fin.is_ ?_
          refine Fin.is_ ?_
          refine Fin.nil_ ?_
          go_simp
          obtain ⟨wm, rfl⟩ : ∃ q, q = w1 := ⟨_, rfl⟩
          go_wp2_with fail
          go_roundw
          case rel => exact ⟨i2 + 1, by omega, by go_num, gx5.trans h1⟩
          case measure => simp [intOf]; omega
        · have hnd0 : 0 < nd := by rw [← hsl.len]; exact List.length_pos_iff.2 hd0
          have hp : D = d.take 40 := by rw [← hD]; unfold pay; rw [if_neg hd0]
          have gx5 := hxr
          obtain ⟨w5, rfl⟩ : ∃ q, q = wr := ⟨_, rfl⟩
          have sa5 := sa0
          by_cases h40 : nd ≤ 40
          · obtain ⟨hcut, s0'⟩ := cut_upto hsl nd (nd : Int) rfl (Nat.le_refl _)
            have e40 : d.take nd = D := by rw [hp, List.take_of_length_le (by rw [hsl.len]; exact Nat.le_refl _), List.take_of_length_le (by rw [hsl.len]; exact h40)]
            rw [e40] at s0'
            clear hd hd0 hsl hx ha hD hdsg hq sa0 hp e40
            go_wp2_with fail
            refine wp_region_typed Ext.steady rfl 117 rfl (by kernel_rfl) ?_
            -- 0: Op.move t11
            apply Stage.step (Is _) [] (Is.keeps _) (by kernel_rfl)
            · intro w1 h1
              simp only [Given]
              go_wp2_with fail
              exact Post.isv (Ext.refl _) rfl rfl rfl
            -- 1: Op.move t12
            apply Stage.step (Is _) [] (Is.keeps _) (by kernel_rfl)
            · intro w1 h1
              simp only [Given]
              go_wp2_with fail
              exact Post.isv (Ext.refl _) rfl rfl rfl
            -- 2: Op.indexAddr 32 t62 t63
            apply Stage.step (Is _) [true, true] (Is.keeps _) (by kernel_rfl)
            · intro w1 h1
              simp only [List.nil_append, List.cons_append, Given]
              rintro _ rfl
              rintro _ rfl
              go_wp2_with fail
              exact Post.isv (Ext.refl _) rfl rfl rfl
            -- 3: Op.fieldAddr 24 t64 1
            apply Stage.step (Is _) [false, false, true] (Is.keeps _) (by kernel_rfl)
            · intro w1 h1
              simp only [List.nil_append, List.cons_append, Given]
              rintro _ rfl
              go_wp2_with fail
              exact Post.isv (Ext.refl _) rfl rfl rfl
            -- 4: Op.load 3 t65
            apply Stage.step (Is _) [false, false, false, true] (Is.keeps _) (by kernel_rfl)
            · intro w1 h1
              simp only [List.nil_append, List.cons_append, Given]
              rintro _ rfl
              have hq := h1.cell b1
              go_wp2_with fail
              exact Post.isv (Ext.refl _) rfl rfl rfl
            -- 5: Op.move t1
            apply Stage.step (Is _) [] (Is.keeps _) (by kernel_rfl)
            · intro w1 h1
              simp only [Given]
              go_wp2_with fail
              exact Post.isv (Ext.refl _) rfl rfl rfl
            -- 6: Op.move t10
            apply Stage.step (Is _) [] (Is.keeps _) (by kernel_rfl)
            · intro w1 h1
              simp only [Given]
              go_wp2_with fail
              exact Post.isv (Ext.refl _) rfl rfl rfl
            -- 7: Op.binOp BinOp.add 3 t67 t68 3
            apply Stage.step (Is _) [false, false, false, false, false, true, true] (Is.keeps _) (by kernel_rfl)
            · intro w1 h1
              simp only [List.nil_append, List.cons_append, Given]
              rintro _ rfl
              rintro _ rfl
              go_wp2_with fail
              exact Post.isv (Ext.refl _) rfl rfl rfl
            -- 8: Op.move t12
            apply Stage.step (Is _) [] (Is.keeps _) (by kernel_rfl)
            · intro w1 h1
              simp only [Given]
              go_wp2_with fail
              exact Post.isv (Ext.refl _) rfl rfl rfl
            -- 9: Op.binOp BinOp.add 3 t69 t70 3
            apply Stage.step (Is _) [false, false, false, false, false, false, false, true, true] (Is.keeps _) (by kernel_rfl)
            · intro w1 h1
              simp only [List.nil_append, List.cons_append, Given]
              rintro _ rfl
              rintro _ rfl
              go_wp2_with fail
              exact Post.isv (Ext.refl _) rfl rfl rfl
            -- 10: Op.binOp BinOp.neq 3 t66 t71 3
            apply Stage.step (Is _) [false, false, false, false, true, false, false, false, false, true] (Is.keeps _) (by kernel_rfl)
            · intro w1 h1
              simp only [List.nil_append, List.cons_append, Given]
              rintro _ rfl
              rintro _ rfl
              go_wp2_with fail
              exact Post.isv (Ext.refl _) rfl rfl rfl
            -- 11: Op.move t72
            apply Stage.step (Is _) [false, false, false, false, false, false, false, false, false, false, true] (Is.keeps _) (by kernel_rfl)
            · intro w1 h1
              simp only [List.nil_append, List.cons_append, Given]
              rintro _ rfl
              go_wp2_with fail
              exact Post.isv (Ext.refl _) rfl rfl rfl
            -- 12: Op.move t11   [guarded: some (11, false)]
            apply Stage.step (Is _) [false, false, false, false, false, false, false, false, false, false, false, true] (Is.keeps _) (by kernel_rfl)
            · intro w1 h1
              simp only [List.nil_append, List.cons_append, Given]
              rintro _ rfl
              go_wp2_with fail
              exact Post.isv (Ext.refl _) rfl rfl rfl
            -- 13: Op.move t12   [guarded: some (11, false)]
            apply Stage.step (Is _) [false, false, false, false, false, false, false, false, false, false, false, true] (Is.keeps _) (by kernel_rfl)
            · intro w1 h1
              simp only [List.nil_append, List.cons_append, Given]
              rintro _ rfl
              go_wp2_with fail
              exact Post.isv (Ext.refl _) rfl rfl rfl
            -- 14: Op.indexAddr 32 t74 t75   [guarded: some (11, false)]
            apply Stage.step (Is _) [false, false, false, false, false, false, false, false, false, false, false, true, true, true] (Is.keeps _) (by kernel_rfl)
            · intro w1 h1
              simp only [List.nil_append, List.cons_append, Given]
              rintro _ rfl
              rintro _ rfl
              rintro _ rfl
              go_wp2_with fail
              exact Post.isv (Ext.refl _) rfl rfl rfl
            -- 15: Op.fieldAddr 24 t76 0   [guarded: some (11, false)]
            apply Stage.step (Is _) [false, false, false, false, false, false, false, false, false, false, false, true, false, false, true] (Is.keeps _) (by kernel_rfl)
            · intro w1 h1
              simp only [List.nil_append, List.cons_append, Given]
              rintro _ rfl
              rintro _ rfl
              go_wp2_with fail
              exact Post.isv (Ext.refl _) rfl rfl rfl
            -- 16: Op.load 3 t77   [guarded: some (11, false)]
            apply Stage.step (Is _) [false, false, false, false, false, false, false, false, false, false, false, true, false, false, false, true] (Is.keeps _) (by kernel_rfl)
            · intro w1 h1
              simp only [List.nil_append, List.cons_append, Given]
              rintro _ rfl
              rintro _ rfl
              have hq := h1.cell b0
              go_wp2_with fail
              exact Post.isv (Ext.refl _) rfl rfl rfl
            -- 17: Op.binOp BinOp.neq 3 t78 (const (3:i64)) 3   [guarded: some (11, false)]
            apply Stage.step (Is _) [false, false, false, false, false, false, false, false, false, false, false, true, false, false, false, false, true] (Is.keeps _) (by kernel_rfl)
            · intro w1 h1
              simp only [List.nil_append, List.cons_append, Given]
              rintro _ rfl
              rintro _ rfl
              go_wp2_with fail
              exact Post.isv (Ext.refl _) rfl rfl rfl
            -- 18: Op.pick t73 (const (Value.bool true)) t79
            apply Stage.step (Is _) [false, false, false, false, false, false, false, false, false, false, false, true, false, false, false, false, false, true] (Is.keeps _) (by kernel_rfl)
            · intro w1 h1
              simp only [List.nil_append, List.cons_append, Given]
              rintro _ rfl
              rintro _ rfl
              go_wp2_with fail
              exact Post.isv (Ext.refl _) rfl rfl rfl
            -- 19: Op.move t80
            apply Stage.step (Is _) [false, false, false, false, false, false, false, false, false, false, false, false, false, false, false, false, false, false, true] (Is.keeps _) (by kernel_rfl)
            · intro w1 h1
              simp only [List.nil_append, List.cons_append, Given]
              rintro _ rfl
              go_wp2_with fail
              exact Post.isv (Ext.refl _) rfl rfl rfl
            -- 20: Op.move t11   [guarded: some (19, false)]
            apply Stage.step (Is _) [false, false, false, false, false, false, false, false, false, false, false, false, false, false, false, false, false, false, false, true] (Is.keeps _) (by kernel_rfl)
            · intro w1 h1
              simp only [List.nil_append, List.cons_append, Given]
              rintro _ rfl
              go_wp2_with fail
              exact Post.isv (Ext.refl _) rfl rfl rfl
            -- 21: Op.move t12   [guarded: some (19, false)]
            apply Stage.step (Is _) [false, false, false, false, false, false, false, false, false, false, false, false, false, false, false, false, false, false, false, true] (Is.keeps _) (by kernel_rfl)
            · intro w1 h1
              simp only [List.nil_append, List.cons_append, Given]
              rintro _ rfl
              go_wp2_with fail
              exact Post.isv (Ext.refl _) rfl rfl rfl
            -- 22: Op.indexAddr 32 t82 t83   [guarded: some (19, false)]
            apply Stage.step (Is _) [false, false, false, false, false, false, false, false, false, false, false, false, false, false, false, false, false, false, false, true, true, true] (Is.keeps _) (by kernel_rfl)
            · intro w1 h1
              simp only [List.nil_append, List.cons_append, Given]
              rintro _ rfl
              rintro _ rfl
              rintro _ rfl
              go_wp2_with fail
              exact Post.isv (Ext.refl _) rfl rfl rfl
            -- 23: Op.fieldAddr 24 t84 2   [guarded: some (19, false)]
            apply Stage.step (Is _) [false, false, false, false, false, false, false, false, false, false, false, false, false, false, false, false, false, false, false, true, false, false, true] (Is.keeps _) (by kernel_rfl)
            · intro w1 h1
              simp only [List.nil_append, List.cons_append, Given]
              rintro _ rfl
              rintro _ rfl
              go_wp2_with fail
              exact Post.isv (Ext.refl _) rfl rfl rfl
            -- 24: Op.load 22 t85   [guarded: some (19, false)]
            apply Stage.step (Is _) [false, false, false, false, false, false, false, false, false, false, false, false, false, false, false, false, false, false, false, true, false, false, false, true] (Is.keeps _) (by kernel_rfl)
            · intro w1 h1
              simp only [List.nil_append, List.cons_append, Given]
              rintro _ rfl
              rintro _ rfl
              have hq := h1.cell b2
              go_wp2_with fail
              exact Post.isv (Ext.refl _) rfl rfl rfl
            -- 25: Op.convert 22 9 t86   [guarded: some (19, false)]
            apply Stage.step (Is _) [false, false, false, false, false, false, false, false, false, false, false, false, false, false, false, false, false, false, false, true, false, false, false, false, true] (Is.keeps _) (by kernel_rfl)
            · intro w1 h1
              simp only [List.nil_append, List.cons_append, Given]
              rintro _ rfl
              rintro _ rfl
              have ht := run_text_u8 (sa5.ext h1)
              go_wp2_with fail
              exact Post.isv (Ext.refl _) rfl rfl rfl
            -- 26: Op.move t13   [guarded: some (19, false)]
            apply Stage.step (Is _) [false, false, false, false, false, false, false, false, false, false, false, false, false, false, false, false, false, false, false, true] (Is.keeps _) (by kernel_rfl)
            · intro w1 h1
              simp only [List.nil_append, List.cons_append, Given]
              rintro _ rfl
              go_wp2_with fail
              exact Post.isv (Ext.refl _) rfl rfl rfl
            -- 27: Op.move t13   [guarded: some (19, false)]
            apply Stage.step (Is _) [false, false, false, false, false, false, false, false, false, false, false, false, false, false, false, false, false, false, false, true] (Is.keeps _) (by kernel_rfl)
            · intro w1 h1
              simp only [List.nil_append, List.cons_append, Given]
              rintro _ rfl
              go_wp2_with fail
              exact Post.isv (Ext.refl _) rfl rfl rfl
            -- 28: Op.call { builtin len, args := #[t89], argTypes := #[22] }   [guarded: some (19, false)]
            apply Stage.step (Is _) [false, false, false, false, false, false, false, false, false, false, false, false, false, false, false, false, false, false, false, true, false, false, false, false, false, false, false, true] (Is.keeps _) (by kernel_rfl)
            · intro w1 h1
              simp only [List.nil_append, List.cons_append, Given]
              rintro _ rfl
              rintro _ rfl
              go_wp2_with fail
              exact Post.isv (Ext.refl _) rfl rfl rfl
            -- 29: Op.call { builtin min, args := #[t90, const (40:i64)], argTypes := #[3, 3] }   [guarded: some (19, f
            apply Stage.step (Is _) [false, false, false, false, false, false, false, false, false, false, false, false, false, false, false, false, false, false, false, true, false, false, false, false, false, false, false, false, true] (Is.keeps _) (by kernel_rfl)
            · intro w1 h1
              simp only [List.nil_append, List.cons_append, Given]
              rintro _ rfl
              rintro _ rfl
              go_wp2_with fail
              exact Post.isv (Ext.refl _) rfl rfl rfl
            -- 30: Op.slice 22 t88 none (some t91) none   [guarded: some (19, false)]
            apply Stage.step (Is _) [false, false, false, false, false, false, false, false, false, false, false, false, false, false, false, false, false, false, false, true, false, false, false, false, false, false, true, false, false, true] (Is.keeps _) (by kernel_rfl)
            · intro w1 h1
              simp only [List.nil_append, List.cons_append, Given]
              rintro _ rfl
              rintro _ rfl
              rintro _ rfl
              go_wp2_with fail
              exact Post.isv (Ext.refl _) rfl rfl rfl
            -- 31: Op.convert 22 9 t92   [guarded: some (19, false)]
            apply Stage.step (Is _) [false, false, false, false, false, false, false, false, false, false, false, false, false, false, false, false, false, false, false, true, false, false, false, false, false, false, false, false, false, false, true] (Is.keeps _) (by kernel_rfl)
            · intro w1 h1
              simp only [List.nil_append, List.cons_append, Given]
              rintro _ rfl
              rintro _ rfl
              have ht := run_text_u8 (s0'.ext h1)
              go_wp2_with fail
              exact Post.isv (Ext.refl _) rfl rfl rfl
            -- 32: Op.binOp BinOp.neq 9 t87 t93 9   [guarded: some (19, false)]
            apply Stage.step (Is _) [false, false, false, false, false, false, false, false, false, false, false, false, false, false, false, false, false, false, false, true, false, false, false, false, false, true, false, false, false, false, false, true] (Is.keeps _) (by kernel_rfl)
            · intro w1 h1
              simp only [List.nil_append, List.cons_append, Given]
              rintro _ rfl
              rintro _ rfl
              rintro _ rfl
              go_wp2_with fail
              exact Post.isv (Ext.refl _) rfl rfl rfl
            -- 33: Op.pick t81 (const (Value.bool true)) t94
            apply Stage.step (Is _) [false, false, false, false, false, false, false, false, false, false, false, false, false, false, false, false, false, false, false, true, false, false, false, false, false, false, false, false, false, false, false, false, true] (Is.keeps _) (by kernel_rfl)
            · intro w1 h1
              simp only [List.nil_append, List.cons_append, Given]
              rintro _ rfl
              rintro _ rfl
              go_wp2_with fail
              exact Post.isv (Ext.refl _) rfl rfl rfl
            apply Stage.nil
            intro w1 h1
            simp only [List.nil_append, List.cons_append]
            refine Fin.is_ ?_
            refine Fin.is_ ?_
            refine Fin.is_ ?_
            refine Fin.is_ ?_
            refine Fin.is_ ?_
            refine Fin.is_ ?_
            refine Fin.is_ ?_
            refine Fin.is_ ?_
            refine Fin.is_ ?_
            refine Fin.is_ ?_
            refine Fin.is_ ?_
            refine Fin.is_ ?_
            refine Fin.is_ ?_
            refine Fin.is_ ?_
            refine Fin.is_ ?_
            refine Fin.is_ ?_
            refine Fin.is_ ?_
            refine Fin.is_ ?_
            refine Fin.is_ ?_
            refine Fin.is_ ?_
            refine Fin.is_ ?_
            refine Fin.is_ ?_
            refine Fin.is_ ?_
            refine Fin.is_ ?_
            refine Fin.is_ ?_
            refine Fin.is_ ?_
            refine Fin.is_ ?_
            refine Fin.is_ ?_
            refine Fin.is_ ?_
            refine Fin.is_ ?_
            refine Fin.is_ ?_
            refine Fin.is_ ?_
            refine Fin.is_ ?_
            refine Fin.is_ ?_
            refine Fin.nil_ ?_
            go_simp
            obtain ⟨wm, rfl⟩ : ∃ q, q = w1 := ⟨_, rfl⟩
            go_wp2_with fail
            go_roundw
            case rel => exact ⟨i2 + 1, by omega, by go_num, gx5.trans h1⟩
            case measure => simp [intOf]; omega
          · obtain ⟨hcut, s0'⟩ := cut_upto hsl 40 (40 : Int) rfl (by omega)
            rw [← hp] at s0'
            have hmin : min (nd : Int) 40 = 40 := by omega
            clear hd hd0 hsl hx ha hD hdsg hq sa0 hp
            go_wp2_with fail
            refine wp_region_typed Ext.steady rfl 117 rfl (by kernel_rfl) ?_
            -- 0: Op.move t11
            apply Stage.step (Is _) [] (Is.keeps _) (by kernel_rfl)
            · intro w1 h1
              simp only [Given]
              go_wp2_with fail
              exact Post.isv (Ext.refl _) rfl rfl rfl
            -- 1: Op.move t12
            apply Stage.step (Is _) [] (Is.keeps _) (by kernel_rfl)
            · intro w1 h1
              simp only [Given]
              go_wp2_with fail
              exact Post.isv (Ext.refl _) rfl rfl rfl
            -- 2: Op.indexAddr 32 t62 t63
            apply Stage.step (Is _) [true, true] (Is.keeps _) (by kernel_rfl)
            · intro w1 h1
              simp only [List.nil_append, List.cons_append, Given]
              rintro _ rfl
              rintro _ rfl
              go_wp2_with fail
              exact Post.isv (Ext.refl _) rfl rfl rfl
            -- 3: Op.fieldAddr 24 t64 1
            apply Stage.step (Is _) [false, false, true] (Is.keeps _) (by kernel_rfl)
            · intro w1 h1
              simp only [List.nil_append, List.cons_append, Given]
              rintro _ rfl
              go_wp2_with fail
              exact Post.isv (Ext.refl _) rfl rfl rfl
            -- 4: Op.load 3 t65
            apply Stage.step (Is _) [false, false, false, true] (Is.keeps _) (by kernel_rfl)
            · intro w1 h1
              simp only [List.nil_append, List.cons_append, Given]
              rintro _ rfl
              have hq := h1.cell b1
              go_wp2_with fail
              exact Post.isv (Ext.refl _) rfl rfl rfl
            -- 5: Op.move t1
            apply Stage.step (Is _) [] (Is.keeps _) (by kernel_rfl)
            · intro w1 h1
              simp only [Given]
              go_wp2_with fail
              exact Post.isv (Ext.refl _) rfl rfl rfl
            -- 6: Op.move t10
            apply Stage.step (Is _) [] (Is.keeps _) (by kernel_rfl)
            · intro w1 h1
              simp only [Given]
              go_wp2_with fail
              exact Post.isv (Ext.refl _) rfl rfl rfl
            -- 7: Op.binOp BinOp.add 3 t67 t68 3
            apply Stage.step (Is _) [false, false, false, false, false, true, true] (Is.keeps _) (by kernel_rfl)
            · intro w1 h1
              simp only [List.nil_append, List.cons_append, Given]
              rintro _ rfl
              rintro _ rfl
              go_wp2_with fail
              exact Post.isv (Ext.refl _) rfl rfl rfl
            -- 8: Op.move t12
            apply Stage.step (Is _) [] (Is.keeps _) (by kernel_rfl)
            · intro w1 h1
              simp only [Given]
              go_wp2_with fail
              exact Post.isv (Ext.refl _) rfl rfl rfl
            -- 9: Op.binOp BinOp.add 3 t69 t70 3
            apply Stage.step (Is _) [false, false, false, false, false, false, false, true, true] (Is.keeps _) (by kernel_rfl)
            · intro w1 h1
              simp only [List.nil_append, List.cons_append, Given]
              rintro _ rfl
              rintro _ rfl
              go_wp2_with fail
              exact Post.isv (Ext.refl _) rfl rfl rfl
            -- 10: Op.binOp BinOp.neq 3 t66 t71 3
            apply Stage.step (Is _) [false, false, false, false, true, false, false, false, false, true] (Is.keeps _) (by kernel_rfl)
            · intro w1 h1
              simp only [List.nil_append, List.cons_append, Given]
              rintro _ rfl
              rintro _ rfl
              go_wp2_with fail
              exact Post.isv (Ext.refl _) rfl rfl rfl
            -- 11: Op.move t72
            apply Stage.step (Is _) [false, false, false, false, false, false, false, false, false, false, true] (Is.keeps _) (by kernel_rfl)
            · intro w1 h1
              simp only [List.nil_append, List.cons_append, Given]
              rintro _ rfl
              go_wp2_with fail
              exact Post.isv (Ext.refl _) rfl rfl rfl
            -- 12: Op.move t11   [guarded: some (11, false)]
            apply Stage.step (Is _) [false, false, false, false, false, false, false, false, false, false, false, true] (Is.keeps _) (by kernel_rfl)
            · intro w1 h1
              simp only [List.nil_append, List.cons_append, Given]
              rintro _ rfl
              go_wp2_with fail
              exact Post.isv (Ext.refl _) rfl rfl rfl
            -- 13: Op.move t12   [guarded: some (11, false)]
            apply Stage.step (Is _) [false, false, false, false, false, false, false, false, false, false, false, true] (Is.keeps _) (by kernel_rfl)
            · intro w1 h1
              simp only [List.nil_append, List.cons_append, Given]
              rintro _ rfl
              go_wp2_with fail
              exact Post.isv (Ext.refl _) rfl rfl rfl
            -- 14: Op.indexAddr 32 t74 t75   [guarded: some (11, false)]
            apply Stage.step (Is _) [false, false, false, false, false, false, false, false, false, false, false, true, true, true] (Is.keeps _) (by kernel_rfl)
            · intro w1 h1
              simp only [List.nil_append, List.cons_append, Given]
              rintro _ rfl
              rintro _ rfl
              rintro _ rfl
              go_wp2_with fail
              exact Post.isv (Ext.refl _) rfl rfl rfl
            -- 15: Op.fieldAddr 24 t76 0   [guarded: some (11, false)]
            apply Stage.step (Is _) [false, false, false, false, false, false, false, false, false, false, false, true, false, false, true] (Is.keeps _) (by kernel_rfl)
            · intro w1 h1
              simp only [List.nil_append, List.cons_append, Given]
              rintro _ rfl
              rintro _ rfl
              go_wp2_with fail
              exact Post.isv (Ext.refl _) rfl rfl rfl
            -- 16: Op.load 3 t77   [guarded: some (11, false)]
            apply Stage.step (Is _) [false, false, false, false, false, false, false, false, false, false, false, true, false, false, false, true] (Is.keeps _) (by kernel_rfl)
            · intro w1 h1
              simp only [List.nil_append, List.cons_append, Given]
              rintro _ rfl
              rintro _ rfl
              have hq := h1.cell b0
              go_wp2_with fail
              exact Post.isv (Ext.refl _) rfl rfl rfl
            -- 17: Op.binOp BinOp.neq 3 t78 (const (3:i64)) 3   [guarded: some (11, false)]
            apply Stage.step (Is _) [false, false, false, false, false, false, false, false, false, false, false, true, false, false, false, false, true] (Is.keeps _) (by kernel_rfl)
            · intro w1 h1
              simp only [List.nil_append, List.cons_append, Given]
              rintro _ rfl
              rintro _ rfl
              go_wp2_with fail
              exact Post.isv (Ext.refl _) rfl rfl rfl
            -- 18: Op.pick t73 (const (Value.bool true)) t79
            apply Stage.step (Is _) [false, false, false, false, false, false, false, false, false, false, false, true, false, false, false, false, false, true] (Is.keeps _) (by kernel_rfl)
            · intro w1 h1
              simp only [List.nil_append, List.cons_append, Given]
              rintro _ rfl
              rintro _ rfl
              go_wp2_with fail
              exact Post.isv (Ext.refl _) rfl rfl rfl
            -- 19: Op.move t80
            apply Stage.step (Is _) [false, false, false, false, false, false, false, false, false, false, false, false, false, false, false, false, false, false, true] (Is.keeps _) (by kernel_rfl)
            · intro w1 h1
              simp only [List.nil_append, List.cons_append, Given]
              rintro _ rfl
              go_wp2_with fail
              exact Post.isv (Ext.refl _) rfl rfl rfl
            -- 20: Op.move t11   [guarded: some (19, false)]
            apply Stage.step (Is _) [false, false, false, false, false, false, false, false, false, false, false, false, false, false, false, false, false, false, false, true] (Is.keeps _) (by kernel_rfl)
            · intro w1 h1
              simp only [List.nil_append, List.cons_append, Given]
              rintro _ rfl
              go_wp2_with fail
              exact Post.isv (Ext.refl _) rfl rfl rfl
            -- 21: Op.move t12   [guarded: some (19, false)]
            apply Stage.step (Is _) [false, false, false, false, false, false, false, false, false, false, false, false, false, false, false, false, false, false, false, true] (Is.keeps _) (by kernel_rfl)
            · intro w1 h1
              simp only [List.nil_append, List.cons_append, Given]
              rintro _ rfl
              go_wp2_with fail
              exact Post.isv (Ext.refl _) rfl rfl rfl
            -- 22: Op.indexAddr 32 t82 t83   [guarded: some (19, false)]
            apply Stage.step (Is _) [false, false, false, false, false, false, false, false, false, false, false, false, false, false, false, false, false, false, false, true, true, true] (Is.keeps _) (by kernel_rfl)
            · intro w1 h1
              simp only [List.nil_append, List.cons_append, Given]
              rintro _ rfl
              rintro _ rfl
              rintro _ rfl
              go_wp2_with fail
              exact Post.isv (Ext.refl _) rfl rfl rfl
            -- 23: Op.fieldAddr 24 t84 2   [guarded: some (19, false)]
            apply Stage.step (Is _) [false, false, false, false, false, false, false, false, false, false, false, false, false, false, false, false, false, false, false, true, false, false, true] (Is.keeps _) (by kernel_rfl)
            · intro w1 h1
              simp only [List.nil_append, List.cons_append, Given]
              rintro _ rfl
              rintro _ rfl
              go_wp2_with fail
              exact Post.isv (Ext.refl _) rfl rfl rfl
            -- 24: Op.load 22 t85   [guarded: some (19, false)]
            apply Stage.step (Is _) [false, false, false, false, false, false, false, false, false, false, false, false, false, false, false, false, false, false, false, true, false, false, false, true] (Is.keeps _) (by kernel_rfl)
            · intro w1 h1
              simp only [List.nil_append, List.cons_append, Given]
              rintro _ rfl
              rintro _ rfl
              have hq := h1.cell b2
              go_wp2_with fail
              exact Post.isv (Ext.refl _) rfl rfl rfl
            -- 25: Op.convert 22 9 t86   [guarded: some (19, false)]
            apply Stage.step (Is _) [false, false, false, false, false, false, false, false, false, false, false, false, false, false, false, false, false, false, false, true, false, false, false, false, true] (Is.keeps _) (by kernel_rfl)
            · intro w1 h1
              simp only [List.nil_append, List.cons_append, Given]
              rintro _ rfl
              rintro _ rfl
              have ht := run_text_u8 (sa5.ext h1)
              go_wp2_with fail
              exact Post.isv (Ext.refl _) rfl rfl rfl
            -- 26: Op.move t13   [guarded: some (19, false)]
            apply Stage.step (Is _) [false, false, false, false, false, false, false, false, false, false, false, false, false, false, false, false, false, false, false, true] (Is.keeps _) (by kernel_rfl)
            · intro w1 h1
              simp only [List.nil_append, List.cons_append, Given]
              rintro _ rfl
              go_wp2_with fail
              exact Post.isv (Ext.refl _) rfl rfl rfl
            -- 27: Op.move t13   [guarded: some (19, false)]
            apply Stage.step (Is _) [false, false, false, false, false, false, false, false, false, false, false, false, false, false, false, false, false, false, false, true] (Is.keeps _) (by kernel_rfl)
            · intro w1 h1
              simp only [List.nil_append, List.cons_append, Given]
              rintro _ rfl
              go_wp2_with fail
              exact Post.isv (Ext.refl _) rfl rfl rfl
            -- 28: Op.call { builtin len, args := #[t89], argTypes := #[22] }   [guarded: some (19, false)]
            apply Stage.step (Is _) [false, false, false, false, false, false, false, false, false, false, false, false, false, false, false, false, false, false, false, true, false, false, false, false, false, false, false, true] (Is.keeps _) (by kernel_rfl)
            · intro w1 h1
              simp only [List.nil_append, List.cons_append, Given]
              rintro _ rfl
              rintro _ rfl
              go_wp2_with fail
              exact Post.isv (Ext.refl _) rfl rfl rfl
            -- 29: Op.call { builtin min, args := #[t90, const (40:i64)], argTypes := #[3, 3] }   [guarded: some (19, f
            apply Stage.step (Is _) [false, false, false, false, false, false, false, false, false, false, false, false, false, false, false, false, false, false, false, true, false, false, false, false, false, false, false, false, true] (Is.keeps _) (by kernel_rfl)
            · intro w1 h1
              simp only [List.nil_append, List.cons_append, Given]
              rintro _ rfl
              rintro _ rfl
              go_wp2_with fail
              exact Post.isv (Ext.refl _) rfl rfl rfl
            -- 30: Op.slice 22 t88 none (some t91) none   [guarded: some (19, false)]
            apply Stage.step (Is _) [false, false, false, false, false, false, false, false, false, false, false, false, false, false, false, false, false, false, false, true, false, false, false, false, false, false, true, false, false, true] (Is.keeps _) (by kernel_rfl)
            · intro w1 h1
              simp only [List.nil_append, List.cons_append, Given]
              rintro _ rfl
              rintro _ rfl
              rintro _ rfl
              go_wp2_with fail
              exact Post.isv (Ext.refl _) rfl rfl rfl
            -- 31: Op.convert 22 9 t92   [guarded: some (19, false)]
            apply Stage.step (Is _) [false, false, false, false, false, false, false, false, false, false, false, false, false, false, false, false, false, false, false, true, false, false, false, false, false, false, false, false, false, false, true] (Is.keeps _) (by kernel_rfl)
            · intro w1 h1
              simp only [List.nil_append, List.cons_append, Given]
              rintro _ rfl
              rintro _ rfl
              have ht := run_text_u8 (s0'.ext h1)
              go_wp2_with fail
              exact Post.isv (Ext.refl _) rfl rfl rfl
            -- 32: Op.binOp BinOp.neq 9 t87 t93 9   [guarded: some (19, false)]
            apply Stage.step (Is _) [false, false, false, false, false, false, false, false, false, false, false, false, false, false, false, false, false, false, false, true, false, false, false, false, false, true, false, false, false, false, false, true] (Is.keeps _) (by kernel_rfl)
            · intro w1 h1
              simp only [List.nil_append, List.cons_append, Given]
              rintro _ rfl
              rintro _ rfl
              rintro _ rfl
              go_wp2_with fail
              exact Post.isv (Ext.refl _) rfl rfl rfl
            -- 33: Op.pick t81 (const (Value.bool true)) t94
            apply Stage.step (Is _) [false, false, false, false, false, false, false, false, false, false, false, false, false, false, false, false, false, false, false, true, false, false, false, false, false, false, false, false, false, false, false, false, true] (Is.keeps _) (by kernel_rfl)
            · intro w1 h1
              simp only [List.nil_append, List.cons_append, Given]
              rintro _ rfl
              rintro _ rfl
              go_wp2_with fail
              exact Post.isv (Ext.refl _) rfl rfl rfl
            apply Stage.nil
            intro w1 h1
            simp only [List.nil_append, List.cons_append]
            refine Fin.is_ ?_
            refine Fin.is_ ?_
            refine Fin.is_ ?_
            refine Fin.is_ ?_
            refine Fin.is_ ?_
            refine Fin.is_ ?_
            refine Fin.is_ ?_
            refine Fin.is_ ?_
            refine Fin.is_ ?_
            refine Fin.is_ ?_
            refine Fin.is_ ?_
            refine Fin.is_ ?_
            refine Fin.is_ ?_
            refine Fin.is_ ?_
            refine Fin.is_ ?_
            refine Fin.is_ ?_
            refine Fin.is_ ?_
            refine Fin.is_ ?_
            refine Fin.is_ ?_
            refine Fin.is_ ?_
            refine Fin.is_ ?_
            refine Fin.is_ ?_
            refine Fin.is_ ?_
            refine Fin.is_ ?_
            refine Fin.is_ ?_
            refine Fin.is_ ?_
            refine Fin.is_ ?_
            refine Fin.is_ ?_
            refine Fin.is_ ?_
            refine Fin.is_ ?_
            refine Fin.is_ ?_
            refine Fin.is_ ?_
            refine Fin.is_ ?_
            refine Fin.is_ ?_
            refine Fin.nil_ ?_
            go_simp
            obtain ⟨wm, rfl⟩ : ∃ q, q = w1 := ⟨_, rfl⟩
            go_wp2_with fail
            go_roundw
            case rel => exact ⟨i2 + 1, by omega, by go_num, gx5.trans h1⟩
            case measure => simp [intOf]; omega
      · obtain rfl : i2 = m := by omega
        have gx4 := gx3.trans hxr
        have hlr2 := (hlr.ext bl_rep hx3).ext bl_rep hxr
        have hsnI : (s : Int) + (n : Int) ≤ 100000 := by omega
        clear hle hdsg hlk hlr
        by_cases hn0 : n = 0
        · subst hn0
          go_wp2_with fail
          refine (scan_Torn (last := (s : Int) + ((0 : Nat) : Int)) hlr2 (by omega) HSH.out HT).mono ?_
          rintro e w6 ⟨rfl, hx6⟩
          go_wp2_with fail
          refine (law11_known w6).mono ?_
          rintro e w7 ⟨rfl, hx7⟩
          go_wp2_with fail
          go_ret
          exact ⟨rfl, (gx4.trans hx6).trans hx7⟩
        · have hn1 : ((n : Int) == 0) = false := by simp; omega
          have HFI := Lib.hid (HF.out (by omega))
          go_wp2_with fail
          refine (scan_First hlr2 (by omega) HSH.out HFI).mono ?_
          rintro e w5 ⟨rfl, hx5⟩
          go_wp2_with fail
          refine (scan_Torn (last := (s : Int) + (n : Int)) (hlr2.ext bl_rep hx5) (by omega) HSH.out HT).mono ?_
          rintro e w6 ⟨rfl, hx6⟩
          go_wp2_with fail
          refine (law11_known w6).mono ?_
          rintro e w7 ⟨rfl, hx7⟩
          go_wp2_with fail
          go_ret
          exact ⟨rfl, ((gx4.trans hx5).trans hx6).trans hx7⟩
end Go.Proofs.Ytcchlkialgjamaa
