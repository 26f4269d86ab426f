/-
  Chapter 15's known sentence.
-/
import Derived.Test.YtcklkjklepmabaaZDiffFr
import Derived.Test.YtcklkjklepmabaaZOwnSt
import Derived.Test.YtcklkjklepmabaaZEvsSame
namespace Go.Proofs.Ytcklkjklepmabaa
open Go.RowKit
set_option linter.unusedVariables false
set_option linter.unusedSimpArgs false
set_option linter.unnecessarySimpa false
set_option maxRecDepth 100000

theorem lit_bytes (w : World) (l : List UInt8) (C : Array Value) (hC : C.toList = l.map bv) (hl : l.length ≤ 1000) : Sl (w.alloc (.cells C U8)) (some ⟨w.heap.size, 0, none⟩) l.length l.length l := by
  have hCs : C.size = l.length := by have := congrArg List.length hC; simpa using this
  have := Own.made w w.heap.size U8 1 C l.length l.length (Nat.le_refl _) (Nat.le_refl _) (by simp only [maxLen]; omega) (by omega)
  rw [Nat.mul_one, List.take_of_length_le (by rw [Array.length_toList]; omega), hC] at this
  exact (⟨rfl, this⟩ : Byt U8 _ w.heap.size _ l.length l.length l).sl
theorem way1 : bytesL [0, 0] [0, 1] = [⟨1, 1, 0, [1], ⟨#[]⟩⟩] := by decide +kernel
theorem way2 : bytesL [1] [0] = [⟨3, 0, 1, [], ⟨#[]⟩⟩] := by decide +kernel
theorem way3 : bytesL [] [] = [] := by decide +kernel
theorem known_same1 : sameE 1 1 0 [1] ⟨#[]⟩ 1 1 0 [1] ⟨#[]⟩ = true := by decide +kernel
theorem known_same2 : sameE 3 0 1 [] ⟨#[]⟩ 3 0 1 [] ⟨#[]⟩ = true := by decide +kernel
set_option maxHeartbeats 1000000 in
theorem law15_known (w : World) : Calls Try.prog 21 #[] w fun e w' => e = .returned (.bool true) ∧ Ext w w' := by
  have l1 := lit_bytes w [0, 0] #[.int .u8 0, .int .u8 0] rfl (by decide)
  have l2 := lit_bytes (w.alloc (.cells #[.int .u8 0, .int .u8 0] U8)) [0, 1] #[.int .u8 0, .int .u8 1] rfl (by decide)
  go_enter Try.func21, Try.ntmps21
  go_wp2_with fail
  refine (diff_BytesF (l1.ext (Ext.alloc _ _)) (by simpa using l2) way1).mono ?_
  rintro e w2 ⟨A1, n1, c1, rfl, la, g1⟩
  have g1 := ((Ext.alloc w (.cells #[.int .u8 0, .int .u8 0] U8)).trans (Ext.alloc _ _)).trans g1
  have la := la.lst.weak fun x cs q => q.1
  obtain rfl : 1 = n1 := la.len
  have l3 := lit_bytes w2 [1] #[.int .u8 1] rfl (by decide)
  have l4 := lit_bytes (w2.alloc (.cells #[.int .u8 1] U8)) [0] #[.int .u8 0] rfl (by decide)
  go_wp2_with fail
  refine (diff_BytesF (l3.ext (Ext.alloc _ _)) (by simpa using l4) way2).mono ?_
  rintro e w3 ⟨A2, n2, c2, rfl, lb, g2⟩
  have g2 := ((Ext.alloc w2 (.cells #[.int .u8 1] U8)).trans (Ext.alloc _ _)).trans g2
  have lb := lb.lst.weak fun x cs q => q.1
  obtain rfl : 1 = n2 := lb.len
  have la := la.ext ev_rep g2
  have g := g1.trans g2
  clear l1 l2 l3 l4 g1 g2
  obtain ⟨ga, oa, x, cs, rfl, hx, ⟨Aa, na, ca, rfl, sa, hs1⟩, ha⟩ := la.at2 (i := 0) ev_rep (by omega) (by omega)
  obtain ⟨gb, ob, y, ds, rfl, hy, ⟨Ab, nb, cb, rfl, sb, hs2⟩, hb⟩ := lb.at2 (i := 0) ev_rep (by omega) (by omega)
  simp only [List.getElem?_cons_zero, Option.some.injEq] at hx hy
  subst hx hy
  have a0 := ha 0 _ rfl
  have a1 := ha 1 _ rfl
  have a2 := ha 2 _ rfl
  have a3 := ha 3 _ rfl
  have a4 := ha 4 _ rfl
  have b0 := hb 0 _ rfl
  have b1 := hb 1 _ rfl
  have b2 := hb 2 _ rfl
  have b3 := hb 3 _ rfl
  have b4 := hb 4 _ rfl
  simp only [Nat.zero_mul, Nat.add_zero] at a0 a1 a2 a3 a4 b0 b1 b2 b3 b4
  have l5 := lit_bytes w3 [1] #[.int .u8 1] rfl (by decide)
  go_wp2_with fail
  refine (ref_SameEvent 1 1 0 Aa na ca [1] ⟨#[]⟩ 1 1 0 _ 1 1 [1] ⟨#[]⟩ _ (sa.ext (Ext.alloc _ _)) l5).mono ?_
  rintro e w4 ⟨rfl, g1⟩
  rw [known_same1]
  have g2 := (Ext.alloc w3 (.cells #[.int .u8 1] U8)).trans g1
  replace b0 := g2.cell b0
  replace b1 := g2.cell b1
  replace b2 := g2.cell b2
  replace b3 := g2.cell b3
  replace b4 := g2.cell b4
  go_wp2_with fail
  refine (ref_SameEvent 3 0 1 Ab nb cb [] ⟨#[]⟩ 3 0 1 _ 0 0 [] ⟨#[]⟩ _ (sb.ext g2) (Sl.nil _)).mono ?_
  rintro e w5 ⟨rfl, g3⟩
  rw [known_same2]
  go_wp2_with fail
  refine (diff_BytesF (Sl.nil _) (Sl.nil _) way3).mono ?_
  rintro e w6 ⟨A3, n3, c3, rfl, lc, g4⟩
  obtain rfl : 0 = n3 := lc.len
  go_wp2_with fail
  go_ret
  exact ⟨rfl, ((g.trans g2).trans g3).trans g4⟩
end Go.Proofs.Ytcklkjklepmabaa
