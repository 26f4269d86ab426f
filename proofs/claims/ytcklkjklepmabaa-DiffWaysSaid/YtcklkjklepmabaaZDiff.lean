/-
  The way from bytes to others: contracts of the program's piece and Bytes, and of the reference's Bytes.
-/
import Derived.Test.YtcklkjklepmabaaZDiffPlain
import Derived.Test.YtcklkjklepmabaaZCore
import Derived.Test.YtcklkjklepmabaaZEvSpan
namespace Go.Proofs.Ytcklkjklepmabaa
open Go.RowKit
set_option linter.unusedVariables false
set_option linter.unusedSimpArgs false
set_option linter.unnecessarySimpa false
set_option maxRecDepth 100000

theorem fr_newD (w : World) (cs : Array Value) (e : TypeId) (j : Nat) : (w.alloc (.cells cs e)).frozen? ⟨w.heap.size, j, none⟩ = false := by
  unfold World.frozen?
  rw [heap_alloc_new]
  simp
theorem Ext.frozenD {a b : World} (h : Ext a b) {p : Addr} {u : Value} (hc : a.cell? p = some u) (hf : a.frozen? p = false) : b.frozen? p = false := by
  rw [h.frozen (World.block_lt_of_cell? a p hc)]
  exact hf
theorem cell_newD2 (w : World) (cs : Array Value) (e : TypeId) (cs2 : Array Value) (e2 : TypeId) (j : Nat) {u : Value} (hu : cs[j]? = some u := by rfl) : ((w.alloc (.cells cs e)).alloc (.cells cs2 e2)).cell? ⟨w.heap.size, j, none⟩ = some u :=
  (Ext.alloc _ _).cell (cell_new w cs e j hu)
set_option maxHeartbeats 2000000 in
theorem diff_piece {A : Option Addr} {n c : Nat} {b : List UInt8} {i m : Nat} {w : World} (hb : Sl w A n c b) (hi : i + m ≤ n) (hn : n ≤ 1000) :
    Calls Try.prog 63 #[.slice A n c, .int .i64 i, .int .i64 ((i : Int) + (m : Int))] w fun e w' => ∃ A' n' c', e = .returned (evV (evAt b i m).k (evAt b i m).o (evAt b i m).m A' n' c' (evAt b i m).s) ∧ Fsl w' w.heap.size A' n' c' (evAt b i m).l ∧ Ext w w' := by
  have h63 := hb.n63
  obtain ⟨A1, c1, hcut, l1⟩ := cut_mid hb i m (i : Int) ((i : Int) + (m : Int)) rfl (by omega) hi
  obtain ⟨p, hp⟩ : ∃ p, (b.drop i).take m = p := ⟨_, rfl⟩
  rw [hp] at l1
  have hpl := l1.len
  obtain ⟨C, hC, hmk⟩ := make_bytes m (m : Int) rfl (by omega)
  obtain ⟨z, hz⟩ : ∃ z, zeroB p = z := ⟨_, rfl⟩
  have hev : evAt b i m = if z = true then ⟨3, i, m, [], ⟨#[]⟩⟩ else ⟨1, i, 0, p, ⟨#[]⟩⟩ := by unfold evAt; rw [hp, hz]
  have HZ : Hid ((p == List.replicate m 0) = z) := by unfold Hid; rw [← hz, zeroB, hpl]
  have hCs : C.size = m := by have := congrArg List.length hC; simpa using this
  have hzs : ∀ w : World, Sl (w.alloc (.cells C U8)) (some ⟨w.heap.size, 0, none⟩) m m (List.replicate m (0 : UInt8)) := fun w => by
    have := Own.made w w.heap.size U8 1 C m m (Nat.le_refl _) (Nat.le_refl _) (by simp only [maxLen]; omega) (by omega)
    rw [Nat.mul_one, List.take_of_length_le (by rw [Array.length_toList]; omega), hC] at this
    exact (⟨by simp, this⟩ : Byt U8 _ w.heap.size _ m m _).sl
  obtain ⟨ek, eo, em, el, es, hE⟩ : ∃ ek eo em el es, evAt b i m = ⟨ek, eo, em, el, es⟩ := ⟨_, _, _, _, _, rfl⟩
  rw [hE]
  rw [hE] at hev
  simp only
  clear hE
  go_enter Try.func63, Try.ntmps63
  go_wp2_with fail
  have hx1 : Ext w ((w.alloc (.cells #[.int .i64 0, .int .i64 0, .int .i64 0, .slice none 0 0, .string ⟨#[]⟩] TEv)).alloc (.cells C U8)) := (Ext.alloc _ _).allocs _
  refine (bytes_Equal A1 m c1 p _ m m (List.replicate m (0 : UInt8)) _ (l1.ext hx1) (by simpa using hzs (w.alloc (.cells #[.int .i64 0, .int .i64 0, .int .i64 0, .slice none 0 0, .string ⟨#[]⟩] TEv)))).mono ?_
  rintro e w2 ⟨rfl, rfl⟩
  rw [HZ.out]
  cases z with
  | true =>
    rw [if_pos rfl] at hev
    injection hev with v1 v2 v3 v4 v5
    subst v1 v2 v3 v4 v5
    go_wp2_with fail
    refine bodyPost_ret (v := evV 3 i m none 0 0 ⟨#[]⟩) (by simp [results, Try.results63, go_sem]) rfl ⟨_, _, _, rfl, Fsl.nil _ _, ?_⟩
    (repeat (first | (with_reducible exact Ext.refl _) | (with_reducible assumption) | (with_reducible refine Ext.draws ?_) | (with_reducible refine Ext.allocs ?_ _) | (with_reducible refine Ext.sets ?_ ?_ _) | (with_reducible exact Nat.le_refl _) | (exact (by simp)) | (exact (by simp; omega))))
  | false =>
    rw [if_neg (by simp)] at hev
    injection hev with v1 v2 v3 v4 v5
    subst v1 v2 v3 v4 v5
    go_wp2_with fail
    refine (slices_Clone A1 m c1 _ _ (l1.ext hx1) (by omega)).mono ?_
    rintro e w2 ⟨A7, c7, rfl, h7, hx7⟩
    have hlt : w.heap.size < w2.heap.size := by have := hx7.size; simp at this; omega
    have g0 : w2.cell? ⟨w.heap.size, 0, none⟩ = some (.int .i64 0) := hx7.cell (cell_newD2 w _ _ _ _ 0)
    have e0 : w2.frozen? ⟨w.heap.size, 0, none⟩ = false := hx7.frozenD (cell_newD2 w _ _ _ _ 0) ((Ext.alloc _ _).frozenD (cell_new w _ _ 0) (fr_newD w _ _ 0))
    have g1 : w2.cell? ⟨w.heap.size, 1, none⟩ = some (.int .i64 0) := hx7.cell (cell_newD2 w _ _ _ _ 1)
    have e1 : w2.frozen? ⟨w.heap.size, 1, none⟩ = false := hx7.frozenD (cell_newD2 w _ _ _ _ 1) ((Ext.alloc _ _).frozenD (cell_new w _ _ 1) (fr_newD w _ _ 1))
    have g2 : w2.cell? ⟨w.heap.size, 2, none⟩ = some (.int .i64 0) := hx7.cell (cell_newD2 w _ _ _ _ 2)
    have e2 : w2.frozen? ⟨w.heap.size, 2, none⟩ = false := hx7.frozenD (cell_newD2 w _ _ _ _ 2) ((Ext.alloc _ _).frozenD (cell_new w _ _ 2) (fr_newD w _ _ 2))
    have g3 : w2.cell? ⟨w.heap.size, 3, none⟩ = some (.slice none 0 0) := hx7.cell (cell_newD2 w _ _ _ _ 3)
    have e3 : w2.frozen? ⟨w.heap.size, 3, none⟩ = false := hx7.frozenD (cell_newD2 w _ _ _ _ 3) ((Ext.alloc _ _).frozenD (cell_new w _ _ 3) (fr_newD w _ _ 3))
    have g4 : w2.cell? ⟨w.heap.size, 4, none⟩ = some (.string ⟨#[]⟩) := hx7.cell (cell_newD2 w _ _ _ _ 4)
    have e4 : w2.frozen? ⟨w.heap.size, 4, none⟩ = false := hx7.frozenD (cell_newD2 w _ _ _ _ 4) ((Ext.alloc _ _).frozenD (cell_new w _ _ 4) (fr_newD w _ _ 4))
    have hx8 : Ext w w2 := hx1.trans hx7
    clear hx7 hx1
    go_wp2_with fail
    refine bodyPost_ret (v := evV 1 i 0 A7 m c7 ⟨#[]⟩) ?hres rfl ⟨_, _, _, rfl, ?hsl, ?hxx⟩
    case hres => simp [results, Try.results63, go_sem, g0, g1, g2, g3, g4]
    case hsl => exact (((((h7.fsl.sets (by first | (simp; done) | (simp; omega)) _).sets (by first | (simp; done) | (simp; omega)) _).sets (by first | (simp; done) | (simp; omega)) _).sets (by first | (simp; done) | (simp; omega)) _).sets (by first | (simp; done) | (simp; omega)) _).low (by first | (simp; done) | (simp; omega))
    case hxx => (repeat (first | (with_reducible exact Ext.refl _) | (with_reducible assumption) | (with_reducible refine Ext.draws ?_) | (with_reducible refine Ext.allocs ?_ _) | (with_reducible refine Ext.sets ?_ ?_ _) | (with_reducible exact Nat.le_refl _) | (exact (by simp)) | (exact (by simp; omega))))

theorem bytes_long {a b : List UInt8} (h : 512 < a.length ∨ 512 < b.length) : bytesL a b = [] := by unfold bytesL; rw [if_pos h]
theorem bytes_same {a b : List UInt8} (h1 : a.length ≤ 512) (h2 : b.length ≤ 512) (h : a.length = b.length) : bytesL a b = [] ++ wayL (sizedL a b.length) b 0 := by unfold bytesL; rw [if_neg (by omega), if_neg (by simpa using h)]
theorem bytes_other {a b : List UInt8} (h1 : a.length ≤ 512) (h2 : b.length ≤ 512) (h : a.length ≠ b.length) : bytesL a b = [⟨4, 0, b.length, [], ⟨#[]⟩⟩] ++ wayL (sizedL a b.length) b 0 := by unfold bytesL; rw [if_neg (by omega), if_pos h]
end Go.Proofs.Ytcklkjklepmabaa
