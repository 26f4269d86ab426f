/-
  Images with snapshots: contracts of New of both texts, of sized, and of the comparisons.
-/
import Derived.Test.YtcklkjklepmabaaZSt
import Derived.Test.YtcklkjklepmabaaZCore
import Derived.Test.YtcklkjklepmabaaZSized
namespace Go.Proofs.Ytcklkjklepmabaa
open Go.RowKit
set_option linter.unusedVariables false
set_option linter.unusedSimpArgs false
set_option linter.unnecessarySimpa false
set_option maxRecDepth 100000

def newN (z : Int) : Nat := (max 0 (min z 512)).toNat
def newS (z : Int) : St := ⟨List.replicate (newN z) 0, []⟩
theorem made_byt {nb : Nat} {C : Array Value} (hC : C.toList = (List.replicate nb (0 : UInt8)).map bv) (hn : nb ≤ 1000000) (w : World) : Byt U8 (w.alloc (.cells C U8)) w.heap.size (some ⟨w.heap.size, 0, none⟩) nb nb (List.replicate nb (0 : UInt8)) := by
  have hCs : C.size = nb := by have := congrArg List.length hC; simpa using this
  have := Own.made w w.heap.size U8 1 C nb nb (Nat.le_refl _) (Nat.le_refl _) (by simp only [maxLen]; omega) (by omega)
  rw [Nat.mul_one, List.take_of_length_le (by rw [Array.length_toList]; omega), hC] at this
  exact ⟨by simp, this⟩
theorem ref_Held0 (z v : Int) (w : World) (hv : max 0 (min z 512) = v) :
    Calls Try.prog 77 #[.int .i64 z, .int .i64 0, .int .i64 512] w fun e w' => e = .returned (.int .i64 v) ∧ w = w' := by
  by_cases h1 : z < 0
  · obtain rfl : v = 0 := by omega
    go_enter Try.func77, Try.ntmps77
    go_wp2_with fail
    go_ret
    exact ⟨rfl, rfl⟩
  · by_cases h2 : 512 < z
    · obtain rfl : v = 512 := by omega
      go_enter Try.func77, Try.ntmps77
      go_wp2_with fail
      go_ret
      exact ⟨rfl, rfl⟩
    · obtain rfl : v = z := by omega
      go_enter Try.func77, Try.ntmps77
      go_wp2_with fail
      go_ret
      exact ⟨rfl, rfl⟩
set_option maxHeartbeats 1000000 in
theorem model_New (z : Int) (w : World) :
    Calls Try.prog 49 #[.int .i64 z] w fun e w' => ∃ A n c, e = .returned (stV A n c none 0 0) ∧ StR w' A n c none 0 0 (newS z) ∧ Ext w w' := by
  obtain ⟨k, hk⟩ : ∃ k, newN z = k := ⟨_, rfl⟩
  have hk2 : k ≤ 512 := by rw [← hk]; unfold newN; omega
  have hns : newS z = ⟨List.replicate k 0, []⟩ := by unfold newS; rw [hk]
  rw [hns]
  have hfin : ∀ (C : Array Value), C.toList = (List.replicate k (0 : UInt8)).map bv → StR ((w.alloc (.cells #[.slice (some ⟨w.heap.size + 1, 0, none⟩) k k, .slice none 0 0] TSt)).alloc (.cells C U8)) (some ⟨w.heap.size + 1, 0, none⟩) k k none 0 0 ⟨List.replicate k 0, []⟩ := fun C hC => by
    have := (made_byt hC (by omega) (w.alloc (.cells #[.slice (some ⟨w.heap.size + 1, 0, none⟩) k k, .slice none 0 0] TSt))).sl
    exact ⟨by simpa using this, Lst.nil _⟩
  by_cases z0 : (z < 0)
  · have hkv : (k : Int) = 0 := by rw [← hk]; unfold newN; omega
    obtain ⟨C, hC, hmk⟩ := make_bytes k 0 (by omega) (by omega)
    have hf := hfin C hC
    (have m1 : ¬ (512 : Int) < z := by omega)
    (have m2 : ¬ (0 : Int) < z := by omega)
    clear hk hns hkv hfin hC
    go_enter Try.func49, Try.ntmps49
    go_wp2_with fail
    skip
    refine bodyPost_ret (v := stV (some ⟨w.heap.size + 1, 0, none⟩) k k none 0 0) (by simp [results, Try.results49, go_sem]) rfl ⟨_, _, _, rfl, hf, ?_⟩
    (repeat (first | (with_reducible exact Ext.refl _) | (with_reducible assumption) | (with_reducible refine Ext.draws ?_) | (with_reducible refine Ext.allocs ?_ _) | (with_reducible refine Ext.sets ?_ ?_ _) | (with_reducible exact Nat.le_refl _) | (exact (by simp)) | (exact (by simp; omega))))
  by_cases z0 : (512 < z)
  · have hkv : (k : Int) = 512 := by rw [← hk]; unfold newN; omega
    obtain ⟨C, hC, hmk⟩ := make_bytes k 512 (by omega) (by omega)
    have hf := hfin C hC
    skip
    skip
    clear hk hns hkv hfin hC
    go_enter Try.func49, Try.ntmps49
    go_wp2_with fail
    skip
    refine bodyPost_ret (v := stV (some ⟨w.heap.size + 1, 0, none⟩) k k none 0 0) (by simp [results, Try.results49, go_sem]) rfl ⟨_, _, _, rfl, hf, ?_⟩
    (repeat (first | (with_reducible exact Ext.refl _) | (with_reducible assumption) | (with_reducible refine Ext.draws ?_) | (with_reducible refine Ext.allocs ?_ _) | (with_reducible refine Ext.sets ?_ ?_ _) | (with_reducible exact Nat.le_refl _) | (exact (by simp)) | (exact (by simp; omega))))
  by_cases z0 : (z = 0)
  · have hkv : (k : Int) = 0 := by rw [← hk]; unfold newN; omega
    obtain ⟨C, hC, hmk⟩ := make_bytes k 0 (by omega) (by omega)
    have hf := hfin C hC
    (subst z0)
    skip
    clear hk hns hkv hfin hC
    go_enter Try.func49, Try.ntmps49
    go_wp2_with fail
    skip
    refine bodyPost_ret (v := stV (some ⟨w.heap.size + 1, 0, none⟩) k k none 0 0) (by simp [results, Try.results49, go_sem]) rfl ⟨_, _, _, rfl, hf, ?_⟩
    (repeat (first | (with_reducible exact Ext.refl _) | (with_reducible assumption) | (with_reducible refine Ext.draws ?_) | (with_reducible refine Ext.allocs ?_ _) | (with_reducible refine Ext.sets ?_ ?_ _) | (with_reducible exact Nat.le_refl _) | (exact (by simp)) | (exact (by simp; omega))))
  by_cases z0 : (0 < z)
  · have hkv : (k : Int) = z := by rw [← hk]; unfold newN; omega
    obtain ⟨C, hC, hmk⟩ := make_bytes k z (by omega) (by omega)
    have hf := hfin C hC
    (have m1 : ¬ (512 : Int) < z := by omega)
    skip
    clear hk hns hkv hfin hC
    go_enter Try.func49, Try.ntmps49
    go_wp2_with fail
    skip
    refine bodyPost_ret (v := stV (some ⟨w.heap.size + 1, 0, none⟩) k k none 0 0) (by simp [results, Try.results49, go_sem]) rfl ⟨_, _, _, rfl, hf, ?_⟩
    (repeat (first | (with_reducible exact Ext.refl _) | (with_reducible assumption) | (with_reducible refine Ext.draws ?_) | (with_reducible refine Ext.allocs ?_ _) | (with_reducible refine Ext.sets ?_ ?_ _) | (with_reducible exact Nat.le_refl _) | (exact (by simp)) | (exact (by simp; omega))))
  omega
set_option maxHeartbeats 1000000 in
theorem ref14_New (z : Int) (w : World) :
    Calls Try.prog 52 #[.int .i64 z] w fun e w' => ∃ A n c, e = .returned (stV A n c none 0 0) ∧ StR w' A n c none 0 0 (newS z) ∧ Ext w w' := by
  obtain ⟨k, hk⟩ : ∃ k, newN z = k := ⟨_, rfl⟩
  have hk2 : k ≤ 512 := by rw [← hk]; unfold newN; omega
  have hns : newS z = ⟨List.replicate k 0, []⟩ := by unfold newS; rw [hk]
  rw [hns]
  have hfin : ∀ (C : Array Value), C.toList = (List.replicate k (0 : UInt8)).map bv → StR ((w.alloc (.cells #[.slice (some ⟨w.heap.size + 1, 0, none⟩) k k, .slice none 0 0] TSt)).alloc (.cells C U8)) (some ⟨w.heap.size + 1, 0, none⟩) k k none 0 0 ⟨List.replicate k 0, []⟩ := fun C hC => by
    have := (made_byt hC (by omega) (w.alloc (.cells #[.slice (some ⟨w.heap.size + 1, 0, none⟩) k k, .slice none 0 0] TSt))).sl
    exact ⟨by simpa using this, Lst.nil _⟩
  by_cases z0 : (z < 0)
  · have hkv : (k : Int) = 0 := by rw [← hk]; unfold newN; omega
    obtain ⟨C, hC, hmk⟩ := make_bytes k 0 (by omega) (by omega)
    have hf := hfin C hC
    (have m1 : ¬ (512 : Int) < z := by omega)
    (have m2 : ¬ (0 : Int) < z := by omega)
    clear hk hns hkv hfin hC
    go_enter Try.func52, Try.ntmps52
    go_wp2_with fail
    refine (ref_Held0 _ 0 _ (by omega)).mono ?_; rintro e w1 ⟨rfl, rfl⟩; go_wp2_with fail
    refine bodyPost_ret (v := stV (some ⟨w.heap.size + 1, 0, none⟩) k k none 0 0) (by simp [results, Try.results52, go_sem]) rfl ⟨_, _, _, rfl, hf, ?_⟩
    (repeat (first | (with_reducible exact Ext.refl _) | (with_reducible assumption) | (with_reducible refine Ext.draws ?_) | (with_reducible refine Ext.allocs ?_ _) | (with_reducible refine Ext.sets ?_ ?_ _) | (with_reducible exact Nat.le_refl _) | (exact (by simp)) | (exact (by simp; omega))))
  by_cases z0 : (512 < z)
  · have hkv : (k : Int) = 512 := by rw [← hk]; unfold newN; omega
    obtain ⟨C, hC, hmk⟩ := make_bytes k 512 (by omega) (by omega)
    have hf := hfin C hC
    skip
    skip
    clear hk hns hkv hfin hC
    go_enter Try.func52, Try.ntmps52
    go_wp2_with fail
    refine (ref_Held0 _ 512 _ (by omega)).mono ?_; rintro e w1 ⟨rfl, rfl⟩; go_wp2_with fail
    refine bodyPost_ret (v := stV (some ⟨w.heap.size + 1, 0, none⟩) k k none 0 0) (by simp [results, Try.results52, go_sem]) rfl ⟨_, _, _, rfl, hf, ?_⟩
    (repeat (first | (with_reducible exact Ext.refl _) | (with_reducible assumption) | (with_reducible refine Ext.draws ?_) | (with_reducible refine Ext.allocs ?_ _) | (with_reducible refine Ext.sets ?_ ?_ _) | (with_reducible exact Nat.le_refl _) | (exact (by simp)) | (exact (by simp; omega))))
  by_cases z0 : (z = 0)
  · have hkv : (k : Int) = 0 := by rw [← hk]; unfold newN; omega
    obtain ⟨C, hC, hmk⟩ := make_bytes k 0 (by omega) (by omega)
    have hf := hfin C hC
    (subst z0)
    skip
    clear hk hns hkv hfin hC
    go_enter Try.func52, Try.ntmps52
    go_wp2_with fail
    refine (ref_Held0 _ 0 _ (by omega)).mono ?_; rintro e w1 ⟨rfl, rfl⟩; go_wp2_with fail
    refine bodyPost_ret (v := stV (some ⟨w.heap.size + 1, 0, none⟩) k k none 0 0) (by simp [results, Try.results52, go_sem]) rfl ⟨_, _, _, rfl, hf, ?_⟩
    (repeat (first | (with_reducible exact Ext.refl _) | (with_reducible assumption) | (with_reducible refine Ext.draws ?_) | (with_reducible refine Ext.allocs ?_ _) | (with_reducible refine Ext.sets ?_ ?_ _) | (with_reducible exact Nat.le_refl _) | (exact (by simp)) | (exact (by simp; omega))))
  by_cases z0 : (0 < z)
  · have hkv : (k : Int) = z := by rw [← hk]; unfold newN; omega
    obtain ⟨C, hC, hmk⟩ := make_bytes k z (by omega) (by omega)
    have hf := hfin C hC
    (have m1 : ¬ (512 : Int) < z := by omega)
    skip
    clear hk hns hkv hfin hC
    go_enter Try.func52, Try.ntmps52
    go_wp2_with fail
    refine (ref_Held0 _ z _ (by omega)).mono ?_; rintro e w1 ⟨rfl, rfl⟩; go_wp2_with fail
    refine bodyPost_ret (v := stV (some ⟨w.heap.size + 1, 0, none⟩) k k none 0 0) (by simp [results, Try.results52, go_sem]) rfl ⟨_, _, _, rfl, hf, ?_⟩
    (repeat (first | (with_reducible exact Ext.refl _) | (with_reducible assumption) | (with_reducible refine Ext.draws ?_) | (with_reducible refine Ext.allocs ?_ _) | (with_reducible refine Ext.sets ?_ ?_ _) | (with_reducible exact Nat.le_refl _) | (exact (by simp)) | (exact (by simp; omega))))
  omega
end Go.Proofs.Ytcklkjklepmabaa
