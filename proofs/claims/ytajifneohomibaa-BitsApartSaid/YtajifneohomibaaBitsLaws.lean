/-
  What the statements of chapter 1 share.
-/
import Derived.Test.YtajifneohomibaaNum
import Derived.Test.YtajifneohomibaaLog
import Derived.Test.YtajifneohomibaaText
import Derived.Test.YtajifneohomibaaGet
namespace Go.Proofs.Ytajifneohomibaa
open Go.RowKit
set_option linter.unusedVariables false
set_option maxRecDepth 100000

theorem bits_Zig' {n : Int} {w : World} (h0 : -9223372036854775808 ≤ n) (h1 : n ≤ 9223372036854775807) {r : Nat} (hr : Hid (zigN n = r)) :
    Calls Try.prog 31 #[.int .i64 n] w fun e w' => e = .returned (.int .u64 r) ∧ w = w' := by
  have := bits_Zig n w h0 h1
  rwa [hr.out] at this
theorem ref_Zig' {n : Int} {w : World} (h0 : -9223372036854775808 ≤ n) (h1 : n ≤ 9223372036854775807) {r : Nat} (hr : Hid (zigN n = r)) :
    Calls Try.prog 47 #[.int .i64 n] w fun e w' => e = .returned (.int .u64 r) ∧ w = w' := by
  have := ref_Zig n w h0 h1
  rwa [hr.out] at this
theorem bits_Zag' {u : Nat} {w : World} (hu : u < 18446744073709551616) {r : Int} (hr : Hid (zagI u = r)) :
    Calls Try.prog 32 #[.int .u64 u] w fun e w' => e = .returned (.int .i64 r) ∧ w = w' := by
  have := bits_Zag u w hu
  rwa [hr.out] at this
theorem ref_Zag' {u : Nat} {w : World} (hu : u < 18446744073709551616) {r : Int} (hr : Hid (zagI u = r)) :
    Calls Try.prog 48 #[.int .u64 u] w fun e w' => e = .returned (.int .i64 r) ∧ w = w' := by
  have := ref_Zag u w hu
  rwa [hr.out] at this
theorem bits_Log' {n : Int} {w : World} (h1 : n ≤ 9223372036854775807) {r : Int} (hr : Hid (logI n = r)) :
    Calls Try.prog 26 #[.int .i64 n] w fun e w' => e = .returned (.int .i64 r) ∧ w = w' := by
  have := bits_Log n w h1
  rwa [hr.out] at this
theorem ref_Log' {n : Int} {w : World} (h1 : n ≤ 9223372036854775807) {r : Int} (hr : Hid (logI n = r)) :
    Calls Try.prog 37 #[.int .i64 n] w fun e w' => e = .returned (.int .i64 r) ∧ w = w' := by
  have := ref_Log n w h1
  rwa [hr.out] at this
theorem bits_Cut' {n : Nat} {a wd : Int} {w : World} (hn : n < 18446744073709551616) {r : Nat} (hr : Hid (cutN n a wd = r)) :
    Calls Try.prog 33 #[.int .u64 n, .int .i64 a, .int .i64 wd] w fun e w' => e = .returned (.int .u64 r) ∧ Ext w w' := by
  have := bits_Cut n a wd w hn
  rwa [hr.out] at this
theorem ref_Cut' {n : Nat} {a wd : Int} {w : World} (hn : n < 18446744073709551616) {r : Nat} (hr : Hid (cutN n a wd = r)) :
    Calls Try.prog 46 #[.int .u64 n, .int .i64 a, .int .i64 wd] w fun e w' => e = .returned (.int .u64 r) ∧ w = w' := by
  have := ref_Cut n a wd w hn
  rwa [hr.out] at this

theorem law1_known (w : World) : Calls Try.prog 28 #[] w fun e w' => e = .returned (.bool true) ∧ Ext w w' := by
  go_enter Try.func28, Try.ntmps28
  go_wp2_with fail
  refine (bits_Put_loop none 0 0 [] 258 2 _ (Sl.nil _) (by omega) (by omega) (by omega) (by omega)).mono ?_
  rintro e w1 ⟨A1, c1, rfl, hb1, hx1⟩
  have hb1' : Byt U8 w1 w.heap.size A1 2 c1 [2, 1] := hb1
  clear hb1
  have hs1 := hb1'.sl
  obtain ⟨g, rfl, hgB, hgl, hcell⟩ := hb1'.open_ (by omega)
  obtain ⟨k0, _⟩ := hcell 0 (by omega)
  obtain ⟨k1, _⟩ := hcell 1 (by omega)
  have k0' : w1.cell? ⟨g, 0, none⟩ = some (.int .u8 2) := k0
  have k1' : w1.cell? ⟨g, 1, none⟩ = some (.int .u8 1) := k1
  clear hcell k0 k1 hb1'
  go_wp2_with fail
  refine (bits_Get_yes _ 2 c1 [2, 1] 0 2 _ hs1 (by omega) (by omega) (by omega)).mono ?_
  rintro e w2 ⟨rfl, rfl⟩
  have hu : unle (([2, 1] : List UInt8).drop 0 |>.take 2) = 258 := by decide
  rw [hu]
  clear hu
  go_wp2_with fail
  refine (bits_Var none 0 0 [] 300 _ (Sl.nil _) (by omega) (by omega)).mono ?_
  rintro e w2 ⟨A2, n2, c2, rfl, hb2, hx2⟩
  have hv : ([] : List UInt8) ++ varl (300 : Int).toNat = [172, 2] := by decide
  rw [hv] at hb2
  clear hv
  have ht := run_text_u8 hb2.sl
  go_wp2_with fail
  refine (bits_Zig' (r := 1) (by omega) (by omega) (show zigN (-1) = 1 by decide)).mono ?_
  rintro e w3 ⟨rfl, rfl⟩
  go_wp2_with fail
  refine (bits_Log' (r := 3) (by omega) (show logI 8 = 3 by decide +kernel)).mono ?_
  rintro e w3 ⟨rfl, rfl⟩
  go_wp2_with fail
  go_ret
  exact ⟨rfl, hx1.trans hx2⟩
end Go.Proofs.Ytajifneohomibaa
