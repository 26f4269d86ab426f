/-
  Chapter 11: the statement ScanTells, walked.
-/
import Derived.Test.YtcchlkialgjamaaScanLaw
import Derived.Test.YtcchlkialgjamaaScanRef
import Derived.Test.YtcchlkialgjamaaScanRefM
import Derived.Test.YtcchlkialgjamaaSameEn
namespace Go.Proofs.Ytcchlkialgjamaa
open Go.RowKit
set_option linter.unusedVariables false
set_option linter.unusedSimpArgs false
set_option linter.unnecessarySimpa false
set_option maxRecDepth 100000

theorem sameEn_self (xs : List En) : sameEn xs xs = true := by unfold sameEn; simp
theorem short_few {rows : List (List UInt8)} (h : fewB rows = true) : ShortF rows := fun r hr => by have := (fewB_iff.1 h).1 r hr; omega
set_option maxHeartbeats 1000000 in
theorem law_ScanTells (A : Option Addr) (n c : Nat) (rows : List (List UInt8)) (s last : Int) (w : World) (hl : Lst 1 blR w A n c rows) (hs63 : s ≤ 9223372036854775807) :
    Calls Try.prog 11 #[.slice A n c, .int .i64 s, .int .i64 last] w fun e w' => e = .returned (.bool true) ∧ Ext w w' := by
  have h63 := hl.n63
  obtain ⟨res, hres⟩ : ∃ q, fewB rows = q := ⟨_, rfl⟩
  have HR := Lib.hid hres
  cases res with
  | false =>
    clear hres
    go_enter Try.func11, Try.ntmps11
    go_wp2_with fail
    refine (law11_few hl HR).mono ?_
    rintro e w1 ⟨rfl, hx1⟩
    go_wp2_with fail
    refine (law11_known w1).mono ?_
    rintro e w2 ⟨rfl, hx2⟩
    go_wp2_with fail
    go_ret
    exact ⟨rfl, hx1.trans hx2⟩
  | true =>
    have hsh := short_few hres
    have hn : n ≤ 40 := by have := (fewB_iff.1 hres).2.1; rw [hl.len] at this; exact this
    have HSH := Lib.hid hsh
    obtain ⟨fr, hfr⟩ : ∃ q, firstL rows = q := ⟨_, rfl⟩
    have HFR := Lib.hid hfr
    clear hres hsh hfr
    go_enter Try.func11, Try.ntmps11
    go_wp2_with fail
    refine (law11_few hl HR).mono ?_
    rintro e w1 ⟨rfl, hx1⟩
    clear HR
    go_wp2_with fail
    refine (scan_Merge (hl.ext bl_rep hx1) hn HSH.out hs63).mono ?_
    rintro e w2 ⟨A2, n2, c2, rfl, h2, hx2⟩
    have gx2 := hx1.trans hx2
    go_wp2_with fail
    refine (ref10_Merge (hl.ext bl_rep gx2) hn HSH.out hs63).mono ?_
    rintro e w3 ⟨A3, n3, c3, rfl, h3, hx3⟩
    have gx3 := gx2.trans hx3
    go_wp2_with fail
    have hcl := ref_SameEntries (h2.lst.ext en_rep hx3) h3.lst
    rw [sameEn_self] at hcl
    refine hcl.mono ?_
    rintro e w4 ⟨rfl, hx4⟩
    have gx4 := gx3.trans hx4
    clear hcl h2 h3
    go_wp2_with fail
    refine (scan_Ends (last := last) (hl.ext bl_rep gx4) hn HSH.out).mono ?_
    rintro e w5 ⟨A5, c5, rfl, h5, hx5⟩
    have gx5 := gx4.trans hx5
    go_wp2_with fail
    refine (ref10_Ends (last := last) (hl.ext bl_rep gx5) hn HSH.out).mono ?_
    rintro e w6 ⟨A6, c6, rfl, h6, hx6⟩
    have gx6 := gx5.trans hx6
    go_wp2_with fail
    refine (ref10_Same (h5.lst.ext int_rep hx6) h6.lst (res := true) (Lib.hid (decide_eq_true rfl))).mono ?_
    rintro e w7 ⟨rfl, hx7⟩
    have gx7 := gx6.trans hx7
    clear h5 h6
    go_wp2_with fail
    refine (scan_First (hl.ext bl_rep gx7) hn HSH.out HFR).mono ?_
    rintro e w8 ⟨rfl, hx8⟩
    have gx8 := gx7.trans hx8
    go_wp2_with fail
    refine (ref10_First (hl.ext bl_rep gx8) hn HSH.out HFR).mono ?_
    rintro e w9 ⟨rfl, hx9⟩
    have gx9 := gx8.trans hx9
    clear HFR
    go_wp2_with fail
    refine (law11_known w9).mono ?_
    rintro e w10 ⟨rfl, hx10⟩
    go_wp2_with fail
    go_ret
    exact ⟨rfl, gx9.trans hx10⟩
end Go.Proofs.Ytcchlkialgjamaa
