/-
  Messages: contracts of the reference's batch and info.
-/
import Derived.Test.YtoeknbogaclfdaaZFromMsPartsToMsRight
import Derived.Test.YtoeknbogaclfdaaZTagRightRef
namespace Go.Proofs.Ytoeknbogaclfdaa
open Go.RowKit
set_option linter.unusedVariables false
set_option linter.unusedSimpArgs false
set_option linter.unnecessarySimpa false
set_option maxRecDepth 100000
theorem undef_notM {b : Bool} (h : some undef = some (Value.bool b)) : False := by
  injection h with h
  cases h
set_option maxHeartbeats 4000000 in
theorem ref_batchM {m : Ms} {A1 : Option Addr} {An1 Ac1 : Nat} {A2 : Option Addr} {An2 Ac2 : Nat} {A3 : Option Addr} {An3 Ac3 : Nat} {A4 : Option Addr} {An4 Ac4 : Nat} {w : World} (h : MsR w m A1 An1 Ac1 A2 An2 Ac2 A3 An3 Ac3 A4 An4 Ac4) (hf : Hid (EnFit m.ents)) (hp : 0 ≤ m.pos) (hp2 : m.pos ≤ 1099511627776) {r : Bool} (hr : Hid ((rightL m.chain && entsB m.pos m.ents) = r)) :
    Calls Try.prog 74 #[msV m A1 An1 Ac1 A2 An2 Ac2 A3 An3 Ac3 A4 An4 Ac4] w fun e w' => e = .returned (.bool r) ∧ Ext w w' := by
  have h63 := h.n63.2.1
  obtain ⟨k, n, p, e', s, q, ch, en, mk, da⟩ := m
  simp only at hp hp2 hr hf
  obtain ⟨qc, hqc⟩ : ∃ z, rightL ch = z := ⟨_, rfl⟩
  have HC := Lib.hid hqc
  have hr1 := hr.out
  rw [hqc] at hr1
  have hl : Lst 3 enR w A2 An2 Ac2 en := h.en
  clear hqc hr
  cases qc with
  | false =>
    obtain rfl : false = r := hr1
    go_enter Try.func74, Try.ntmps74
    go_wp2_with fail
    refine (ref_RightChain (h.ch.ext tg_rep (Ext.alloc _ _)) HC).mono ?_
    rintro e w2 ⟨rfl, hx2⟩
    have b0 := hx2.cell (cell_new w (msC ⟨k, n, p, e', s, q, ch, en, mk, da⟩ A1 An1 Ac1 A2 An2 Ac2 A3 An3 Ac3 A4 An4 Ac4) TMs 0)
    have b1 := hx2.cell (cell_new w (msC ⟨k, n, p, e', s, q, ch, en, mk, da⟩ A1 An1 Ac1 A2 An2 Ac2 A3 An3 Ac3 A4 An4 Ac4) TMs 1)
    have b2 := hx2.cell (cell_new w (msC ⟨k, n, p, e', s, q, ch, en, mk, da⟩ A1 An1 Ac1 A2 An2 Ac2 A3 An3 Ac3 A4 An4 Ac4) TMs 2)
    have b3 := hx2.cell (cell_new w (msC ⟨k, n, p, e', s, q, ch, en, mk, da⟩ A1 An1 Ac1 A2 An2 Ac2 A3 An3 Ac3 A4 An4 Ac4) TMs 3)
    have b4 := hx2.cell (cell_new w (msC ⟨k, n, p, e', s, q, ch, en, mk, da⟩ A1 An1 Ac1 A2 An2 Ac2 A3 An3 Ac3 A4 An4 Ac4) TMs 4)
    have b5 := hx2.cell (cell_new w (msC ⟨k, n, p, e', s, q, ch, en, mk, da⟩ A1 An1 Ac1 A2 An2 Ac2 A3 An3 Ac3 A4 An4 Ac4) TMs 5)
    have b6 := hx2.cell (cell_new w (msC ⟨k, n, p, e', s, q, ch, en, mk, da⟩ A1 An1 Ac1 A2 An2 Ac2 A3 An3 Ac3 A4 An4 Ac4) TMs 6)
    have b7 := hx2.cell (cell_new w (msC ⟨k, n, p, e', s, q, ch, en, mk, da⟩ A1 An1 Ac1 A2 An2 Ac2 A3 An3 Ac3 A4 An4 Ac4) TMs 7)
    have b8 := hx2.cell (cell_new w (msC ⟨k, n, p, e', s, q, ch, en, mk, da⟩ A1 An1 Ac1 A2 An2 Ac2 A3 An3 Ac3 A4 An4 Ac4) TMs 8)
    have b9 := hx2.cell (cell_new w (msC ⟨k, n, p, e', s, q, ch, en, mk, da⟩ A1 An1 Ac1 A2 An2 Ac2 A3 An3 Ac3 A4 An4 Ac4) TMs 9)
    have gx2 : Ext w w2 := (Ext.alloc _ _).trans hx2
    clear hx2 HC
    go_wp2_with fail
    go_ret
    exact ⟨rfl, gx2⟩
  | true =>
  rw [Bool.true_and] at hr1
  by_cases hn : An2 ≤ 4
  case neg =>
    obtain rfl : false = r := by
      rw [← hr1]
      unfold entsB
      rw [hl.len, decide_eq_false hn]
      rfl
    have d4 : decide ((4 : Int) < (An2 : Int)) = true := by simp; omega
    clear hr1
    go_enter Try.func74, Try.ntmps74
    go_wp2_with fail
    refine (ref_RightChain (h.ch.ext tg_rep (Ext.alloc _ _)) HC).mono ?_
    rintro e w2 ⟨rfl, hx2⟩
    have b0 := hx2.cell (cell_new w (msC ⟨k, n, p, e', s, q, ch, en, mk, da⟩ A1 An1 Ac1 A2 An2 Ac2 A3 An3 Ac3 A4 An4 Ac4) TMs 0)
    have b1 := hx2.cell (cell_new w (msC ⟨k, n, p, e', s, q, ch, en, mk, da⟩ A1 An1 Ac1 A2 An2 Ac2 A3 An3 Ac3 A4 An4 Ac4) TMs 1)
    have b2 := hx2.cell (cell_new w (msC ⟨k, n, p, e', s, q, ch, en, mk, da⟩ A1 An1 Ac1 A2 An2 Ac2 A3 An3 Ac3 A4 An4 Ac4) TMs 2)
    have b3 := hx2.cell (cell_new w (msC ⟨k, n, p, e', s, q, ch, en, mk, da⟩ A1 An1 Ac1 A2 An2 Ac2 A3 An3 Ac3 A4 An4 Ac4) TMs 3)
    have b4 := hx2.cell (cell_new w (msC ⟨k, n, p, e', s, q, ch, en, mk, da⟩ A1 An1 Ac1 A2 An2 Ac2 A3 An3 Ac3 A4 An4 Ac4) TMs 4)
    have b5 := hx2.cell (cell_new w (msC ⟨k, n, p, e', s, q, ch, en, mk, da⟩ A1 An1 Ac1 A2 An2 Ac2 A3 An3 Ac3 A4 An4 Ac4) TMs 5)
    have b6 := hx2.cell (cell_new w (msC ⟨k, n, p, e', s, q, ch, en, mk, da⟩ A1 An1 Ac1 A2 An2 Ac2 A3 An3 Ac3 A4 An4 Ac4) TMs 6)
    have b7 := hx2.cell (cell_new w (msC ⟨k, n, p, e', s, q, ch, en, mk, da⟩ A1 An1 Ac1 A2 An2 Ac2 A3 An3 Ac3 A4 An4 Ac4) TMs 7)
    have b8 := hx2.cell (cell_new w (msC ⟨k, n, p, e', s, q, ch, en, mk, da⟩ A1 An1 Ac1 A2 An2 Ac2 A3 An3 Ac3 A4 An4 Ac4) TMs 8)
    have b9 := hx2.cell (cell_new w (msC ⟨k, n, p, e', s, q, ch, en, mk, da⟩ A1 An1 Ac1 A2 An2 Ac2 A3 An3 Ac3 A4 An4 Ac4) TMs 9)
    have gx2 : Ext w w2 := (Ext.alloc _ _).trans hx2
    clear hx2 HC
    go_wp2_with fail
    go_ret
    exact ⟨rfl, gx2⟩
  have d4 : decide ((4 : Int) < (An2 : Int)) = false := by simp; omega
  have HR : Hid (entsF p en = r) := by
    unfold Hid
    rw [← hr1]
    unfold entsB
    rw [hl.len, decide_eq_true hn, Bool.true_and]
  obtain ⟨P, hP⟩ : ∃ P : Nat, p = (P : Int) := ⟨p.toNat, by omega⟩
  subst hP
  clear hr1
  go_enter Try.func74, Try.ntmps74
  go_wp2_with fail
  refine (ref_RightChain (h.ch.ext tg_rep (Ext.alloc _ _)) HC).mono ?_
  rintro e w2 ⟨rfl, hx2⟩
  have b0 := hx2.cell (cell_new w (msC ⟨k, n, (P : Int), e', s, q, ch, en, mk, da⟩ A1 An1 Ac1 A2 An2 Ac2 A3 An3 Ac3 A4 An4 Ac4) TMs 0)
  have b1 := hx2.cell (cell_new w (msC ⟨k, n, (P : Int), e', s, q, ch, en, mk, da⟩ A1 An1 Ac1 A2 An2 Ac2 A3 An3 Ac3 A4 An4 Ac4) TMs 1)
  have b2 := hx2.cell (cell_new w (msC ⟨k, n, (P : Int), e', s, q, ch, en, mk, da⟩ A1 An1 Ac1 A2 An2 Ac2 A3 An3 Ac3 A4 An4 Ac4) TMs 2)
  have b3 := hx2.cell (cell_new w (msC ⟨k, n, (P : Int), e', s, q, ch, en, mk, da⟩ A1 An1 Ac1 A2 An2 Ac2 A3 An3 Ac3 A4 An4 Ac4) TMs 3)
  have b4 := hx2.cell (cell_new w (msC ⟨k, n, (P : Int), e', s, q, ch, en, mk, da⟩ A1 An1 Ac1 A2 An2 Ac2 A3 An3 Ac3 A4 An4 Ac4) TMs 4)
  have b5 := hx2.cell (cell_new w (msC ⟨k, n, (P : Int), e', s, q, ch, en, mk, da⟩ A1 An1 Ac1 A2 An2 Ac2 A3 An3 Ac3 A4 An4 Ac4) TMs 5)
  have b6 := hx2.cell (cell_new w (msC ⟨k, n, (P : Int), e', s, q, ch, en, mk, da⟩ A1 An1 Ac1 A2 An2 Ac2 A3 An3 Ac3 A4 An4 Ac4) TMs 6)
  have b7 := hx2.cell (cell_new w (msC ⟨k, n, (P : Int), e', s, q, ch, en, mk, da⟩ A1 An1 Ac1 A2 An2 Ac2 A3 An3 Ac3 A4 An4 Ac4) TMs 7)
  have b8 := hx2.cell (cell_new w (msC ⟨k, n, (P : Int), e', s, q, ch, en, mk, da⟩ A1 An1 Ac1 A2 An2 Ac2 A3 An3 Ac3 A4 An4 Ac4) TMs 8)
  have b9 := hx2.cell (cell_new w (msC ⟨k, n, (P : Int), e', s, q, ch, en, mk, da⟩ A1 An1 Ac1 A2 An2 Ac2 A3 An3 Ac3 A4 An4 Ac4) TMs 9)
  have gx2 : Ext w w2 := (Ext.alloc _ _).trans hx2
  clear hx2 HC
  clear b0 b1 b3 b4 b5 b6 b8 b9
  go_wp2_with fail
  go_loopw [3] (fun i wr => ∃ (k : Nat), k ≤ An2 ∧ i = .int .i64 k ∧ Hid (entsF ((P : Int) + (k : Int)) (en.drop k) = r) ∧ Ext w2 wr) (fun i _ => An2 - (intOf i).toNat)
  case atStart => exact ⟨0, by omega, rfl, by unfold Hid; rw [← HR.out]; simp, Ext.refl _⟩
  case round =>
    clear HR
    obtain ⟨k, hk, rfl, hrk, hxr⟩ := hrel
    replace b2 := hxr.cell b2
    replace b7 := hxr.cell b7
    have gxr := gx2.trans hxr
    by_cases hlt : k < An2
    · obtain ⟨ga, oa, x, cs, rfl, hx, ⟨Aa, na, ca, rfl, sa0⟩, ha⟩ := hl.at2 en_rep (by omega) hlt
      have a0 : wr.cell? ⟨ga, oa + k * 3, none⟩ = _ := gxr.cell (ha 0 _ rfl)
      have a1 := gxr.cell (ha 1 _ rfl)
      have a2 := gxr.cell (ha 2 _ rfl)
      have hst := entsF_step (p := (P : Int) + (k : Int)) hx
      rw [hrk.out] at hst
      have h63a := sa0.n63
      have hsl := sa0.len
      obtain ⟨xt, xs', xd⟩ := x
      simp only at a0 a1 a2 hst hsl
      rw [hsl] at hst
      obtain ⟨z, hz⟩ : ∃ z, rightN xt xs' na = z := ⟨_, rfl⟩
      rw [hz] at hst
      have hcl := fun u => ref_RightEntry xt xs' Aa na ca u h63a.1
      rw [hz] at hcl
      have HST := Lib.hid hst
      clear hx ha hst hz hrk sa0 hsl
      cases z with
      | false =>
        obtain rfl : false = r := by rw [HST.out]; rfl
        clear HST
        go_wp2_with fail
        refine wp_region_typed Ext.steady rfl 42 rfl (by kernel_rfl) ?_
        apply Stage.step (Is _) [] (Is.keeps _) (by kernel_rfl)
        · intro w1 h1
          simp only [Given]
          go_wp2_with fail
          exact Post.isv (Ext.refl _) rfl rfl rfl
        apply Stage.step (Is _) [true] (Is.keeps _) (by kernel_rfl)
        · intro w1 h1
          simp only [List.nil_append, Given]
          rintro _ rfl
          have u7 := h1.cell b7
          go_wp2_with fail
          exact Post.isv (Ext.refl _) rfl rfl rfl
        apply Stage.step (Is _) [] (Is.keeps _) (by kernel_rfl)
        · intro w1 h1
          simp only [Given]
          go_wp2_with fail
          exact Post.isv (Ext.refl _) rfl rfl rfl
        apply Stage.step (Is _) [false, true, true] (Is.keeps _) (by kernel_rfl)
        · intro w1 h1
          simp only [List.nil_append, List.cons_append, Given]
          rintro _ rfl
          rintro _ rfl
          go_wp2_with fail
          exact Post.isv (Ext.refl _) rfl rfl rfl
        apply Stage.step (Is (enV xt xs' Aa na ca)) [false, false, false, true] (Is.keeps _) (by kernel_rfl)
        · intro w1 h1
          simp only [List.nil_append, List.cons_append, Given]
          rintro _ rfl
          have u0 := h1.cell a0
          have u1 := h1.cell a1
          have u2 := h1.cell a2
          go_wp2_with fail
          exact Post.isv (Ext.refl _) rfl rfl rfl
        apply Stage.step (Is (.bool false)) [false, false, false, false, true] (Is.keeps _) (by kernel_rfl)
        · intro w1 h1
          simp only [List.nil_append, List.cons_append, Given]
          rintro _ rfl
          go_wp2_with fail
          refine (hcl w1).mono ?_
          rintro e w2 ⟨rfl, hx2⟩
          go_wp2_with fail
          exact Post.isv hx2 rfl rfl rfl
        apply Stage.step (Is _) [false, false, false, false, false, true] (Is.keeps _) (by kernel_rfl)
        · intro w1 h1
          simp only [List.nil_append, List.cons_append, Given]
          rintro _ rfl
          go_wp2_with fail
          exact Post.isv (Ext.refl _) rfl rfl rfl
        apply Stage.step (Is _) [false, false, false, false, false, false, true] (Is.keeps _) (by kernel_rfl)
        · intro w1 h1
          simp only [List.nil_append, List.cons_append, Given]
          rintro _ rfl
          go_wp2_with fail
          exact Post.isv (Ext.refl _) rfl rfl rfl
        apply Stage.step (Is undef) [false, false, false, false, false, false, false, true] (Is.keeps _) (by kernel_rfl)
        · intro w1 h1
          simp only [List.nil_append, List.cons_append, Given]
          rintro _ rfl
          go_wp2_with fail
          all_goals first
            | exact Post.isv (Ext.refl _) rfl rfl rfl
            | exact (undef_notM ‹some undef = some (Value.bool _)›).elim
        apply Stage.step (Is undef) [false, false, false, false, false, false, false, true, true] (Is.keeps _) (by kernel_rfl)
        · intro w1 h1
          simp only [List.nil_append, List.cons_append, Given]
          rintro _ rfl
          rintro _ rfl
          go_wp2_with fail
          all_goals first
            | exact Post.isv (Ext.refl _) rfl rfl rfl
            | exact (undef_notM ‹some undef = some (Value.bool _)›).elim
        apply Stage.step (Is undef) [false, false, false, false, false, false, false, true] (Is.keeps _) (by kernel_rfl)
        · intro w1 h1
          simp only [List.nil_append, List.cons_append, Given]
          rintro _ rfl
          go_wp2_with fail
          all_goals first
            | exact Post.isv (Ext.refl _) rfl rfl rfl
            | exact (undef_notM ‹some undef = some (Value.bool _)›).elim
        apply Stage.step (Is undef) [false, false, false, false, false, false, false, true, false, true, true] (Is.keeps _) (by kernel_rfl)
        · intro w1 h1
          simp only [List.nil_append, List.cons_append, Given]
          rintro _ rfl
          rintro _ rfl
          rintro _ rfl
          go_wp2_with fail
          all_goals first
            | exact Post.isv (Ext.refl _) rfl rfl rfl
            | exact (undef_notM ‹some undef = some (Value.bool _)›).elim
        apply Stage.step (Is undef) [false, false, false, false, false, false, false, true, false, false, false, true] (Is.keeps _) (by kernel_rfl)
        · intro w1 h1
          simp only [List.nil_append, List.cons_append, Given]
          rintro _ rfl
          rintro _ rfl
          go_wp2_with fail
          all_goals first
            | exact Post.isv (Ext.refl _) rfl rfl rfl
            | exact (undef_notM ‹some undef = some (Value.bool _)›).elim
        apply Stage.step (Is undef) [false, false, false, false, false, false, false, true, false, false, false, false, true] (Is.keeps _) (by kernel_rfl)
        · intro w1 h1
          simp only [List.nil_append, List.cons_append, Given]
          rintro _ rfl
          rintro _ rfl
          go_wp2_with fail
          all_goals first
            | exact Post.isv (Ext.refl _) rfl rfl rfl
            | exact (undef_notM ‹some undef = some (Value.bool _)›).elim
        apply Stage.step (Is undef) [false, false, false, false, false, false, false, true] (Is.keeps _) (by kernel_rfl)
        · intro w1 h1
          simp only [List.nil_append, List.cons_append, Given]
          rintro _ rfl
          go_wp2_with fail
          all_goals first
            | exact Post.isv (Ext.refl _) rfl rfl rfl
            | exact (undef_notM ‹some undef = some (Value.bool _)›).elim
        apply Stage.step (Is undef) [false, false, false, false, false, false, false, true, false, false, false, false, false, false, true] (Is.keeps _) (by kernel_rfl)
        · intro w1 h1
          simp only [List.nil_append, List.cons_append, Given]
          rintro _ rfl
          rintro _ rfl
          go_wp2_with fail
          all_goals first
            | exact Post.isv (Ext.refl _) rfl rfl rfl
            | exact (undef_notM ‹some undef = some (Value.bool _)›).elim
        apply Stage.step (Is undef) [false, false, false, false, false, false, false, true, false, false, false, false, false, false, false, true] (Is.keeps _) (by kernel_rfl)
        · intro w1 h1
          simp only [List.nil_append, List.cons_append, Given]
          rintro _ rfl
          rintro _ rfl
          go_wp2_with fail
          all_goals first
            | exact Post.isv (Ext.refl _) rfl rfl rfl
            | exact (undef_notM ‹some undef = some (Value.bool _)›).elim
        apply Stage.step (Is undef) [false, false, false, false, false, false, false, true] (Is.keeps _) (by kernel_rfl)
        · intro w1 h1
          simp only [List.nil_append, List.cons_append, Given]
          rintro _ rfl
          go_wp2_with fail
          all_goals first
            | exact Post.isv (Ext.refl _) rfl rfl rfl
            | exact (undef_notM ‹some undef = some (Value.bool _)›).elim
        apply Stage.step (Is undef) [false, false, false, false, false, false, false, true, false, false, false, false, false, false, false, false, true, true] (Is.keeps _) (by kernel_rfl)
        · intro w1 h1
          simp only [List.nil_append, List.cons_append, Given]
          rintro _ rfl
          rintro _ rfl
          rintro _ rfl
          go_wp2_with fail
          all_goals first
            | exact Post.isv (Ext.refl _) rfl rfl rfl
            | exact (undef_notM ‹some undef = some (Value.bool _)›).elim
        apply Stage.step (Is undef) [false, false, false, false, false, false, false, true, false, false, false, false, false, true, false, false, false, false, true] (Is.keeps _) (by kernel_rfl)
        · intro w1 h1
          simp only [List.nil_append, List.cons_append, Given]
          rintro _ rfl
          rintro _ rfl
          rintro _ rfl
          go_wp2_with fail
          all_goals first
            | exact Post.isv (Ext.refl _) rfl rfl rfl
            | exact (undef_notM ‹some undef = some (Value.bool _)›).elim
        apply Stage.step (Is (.bool true)) [false, false, false, false, false, false, false, true, false, false, false, false, false, false, false, false, false, false, false, true] (Is.keeps _) (by kernel_rfl)
        · intro w1 h1
          simp only [List.nil_append, List.cons_append, Given]
          rintro _ rfl
          rintro _ rfl
          go_wp2_with fail
          exact Post.isv (Ext.refl _) rfl rfl rfl
        apply Stage.nil
        intro w1 h1
        simp only [List.nil_append, List.cons_append]
        refine Fin.is_ ?_
        refine Fin.is_ ?_
        refine Fin.is_ ?_
        refine Fin.is_ ?_
        refine Fin.is_ ?_
        refine Fin.is_ ?_
        refine Fin.is_ ?_
        refine Fin.is_ ?_
        refine Fin.is_ ?_
        refine Fin.is_ ?_
        refine Fin.is_ ?_
        refine Fin.is_ ?_
        refine Fin.is_ ?_
        refine Fin.is_ ?_
        refine Fin.is_ ?_
        refine Fin.is_ ?_
        refine Fin.is_ ?_
        refine Fin.is_ ?_
        refine Fin.is_ ?_
        refine Fin.is_ ?_
        refine Fin.is_ ?_
        refine Fin.nil_ ?_
        go_simp
        go_wp2_with fail
        go_ret
        exact ⟨rfl, gxr.trans h1⟩
      | true =>
        by_cases he : xs' = (P : Int) + 1 + (k : Int)
        · have HN : Hid (entsF ((P : Int) + ((k + 1 : Nat) : Int)) (en.drop (k + 1)) = r) := by
            unfold Hid
            rw [HST.out, decide_eq_true (by omega)]
            rw [show (P : Int) + ((k + 1 : Nat) : Int) = (P : Int) + (k : Int) + 1 by push_cast; omega]
            rfl
          have db : (xs' != (P : Int) + 1 + (k : Int)) = false := by simpa using he
          clear HST he
          go_wp2_with fail
          refine wp_region_typed Ext.steady rfl 42 rfl (by kernel_rfl) ?_
          apply Stage.step (Is _) [] (Is.keeps _) (by kernel_rfl)
          · intro w1 h1
            simp only [Given]
            go_wp2_with fail
            exact Post.isv (Ext.refl _) rfl rfl rfl
          apply Stage.step (Is _) [true] (Is.keeps _) (by kernel_rfl)
          · intro w1 h1
            simp only [List.nil_append, Given]
            rintro _ rfl
            have u7 := h1.cell b7
            go_wp2_with fail
            exact Post.isv (Ext.refl _) rfl rfl rfl
          apply Stage.step (Is _) [] (Is.keeps _) (by kernel_rfl)
          · intro w1 h1
            simp only [Given]
            go_wp2_with fail
            exact Post.isv (Ext.refl _) rfl rfl rfl
          apply Stage.step (Is _) [false, true, true] (Is.keeps _) (by kernel_rfl)
          · intro w1 h1
            simp only [List.nil_append, List.cons_append, Given]
            rintro _ rfl
            rintro _ rfl
            go_wp2_with fail
            exact Post.isv (Ext.refl _) rfl rfl rfl
          apply Stage.step (Is (enV xt xs' Aa na ca)) [false, false, false, true] (Is.keeps _) (by kernel_rfl)
          · intro w1 h1
            simp only [List.nil_append, List.cons_append, Given]
            rintro _ rfl
            have u0 := h1.cell a0
            have u1 := h1.cell a1
            have u2 := h1.cell a2
            go_wp2_with fail
            exact Post.isv (Ext.refl _) rfl rfl rfl
          apply Stage.step (Is (.bool true)) [false, false, false, false, true] (Is.keeps _) (by kernel_rfl)
          · intro w1 h1
            simp only [List.nil_append, List.cons_append, Given]
            rintro _ rfl
            go_wp2_with fail
            refine (hcl w1).mono ?_
            rintro e w2 ⟨rfl, hx2⟩
            go_wp2_with fail
            exact Post.isv hx2 rfl rfl rfl
          apply Stage.step (Is _) [false, false, false, false, false, true] (Is.keeps _) (by kernel_rfl)
          · intro w1 h1
            simp only [List.nil_append, List.cons_append, Given]
            rintro _ rfl
            go_wp2_with fail
            exact Post.isv (Ext.refl _) rfl rfl rfl
          apply Stage.step (Is _) [false, false, false, false, false, false, true] (Is.keeps _) (by kernel_rfl)
          · intro w1 h1
            simp only [List.nil_append, List.cons_append, Given]
            rintro _ rfl
            go_wp2_with fail
            exact Post.isv (Ext.refl _) rfl rfl rfl
          apply Stage.step (Is _) [false, false, false, false, false, false, false, true] (Is.keeps _) (by kernel_rfl)
          · intro w1 h1
            simp only [List.nil_append, List.cons_append, Given]
            rintro _ rfl
            go_wp2_with fail
            exact Post.isv (Ext.refl _) rfl rfl rfl
          apply Stage.step (Is _) [false, false, false, false, false, false, false, true, true] (Is.keeps _) (by kernel_rfl)
          · intro w1 h1
            simp only [List.nil_append, List.cons_append, Given]
            rintro _ rfl
            rintro _ rfl
            have u7 := h1.cell b7
            go_wp2_with fail
            exact Post.isv (Ext.refl _) rfl rfl rfl
          apply Stage.step (Is _) [false, false, false, false, false, false, false, true] (Is.keeps _) (by kernel_rfl)
          · intro w1 h1
            simp only [List.nil_append, List.cons_append, Given]
            rintro _ rfl
            go_wp2_with fail
            exact Post.isv (Ext.refl _) rfl rfl rfl
          apply Stage.step (Is _) [false, false, false, false, false, false, false, true, false, true, true] (Is.keeps _) (by kernel_rfl)
          · intro w1 h1
            simp only [List.nil_append, List.cons_append, Given]
            rintro _ rfl
            rintro _ rfl
            rintro _ rfl
            go_wp2_with fail
            exact Post.isv (Ext.refl _) rfl rfl rfl
          apply Stage.step (Is _) [false, false, false, false, false, false, false, true, false, false, false, true] (Is.keeps _) (by kernel_rfl)
          · intro w1 h1
            simp only [List.nil_append, List.cons_append, Given]
            rintro _ rfl
            rintro _ rfl
            go_wp2_with fail
            exact Post.isv (Ext.refl _) rfl rfl rfl
          apply Stage.step (Is _) [false, false, false, false, false, false, false, true, false, false, false, false, true] (Is.keeps _) (by kernel_rfl)
          · intro w1 h1
            simp only [List.nil_append, List.cons_append, Given]
            rintro _ rfl
            rintro _ rfl
            have u1 := h1.cell a1
            go_wp2_with fail
            exact Post.isv (Ext.refl _) rfl rfl rfl
          apply Stage.step (Is _) [false, false, false, false, false, false, false, true] (Is.keeps _) (by kernel_rfl)
          · intro w1 h1
            simp only [List.nil_append, List.cons_append, Given]
            rintro _ rfl
            go_wp2_with fail
            exact Post.isv (Ext.refl _) rfl rfl rfl
          apply Stage.step (Is _) [false, false, false, false, false, false, false, true, false, false, false, false, false, false, true] (Is.keeps _) (by kernel_rfl)
          · intro w1 h1
            simp only [List.nil_append, List.cons_append, Given]
            rintro _ rfl
            rintro _ rfl
            have u2 := h1.cell b2
            go_wp2_with fail
            exact Post.isv (Ext.refl _) rfl rfl rfl
          apply Stage.step (Is _) [false, false, false, false, false, false, false, true, false, false, false, false, false, false, false, true] (Is.keeps _) (by kernel_rfl)
          · intro w1 h1
            simp only [List.nil_append, List.cons_append, Given]
            rintro _ rfl
            rintro _ rfl
            go_wp2_with fail
            exact Post.isv (Ext.refl _) rfl rfl rfl
          apply Stage.step (Is _) [false, false, false, false, false, false, false, true] (Is.keeps _) (by kernel_rfl)
          · intro w1 h1
            simp only [List.nil_append, List.cons_append, Given]
            rintro _ rfl
            go_wp2_with fail
            exact Post.isv (Ext.refl _) rfl rfl rfl
          apply Stage.step (Is _) [false, false, false, false, false, false, false, true, false, false, false, false, false, false, false, false, true, true] (Is.keeps _) (by kernel_rfl)
          · intro w1 h1
            simp only [List.nil_append, List.cons_append, Given]
            rintro _ rfl
            rintro _ rfl
            rintro _ rfl
            go_wp2_with fail
            exact Post.isv (Ext.refl _) rfl rfl rfl
          apply Stage.step (Is _) [false, false, false, false, false, false, false, true, false, false, false, false, false, true, false, false, false, false, true] (Is.keeps _) (by kernel_rfl)
          · intro w1 h1
            simp only [List.nil_append, List.cons_append, Given]
            rintro _ rfl
            rintro _ rfl
            rintro _ rfl
            go_wp2_with fail
            exact Post.isv (Ext.refl _) rfl rfl rfl
          apply Stage.step (Is _) [false, false, false, false, false, false, false, true, false, false, false, false, false, false, false, false, false, false, false, true] (Is.keeps _) (by kernel_rfl)
          · intro w1 h1
            simp only [List.nil_append, List.cons_append, Given]
            rintro _ rfl
            rintro _ rfl
            go_wp2_with fail
            exact Post.isv (Ext.refl _) rfl rfl rfl
          apply Stage.nil
          intro w1 h1
          simp only [List.nil_append, List.cons_append]
          refine Fin.is_ ?_
          refine Fin.is_ ?_
          refine Fin.is_ ?_
          refine Fin.is_ ?_
          refine Fin.is_ ?_
          refine Fin.is_ ?_
          refine Fin.is_ ?_
          refine Fin.is_ ?_
          refine Fin.is_ ?_
          refine Fin.is_ ?_
          refine Fin.is_ ?_
          refine Fin.is_ ?_
          refine Fin.is_ ?_
          refine Fin.is_ ?_
          refine Fin.is_ ?_
          refine Fin.is_ ?_
          refine Fin.is_ ?_
          refine Fin.is_ ?_
          refine Fin.is_ ?_
          refine Fin.is_ ?_
          refine Fin.is_ ?_
          refine Fin.nil_ ?_
          go_simp
          go_wp2_with fail
          go_roundw
          case rel => exact ⟨k + 1, by omega, by go_num, HN, hxr.trans h1⟩
          case measure => simp [intOf]; omega
        · obtain rfl : false = r := by rw [HST.out, decide_eq_false (by omega)]; rfl
          have db : (xs' != (P : Int) + 1 + (k : Int)) = true := by simpa using he
          clear HST he
          go_wp2_with fail
          refine wp_region_typed Ext.steady rfl 42 rfl (by kernel_rfl) ?_
          apply Stage.step (Is _) [] (Is.keeps _) (by kernel_rfl)
          · intro w1 h1
            simp only [Given]
            go_wp2_with fail
            exact Post.isv (Ext.refl _) rfl rfl rfl
          apply Stage.step (Is _) [true] (Is.keeps _) (by kernel_rfl)
          · intro w1 h1
            simp only [List.nil_append, Given]
            rintro _ rfl
            have u7 := h1.cell b7
            go_wp2_with fail
            exact Post.isv (Ext.refl _) rfl rfl rfl
          apply Stage.step (Is _) [] (Is.keeps _) (by kernel_rfl)
          · intro w1 h1
            simp only [Given]
            go_wp2_with fail
            exact Post.isv (Ext.refl _) rfl rfl rfl
          apply Stage.step (Is _) [false, true, true] (Is.keeps _) (by kernel_rfl)
          · intro w1 h1
            simp only [List.nil_append, List.cons_append, Given]
            rintro _ rfl
            rintro _ rfl
            go_wp2_with fail
            exact Post.isv (Ext.refl _) rfl rfl rfl
          apply Stage.step (Is (enV xt xs' Aa na ca)) [false, false, false, true] (Is.keeps _) (by kernel_rfl)
          · intro w1 h1
            simp only [List.nil_append, List.cons_append, Given]
            rintro _ rfl
            have u0 := h1.cell a0
            have u1 := h1.cell a1
            have u2 := h1.cell a2
            go_wp2_with fail
            exact Post.isv (Ext.refl _) rfl rfl rfl
          apply Stage.step (Is (.bool true)) [false, false, false, false, true] (Is.keeps _) (by kernel_rfl)
          · intro w1 h1
            simp only [List.nil_append, List.cons_append, Given]
            rintro _ rfl
            go_wp2_with fail
            refine (hcl w1).mono ?_
            rintro e w2 ⟨rfl, hx2⟩
            go_wp2_with fail
            exact Post.isv hx2 rfl rfl rfl
          apply Stage.step (Is _) [false, false, false, false, false, true] (Is.keeps _) (by kernel_rfl)
          · intro w1 h1
            simp only [List.nil_append, List.cons_append, Given]
            rintro _ rfl
            go_wp2_with fail
            exact Post.isv (Ext.refl _) rfl rfl rfl
          apply Stage.step (Is _) [false, false, false, false, false, false, true] (Is.keeps _) (by kernel_rfl)
          · intro w1 h1
            simp only [List.nil_append, List.cons_append, Given]
            rintro _ rfl
            go_wp2_with fail
            exact Post.isv (Ext.refl _) rfl rfl rfl
          apply Stage.step (Is _) [false, false, false, false, false, false, false, true] (Is.keeps _) (by kernel_rfl)
          · intro w1 h1
            simp only [List.nil_append, List.cons_append, Given]
            rintro _ rfl
            go_wp2_with fail
            exact Post.isv (Ext.refl _) rfl rfl rfl
          apply Stage.step (Is _) [false, false, false, false, false, false, false, true, true] (Is.keeps _) (by kernel_rfl)
          · intro w1 h1
            simp only [List.nil_append, List.cons_append, Given]
            rintro _ rfl
            rintro _ rfl
            have u7 := h1.cell b7
            go_wp2_with fail
            exact Post.isv (Ext.refl _) rfl rfl rfl
          apply Stage.step (Is _) [false, false, false, false, false, false, false, true] (Is.keeps _) (by kernel_rfl)
          · intro w1 h1
            simp only [List.nil_append, List.cons_append, Given]
            rintro _ rfl
            go_wp2_with fail
            exact Post.isv (Ext.refl _) rfl rfl rfl
          apply Stage.step (Is _) [false, false, false, false, false, false, false, true, false, true, true] (Is.keeps _) (by kernel_rfl)
          · intro w1 h1
            simp only [List.nil_append, List.cons_append, Given]
            rintro _ rfl
            rintro _ rfl
            rintro _ rfl
            go_wp2_with fail
            exact Post.isv (Ext.refl _) rfl rfl rfl
          apply Stage.step (Is _) [false, false, false, false, false, false, false, true, false, false, false, true] (Is.keeps _) (by kernel_rfl)
          · intro w1 h1
            simp only [List.nil_append, List.cons_append, Given]
            rintro _ rfl
            rintro _ rfl
            go_wp2_with fail
            exact Post.isv (Ext.refl _) rfl rfl rfl
          apply Stage.step (Is _) [false, false, false, false, false, false, false, true, false, false, false, false, true] (Is.keeps _) (by kernel_rfl)
          · intro w1 h1
            simp only [List.nil_append, List.cons_append, Given]
            rintro _ rfl
            rintro _ rfl
            have u1 := h1.cell a1
            go_wp2_with fail
            exact Post.isv (Ext.refl _) rfl rfl rfl
          apply Stage.step (Is _) [false, false, false, false, false, false, false, true] (Is.keeps _) (by kernel_rfl)
          · intro w1 h1
            simp only [List.nil_append, List.cons_append, Given]
            rintro _ rfl
            go_wp2_with fail
            exact Post.isv (Ext.refl _) rfl rfl rfl
          apply Stage.step (Is _) [false, false, false, false, false, false, false, true, false, false, false, false, false, false, true] (Is.keeps _) (by kernel_rfl)
          · intro w1 h1
            simp only [List.nil_append, List.cons_append, Given]
            rintro _ rfl
            rintro _ rfl
            have u2 := h1.cell b2
            go_wp2_with fail
            exact Post.isv (Ext.refl _) rfl rfl rfl
          apply Stage.step (Is _) [false, false, false, false, false, false, false, true, false, false, false, false, false, false, false, true] (Is.keeps _) (by kernel_rfl)
          · intro w1 h1
            simp only [List.nil_append, List.cons_append, Given]
            rintro _ rfl
            rintro _ rfl
            go_wp2_with fail
            exact Post.isv (Ext.refl _) rfl rfl rfl
          apply Stage.step (Is _) [false, false, false, false, false, false, false, true] (Is.keeps _) (by kernel_rfl)
          · intro w1 h1
            simp only [List.nil_append, List.cons_append, Given]
            rintro _ rfl
            go_wp2_with fail
            exact Post.isv (Ext.refl _) rfl rfl rfl
          apply Stage.step (Is _) [false, false, false, false, false, false, false, true, false, false, false, false, false, false, false, false, true, true] (Is.keeps _) (by kernel_rfl)
          · intro w1 h1
            simp only [List.nil_append, List.cons_append, Given]
            rintro _ rfl
            rintro _ rfl
            rintro _ rfl
            go_wp2_with fail
            exact Post.isv (Ext.refl _) rfl rfl rfl
          apply Stage.step (Is _) [false, false, false, false, false, false, false, true, false, false, false, false, false, true, false, false, false, false, true] (Is.keeps _) (by kernel_rfl)
          · intro w1 h1
            simp only [List.nil_append, List.cons_append, Given]
            rintro _ rfl
            rintro _ rfl
            rintro _ rfl
            go_wp2_with fail
            exact Post.isv (Ext.refl _) rfl rfl rfl
          apply Stage.step (Is _) [false, false, false, false, false, false, false, true, false, false, false, false, false, false, false, false, false, false, false, true] (Is.keeps _) (by kernel_rfl)
          · intro w1 h1
            simp only [List.nil_append, List.cons_append, Given]
            rintro _ rfl
            rintro _ rfl
            go_wp2_with fail
            exact Post.isv (Ext.refl _) rfl rfl rfl
          apply Stage.nil
          intro w1 h1
          simp only [List.nil_append, List.cons_append]
          refine Fin.is_ ?_
          refine Fin.is_ ?_
          refine Fin.is_ ?_
          refine Fin.is_ ?_
          refine Fin.is_ ?_
          refine Fin.is_ ?_
          refine Fin.is_ ?_
          refine Fin.is_ ?_
          refine Fin.is_ ?_
          refine Fin.is_ ?_
          refine Fin.is_ ?_
          refine Fin.is_ ?_
          refine Fin.is_ ?_
          refine Fin.is_ ?_
          refine Fin.is_ ?_
          refine Fin.is_ ?_
          refine Fin.is_ ?_
          refine Fin.is_ ?_
          refine Fin.is_ ?_
          refine Fin.is_ ?_
          refine Fin.is_ ?_
          refine Fin.nil_ ?_
          go_simp
          go_wp2_with fail
          go_ret
          exact ⟨rfl, gxr.trans h1⟩
    · obtain rfl : k = An2 := by omega
      have hr1 := hrk.out
      rw [List.drop_of_length_le (by rw [hl.len]; exact Nat.le_refl _)] at hr1
      obtain rfl : true = r := hr1
      clear hrk
      go_wp2_with fail
      go_ret
      exact ⟨rfl, gxr⟩
set_option maxHeartbeats 4000000 in
theorem ref_infoM {m : Ms} {A1 : Option Addr} {An1 Ac1 : Nat} {A2 : Option Addr} {An2 Ac2 : Nat} {A3 : Option Addr} {An3 Ac3 : Nat} {A4 : Option Addr} {An4 Ac4 : Nat} {w : World} (h : MsR w m A1 An1 Ac1 A2 An2 Ac2 A3 An3 Ac3 A4 An4 Ac4) (hs : Hid (Shorts m.marks)) {r : Bool} (hr : Hid ((rightL m.chain && marksT m.marks) = r)) :
    Calls Try.prog 75 #[msV m A1 An1 Ac1 A2 An2 Ac2 A3 An3 Ac3 A4 An4 Ac4] w fun e w' => e = .returned (.bool r) ∧ Ext w w' := by
  have h63 := h.n63.2.2.1
  obtain ⟨k, n, p, e', s, q, ch, en, mk, da⟩ := m
  simp only at hs hr
  obtain ⟨qc, hqc⟩ : ∃ z, rightL ch = z := ⟨_, rfl⟩
  have HC := Lib.hid hqc
  have hr1 := hr.out
  rw [hqc] at hr1
  have hl : Lst 4 mkR w A3 An3 Ac3 mk := h.ms
  clear hqc hr
  cases qc with
  | false =>
    obtain rfl : false = r := hr1
    go_enter Try.func75, Try.ntmps75
    go_wp2_with fail
    refine (ref_RightChain (h.ch.ext tg_rep (Ext.alloc _ _)) HC).mono ?_
    rintro e w2 ⟨rfl, hx2⟩
    have b0 := hx2.cell (cell_new w (msC ⟨k, n, p, e', s, q, ch, en, mk, da⟩ A1 An1 Ac1 A2 An2 Ac2 A3 An3 Ac3 A4 An4 Ac4) TMs 0)
    have b1 := hx2.cell (cell_new w (msC ⟨k, n, p, e', s, q, ch, en, mk, da⟩ A1 An1 Ac1 A2 An2 Ac2 A3 An3 Ac3 A4 An4 Ac4) TMs 1)
    have b2 := hx2.cell (cell_new w (msC ⟨k, n, p, e', s, q, ch, en, mk, da⟩ A1 An1 Ac1 A2 An2 Ac2 A3 An3 Ac3 A4 An4 Ac4) TMs 2)
    have b3 := hx2.cell (cell_new w (msC ⟨k, n, p, e', s, q, ch, en, mk, da⟩ A1 An1 Ac1 A2 An2 Ac2 A3 An3 Ac3 A4 An4 Ac4) TMs 3)
    have b4 := hx2.cell (cell_new w (msC ⟨k, n, p, e', s, q, ch, en, mk, da⟩ A1 An1 Ac1 A2 An2 Ac2 A3 An3 Ac3 A4 An4 Ac4) TMs 4)
    have b5 := hx2.cell (cell_new w (msC ⟨k, n, p, e', s, q, ch, en, mk, da⟩ A1 An1 Ac1 A2 An2 Ac2 A3 An3 Ac3 A4 An4 Ac4) TMs 5)
    have b6 := hx2.cell (cell_new w (msC ⟨k, n, p, e', s, q, ch, en, mk, da⟩ A1 An1 Ac1 A2 An2 Ac2 A3 An3 Ac3 A4 An4 Ac4) TMs 6)
    have b7 := hx2.cell (cell_new w (msC ⟨k, n, p, e', s, q, ch, en, mk, da⟩ A1 An1 Ac1 A2 An2 Ac2 A3 An3 Ac3 A4 An4 Ac4) TMs 7)
    have b8 := hx2.cell (cell_new w (msC ⟨k, n, p, e', s, q, ch, en, mk, da⟩ A1 An1 Ac1 A2 An2 Ac2 A3 An3 Ac3 A4 An4 Ac4) TMs 8)
    have b9 := hx2.cell (cell_new w (msC ⟨k, n, p, e', s, q, ch, en, mk, da⟩ A1 An1 Ac1 A2 An2 Ac2 A3 An3 Ac3 A4 An4 Ac4) TMs 9)
    have gx2 : Ext w w2 := (Ext.alloc _ _).trans hx2
    clear hx2 HC
    go_wp2_with fail
    go_ret
    exact ⟨rfl, gx2⟩
  | true =>
  rw [Bool.true_and] at hr1
  by_cases hn1 : 1 ≤ An3
  case neg =>
    obtain rfl : false = r := by
      rw [← hr1]
      unfold marksT
      rw [hl.len, decide_eq_false (by omega)]
      rfl
    have d4 : decide ((An3 : Int) < 1) = true := by simp; omega
    clear hr1
    go_enter Try.func75, Try.ntmps75
    go_wp2_with fail
    refine (ref_RightChain (h.ch.ext tg_rep (Ext.alloc _ _)) HC).mono ?_
    rintro e w2 ⟨rfl, hx2⟩
    have b0 := hx2.cell (cell_new w (msC ⟨k, n, p, e', s, q, ch, en, mk, da⟩ A1 An1 Ac1 A2 An2 Ac2 A3 An3 Ac3 A4 An4 Ac4) TMs 0)
    have b1 := hx2.cell (cell_new w (msC ⟨k, n, p, e', s, q, ch, en, mk, da⟩ A1 An1 Ac1 A2 An2 Ac2 A3 An3 Ac3 A4 An4 Ac4) TMs 1)
    have b2 := hx2.cell (cell_new w (msC ⟨k, n, p, e', s, q, ch, en, mk, da⟩ A1 An1 Ac1 A2 An2 Ac2 A3 An3 Ac3 A4 An4 Ac4) TMs 2)
    have b3 := hx2.cell (cell_new w (msC ⟨k, n, p, e', s, q, ch, en, mk, da⟩ A1 An1 Ac1 A2 An2 Ac2 A3 An3 Ac3 A4 An4 Ac4) TMs 3)
    have b4 := hx2.cell (cell_new w (msC ⟨k, n, p, e', s, q, ch, en, mk, da⟩ A1 An1 Ac1 A2 An2 Ac2 A3 An3 Ac3 A4 An4 Ac4) TMs 4)
    have b5 := hx2.cell (cell_new w (msC ⟨k, n, p, e', s, q, ch, en, mk, da⟩ A1 An1 Ac1 A2 An2 Ac2 A3 An3 Ac3 A4 An4 Ac4) TMs 5)
    have b6 := hx2.cell (cell_new w (msC ⟨k, n, p, e', s, q, ch, en, mk, da⟩ A1 An1 Ac1 A2 An2 Ac2 A3 An3 Ac3 A4 An4 Ac4) TMs 6)
    have b7 := hx2.cell (cell_new w (msC ⟨k, n, p, e', s, q, ch, en, mk, da⟩ A1 An1 Ac1 A2 An2 Ac2 A3 An3 Ac3 A4 An4 Ac4) TMs 7)
    have b8 := hx2.cell (cell_new w (msC ⟨k, n, p, e', s, q, ch, en, mk, da⟩ A1 An1 Ac1 A2 An2 Ac2 A3 An3 Ac3 A4 An4 Ac4) TMs 8)
    have b9 := hx2.cell (cell_new w (msC ⟨k, n, p, e', s, q, ch, en, mk, da⟩ A1 An1 Ac1 A2 An2 Ac2 A3 An3 Ac3 A4 An4 Ac4) TMs 9)
    have gx2 : Ext w w2 := (Ext.alloc _ _).trans hx2
    clear hx2 HC
    go_wp2_with fail
    go_ret
    exact ⟨rfl, gx2⟩
  have d1 : decide ((An3 : Int) < 1) = false := by simp; omega
  by_cases hn17 : An3 ≤ 17
  case neg =>
    obtain rfl : false = r := by
      rw [← hr1]
      unfold marksT
      rw [hl.len, decide_eq_false (by omega)]
      rfl
    have d4 : decide ((17 : Int) < (An3 : Int)) = true := by simp; omega
    clear hr1
    go_enter Try.func75, Try.ntmps75
    go_wp2_with fail
    refine (ref_RightChain (h.ch.ext tg_rep (Ext.alloc _ _)) HC).mono ?_
    rintro e w2 ⟨rfl, hx2⟩
    have b0 := hx2.cell (cell_new w (msC ⟨k, n, p, e', s, q, ch, en, mk, da⟩ A1 An1 Ac1 A2 An2 Ac2 A3 An3 Ac3 A4 An4 Ac4) TMs 0)
    have b1 := hx2.cell (cell_new w (msC ⟨k, n, p, e', s, q, ch, en, mk, da⟩ A1 An1 Ac1 A2 An2 Ac2 A3 An3 Ac3 A4 An4 Ac4) TMs 1)
    have b2 := hx2.cell (cell_new w (msC ⟨k, n, p, e', s, q, ch, en, mk, da⟩ A1 An1 Ac1 A2 An2 Ac2 A3 An3 Ac3 A4 An4 Ac4) TMs 2)
    have b3 := hx2.cell (cell_new w (msC ⟨k, n, p, e', s, q, ch, en, mk, da⟩ A1 An1 Ac1 A2 An2 Ac2 A3 An3 Ac3 A4 An4 Ac4) TMs 3)
    have b4 := hx2.cell (cell_new w (msC ⟨k, n, p, e', s, q, ch, en, mk, da⟩ A1 An1 Ac1 A2 An2 Ac2 A3 An3 Ac3 A4 An4 Ac4) TMs 4)
    have b5 := hx2.cell (cell_new w (msC ⟨k, n, p, e', s, q, ch, en, mk, da⟩ A1 An1 Ac1 A2 An2 Ac2 A3 An3 Ac3 A4 An4 Ac4) TMs 5)
    have b6 := hx2.cell (cell_new w (msC ⟨k, n, p, e', s, q, ch, en, mk, da⟩ A1 An1 Ac1 A2 An2 Ac2 A3 An3 Ac3 A4 An4 Ac4) TMs 6)
    have b7 := hx2.cell (cell_new w (msC ⟨k, n, p, e', s, q, ch, en, mk, da⟩ A1 An1 Ac1 A2 An2 Ac2 A3 An3 Ac3 A4 An4 Ac4) TMs 7)
    have b8 := hx2.cell (cell_new w (msC ⟨k, n, p, e', s, q, ch, en, mk, da⟩ A1 An1 Ac1 A2 An2 Ac2 A3 An3 Ac3 A4 An4 Ac4) TMs 8)
    have b9 := hx2.cell (cell_new w (msC ⟨k, n, p, e', s, q, ch, en, mk, da⟩ A1 An1 Ac1 A2 An2 Ac2 A3 An3 Ac3 A4 An4 Ac4) TMs 9)
    have gx2 : Ext w w2 := (Ext.alloc _ _).trans hx2
    clear hx2 HC
    go_wp2_with fail
    go_ret
    exact ⟨rfl, gx2⟩
  have d17 : decide ((17 : Int) < (An3 : Int)) = false := by simp; omega
  have HR : Hid (mk.all markT = r) := by
    unfold Hid
    rw [← hr1]
    unfold marksT
    rw [hl.len, decide_eq_true ⟨hn1, hn17⟩, Bool.true_and]
  clear hr1
  go_enter Try.func75, Try.ntmps75
  go_wp2_with fail
  refine (ref_RightChain (h.ch.ext tg_rep (Ext.alloc _ _)) HC).mono ?_
  rintro e w2 ⟨rfl, hx2⟩
  have b0 := hx2.cell (cell_new w (msC ⟨k, n, p, e', s, q, ch, en, mk, da⟩ A1 An1 Ac1 A2 An2 Ac2 A3 An3 Ac3 A4 An4 Ac4) TMs 0)
  have b1 := hx2.cell (cell_new w (msC ⟨k, n, p, e', s, q, ch, en, mk, da⟩ A1 An1 Ac1 A2 An2 Ac2 A3 An3 Ac3 A4 An4 Ac4) TMs 1)
  have b2 := hx2.cell (cell_new w (msC ⟨k, n, p, e', s, q, ch, en, mk, da⟩ A1 An1 Ac1 A2 An2 Ac2 A3 An3 Ac3 A4 An4 Ac4) TMs 2)
  have b3 := hx2.cell (cell_new w (msC ⟨k, n, p, e', s, q, ch, en, mk, da⟩ A1 An1 Ac1 A2 An2 Ac2 A3 An3 Ac3 A4 An4 Ac4) TMs 3)
  have b4 := hx2.cell (cell_new w (msC ⟨k, n, p, e', s, q, ch, en, mk, da⟩ A1 An1 Ac1 A2 An2 Ac2 A3 An3 Ac3 A4 An4 Ac4) TMs 4)
  have b5 := hx2.cell (cell_new w (msC ⟨k, n, p, e', s, q, ch, en, mk, da⟩ A1 An1 Ac1 A2 An2 Ac2 A3 An3 Ac3 A4 An4 Ac4) TMs 5)
  have b6 := hx2.cell (cell_new w (msC ⟨k, n, p, e', s, q, ch, en, mk, da⟩ A1 An1 Ac1 A2 An2 Ac2 A3 An3 Ac3 A4 An4 Ac4) TMs 6)
  have b7 := hx2.cell (cell_new w (msC ⟨k, n, p, e', s, q, ch, en, mk, da⟩ A1 An1 Ac1 A2 An2 Ac2 A3 An3 Ac3 A4 An4 Ac4) TMs 7)
  have b8 := hx2.cell (cell_new w (msC ⟨k, n, p, e', s, q, ch, en, mk, da⟩ A1 An1 Ac1 A2 An2 Ac2 A3 An3 Ac3 A4 An4 Ac4) TMs 8)
  have b9 := hx2.cell (cell_new w (msC ⟨k, n, p, e', s, q, ch, en, mk, da⟩ A1 An1 Ac1 A2 An2 Ac2 A3 An3 Ac3 A4 An4 Ac4) TMs 9)
  have gx2 : Ext w w2 := (Ext.alloc _ _).trans hx2
  clear hx2 HC
  clear b0 b1 b2 b3 b4 b5 b6 b7 b9
  go_wp2_with fail
  go_loopw [3] (fun i wr => ∃ (k : Nat), k ≤ An3 ∧ i = .int .i64 k ∧ Hid ((mk.drop k).all markT = r) ∧ Ext w2 wr) (fun i _ => An3 - (intOf i).toNat)
  case atStart => exact ⟨0, by omega, rfl, HR, Ext.refl _⟩
  case round =>
    clear HR
    obtain ⟨k, hk, rfl, hrk, hxr⟩ := hrel
    replace b8 := hxr.cell b8
    have gxr := gx2.trans hxr
    by_cases hlt : k < An3
    · obtain ⟨ga, oa, x, cs, rfl, hx, rfl, ha⟩ := hl.at2 mk_rep (by omega) hlt
      have a0 : wr.cell? ⟨ga, oa + k * 4, none⟩ = _ := gxr.cell (ha 0 _ rfl)
      have a1 := gxr.cell (ha 1 _ rfl)
      have a2 := gxr.cell (ha 2 _ rfl)
      have hst0 := allM_step hx
      rw [hrk.out] at hst0
      have hst := Lib.hid hst0
      have hsz := hs.out.at_ hx
      clear hst0 hrk hx ha
      obtain ⟨x1, x2, x3, x4⟩ := x
      simp only at a0 a1 a2 hsz
      obtain ⟨q1, hq1⟩ : ∃ z, decide (1 ≤ x1 ∧ x1 ≤ 1073741824) = z := ⟨_, rfl⟩
      obtain ⟨q2, hq2⟩ : ∃ z, decide (0 ≤ x3 ∧ x3 ≤ 512) = z := ⟨_, rfl⟩
      obtain ⟨q3, hq3⟩ : ∃ z, nameM x2 = z := ⟨_, rfl⟩
      have H1 := Lib.hid hq1
      have H2 := Lib.hid hq2
      have H3 := Lib.hid hq3
      have HST : Hid (r = ((q1 && (q2 && q3)) && (mk.drop (k + 1)).all markT)) := by
        unfold Hid
        rw [hst.out]
        congr 1
        unfold markT
        simp only
        rw [← hq1, ← hq2, ← hq3, ← Bool.and_assoc]
        congr 1
        rw [Bool.eq_iff_iff]
        simp only [Bool.and_eq_true, decide_eq_true_eq]
        constructor
        · rintro ⟨c1, c2, c3, c4⟩; exact ⟨⟨c1, c2⟩, c3, c4⟩
        · rintro ⟨⟨c1, c2⟩, c3, c4⟩; exact ⟨c1, c2, c3, c4⟩
      clear hst hq1 hq2 hq3
      go_wp2_with fail
      refine (ref_between _ _ _ _ H1).mono ?_
      rintro e _ ⟨rfl, rfl⟩
      cases q1 with
      | false =>
        obtain rfl : false = r := by rw [HST.out]; rfl
        go_wp2_with fail
        go_ret
        exact ⟨rfl, gxr⟩
      | true =>
      go_wp2_with fail
      refine (ref_between _ _ _ _ H2).mono ?_
      rintro e _ ⟨rfl, rfl⟩
      cases q2 with
      | false =>
        obtain rfl : false = r := by rw [HST.out]; rfl
        go_wp2_with fail
        go_ret
        exact ⟨rfl, gxr⟩
      | true =>
      go_wp2_with fail
      refine (ref_MarkName x2 _ (by omega) H3).mono ?_
      rintro e _ ⟨rfl, rfl⟩
      cases q3 with
      | false =>
        obtain rfl : false = r := by rw [HST.out]; rfl
        go_wp2_with fail
        go_ret
        exact ⟨rfl, gxr⟩
      | true =>
      have HN : Hid ((mk.drop (k + 1)).all markT = r) := by
        unfold Hid
        rw [HST.out]
        simp
      clear HST H1 H2 H3
      go_wp2_with fail
      go_roundw
      case rel => exact ⟨k + 1, by omega, by go_num, HN, hxr⟩
      case measure => simp [intOf]; omega
    · obtain rfl : k = An3 := by omega
      have hr1 := hrk.out
      rw [List.drop_of_length_le (by rw [hl.len]; exact Nat.le_refl _)] at hr1
      obtain rfl : true = r := hr1
      clear hrk
      go_wp2_with fail
      go_ret
      exact ⟨rfl, gxr⟩
end Go.Proofs.Ytoeknbogaclfdaa
