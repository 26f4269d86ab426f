/-
  Chapter 11: contract of the program's First.
-/
import Derived.Test.YtcchlkialgjamaaScanFacts
namespace Go.Proofs.Ytcchlkialgjamaa
open Go.RowKit
set_option linter.unusedVariables false
set_option linter.unusedSimpArgs false
set_option linter.unnecessarySimpa false
set_option maxRecDepth 100000

/-- rows that are short -/
def ShortF (rows : List (List UInt8)) : Prop := ∀ r ∈ rows, r.length ≤ 10000
theorem fold_next {l : List En} {k : Nat} {x : En} {a b : Int} (h : l[k]? = some x) (h0 : (l.take k).foldl leastF a = b) : (l.take (k + 1)).foldl leastF a = leastF b x := by
  rw [List.take_add_one, h, List.foldl_append, h0]
  rfl
set_option maxHeartbeats 1000000 in
theorem scan_First {A : Option Addr} {n c : Nat} {rows : List (List UInt8)} {w : World} (hl : Lst 1 blR w A n c rows) (hn : n ≤ 40) (hs : ShortF rows) {res : Int} (HR : Hid (firstL rows = res)) :
    Calls Try.prog 32 #[.slice A n c] w fun e w' => e = .returned (.int .i64 res) ∧ Ext w w' := by
  have h63 := hl.n63
  go_enter Try.func32, Try.ntmps32
  go_wp2_with fail
  go_loopw [3, 12] (fun v i wr => ∃ (k : Nat) (q : Int), k ≤ n ∧ i = .int .i64 k ∧ v = .int .i64 q ∧ Hid ((frsOf (rows.take k)).foldl leastF 0 = q) ∧ Ext w wr) (fun _ i _ => n - (intOf i).toNat)
  case atStart => exact ⟨0, 0, by omega, rfl, rfl, rfl, Ext.refl _⟩
  case round =>
    obtain ⟨k, q0, hk, rfl, rfl, hq, hxr⟩ := hrel
    by_cases hlt : k < n
    · obtain ⟨ga, oa, r, Ar, nr, cr, rfl, hr, a0, hsl⟩ := row_at hl hlt
      have hnr : nr ≤ 1000000 := by have := hs r (List.mem_of_getElem? hr); rw [hsl.len] at this; omega
      obtain ⟨ae, hae⟩ : ∃ q, enL (allL r).1 = q := ⟨_, rfl⟩
      have HNX : Hid ((frsOf (rows.take (k + 1))).foldl leastF 0 = ae.foldl leastF q0) := by
        unfold Hid
        rw [frsOf_next hr, List.foldl_append, hq.out, hae]
      have HNUM : Hid (∀ x ∈ ae, 1 ≤ x.s ∧ x.s ≤ 1099511627776) := by rw [← hae]; exact (allL_facts r).1
      replace a0 := hxr.cell a0
      replace hsl := hsl.ext hxr
      have hall := frame_All hsl hnr
      obtain ⟨a2, ha2⟩ : ∃ q, (allL r).2 = q := ⟨_, rfl⟩
      rw [hae, ha2] at hall
      clear hae ha2 hr hs hq
      go_wp2_with fail
      refine hall.mono ?_
      rintro e w2 ⟨A2, n2, c2, rfl, hown, hx2⟩
      clear hall a0 hsl
      have hle := hown.lst
      clear hown
      have h632 := hle.n63
      have hx3 := hxr.trans hx2
      go_wp2_with fail
      go_loopw [3, 23] (fun v i wr => ∃ (j : Nat) (q : Int), j ≤ n2 ∧ i = .int .i64 j ∧ v = .int .i64 q ∧ Hid ((ae.take j).foldl leastF q0 = q) ∧ Ext w2 wr) (fun _ i _ => n2 - (intOf i).toNat)
      case atStart => exact ⟨0, q0, by omega, rfl, rfl, rfl, Ext.refl _⟩
      case round =>
        obtain ⟨j, q, hj, rfl, rfl, hq, hxr2⟩ := hrel
        by_cases hlt2 : j < n2
        · obtain ⟨gb, ob, x, cs, rfl, hx, ⟨Aa, na, ca, rfl, sa0⟩, ha⟩ := hle.at2 en_rep (by omega) hlt2
          have a0 : wr.cell? ⟨gb, ob + j * 3, none⟩ = _ := hxr2.cell (ha 0 _ rfl)
          have a1 := hxr2.cell (ha 1 _ rfl)
          have a2 := hxr2.cell (ha 2 _ rfl)
          have hnx := fold_next hx hq.out
          obtain ⟨xt, xs', xd⟩ := x
          unfold leastF at hnx
          simp only at hnx a0 a1 a2
          clear ha sa0 hx hq
          by_cases hz : q = 0 ∨ xs' < q
          · rw [if_pos hz] at hnx
            have HN := Lib.hid hnx
            clear hnx
            rcases hz with hz | hz
            · subst hz
              go_wp2_with fail
              go_roundw
              case rel => exact ⟨j + 1, xs', by omega, by go_num, rfl, HN, hxr2.trans (Ext.alloc _ _)⟩
              case measure => simp [intOf]; omega
            · by_cases hq0 : q = 0
              · subst hq0
                go_wp2_with fail
                go_roundw
                case rel => exact ⟨j + 1, xs', by omega, by go_num, rfl, HN, hxr2.trans (Ext.alloc _ _)⟩
                case measure => simp [intOf]; omega
              · have hq1 : (q == 0) = false := by simpa using hq0
                go_wp2_with fail
                go_roundw
                case rel => exact ⟨j + 1, xs', by omega, by go_num, rfl, HN, hxr2.trans (Ext.alloc _ _)⟩
                case measure => simp [intOf]; omega
          · rw [if_neg hz] at hnx
            have HN := Lib.hid hnx
            have hq1 : (q == 0) = false := by have : ¬ q = 0 := fun e => hz (.inl e); simpa using this
            have hq2 : ¬ xs' < q := fun e => hz (.inr e)
            clear hnx hz
            go_wp2_with fail
            go_roundw
            case rel => exact ⟨j + 1, q, by omega, by go_num, rfl, HN, hxr2.trans (Ext.alloc _ _)⟩
            case measure => simp [intOf]; omega
        · obtain rfl : j = n2 := by omega
          have e := hq.out
          rw [List.take_of_length_le (by rw [hle.len]; exact Nat.le_refl _)] at e
          have HQ : Hid ((frsOf (rows.take (k + 1))).foldl leastF 0 = q) := by unfold Hid; rw [HNX.out, e]
          clear e hq
          go_wp2_with fail
          go_roundw
          case rel => exact ⟨k + 1, q, by omega, by go_num, rfl, HQ, hx3.trans hxr2⟩
          case measure => simp [intOf]; omega
    · obtain rfl : k = n := by omega
      have e := hq.out
      rw [List.take_of_length_le (by rw [hl.len]; exact Nat.le_refl _)] at e
      have e2 : q0 = res := by rw [← HR.out, ← e]; rfl
      subst e2
      clear hq e
      go_wp2_with fail
      go_ret
      exact ⟨rfl, hxr⟩
end Go.Proofs.Ytcchlkialgjamaa
