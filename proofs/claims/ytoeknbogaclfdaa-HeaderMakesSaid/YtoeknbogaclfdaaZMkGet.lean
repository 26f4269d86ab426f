/-
  Marks out of bytes: contract of the program's mark.
-/
import Derived.Test.YtoeknbogaclfdaaZHd2
import Derived.Test.YtoeknbogaclfdaaZVarG
import Derived.Test.YtoeknbogaclfdaaZTagParse
namespace Go.Proofs.Ytoeknbogaclfdaa
open Go.RowKit
set_option linter.unusedVariables false
set_option linter.unusedSimpArgs false
set_option linter.unnecessarySimpa false
set_option maxRecDepth 100000

theorem bits_GetText_h {A : Option Addr} {n c : Nat} {l : List UInt8} {a most : Int} {w : World} (hs : Sl w A n c l) (hn6 : n ≤ 1000000) {ta : ByteArray} {tb : Int} {tc : Bool} (h : Hid ((⟨(gtA l a most).toArray⟩ : ByteArray) = ta ∧ gtB l a most = tb ∧ gtC l a most = tc)) :
    Calls Try.prog 108 #[.slice A n c, .int .i64 a, .int .i64 most] w fun e w' => e = .returned (.tuple #[.string ta, .int .i64 tb, .bool tc]) ∧ w = w' := by
  have := bits_GetText A n c l a most w hs hn6
  rwa [h.out.1, h.out.2.1, h.out.2.2] at this
theorem ref_GetText_h {A : Option Addr} {n c : Nat} {l : List UInt8} {a most : Int} {w : World} (hs : Sl w A n c l) (hn6 : n ≤ 1000000) {ta : ByteArray} {tb : Int} {tc : Bool} (h : Hid ((⟨(gtA l a most).toArray⟩ : ByteArray) = ta ∧ gtB l a most = tb ∧ gtC l a most = tc)) :
    Calls Try.prog 97 #[.slice A n c, .int .i64 a, .int .i64 most] w fun e w' => e = .returned (.tuple #[.string ta, .int .i64 tb, .bool tc]) ∧ w = w' := by
  have := ref_GetText A n c l a most w hs hn6
  rwa [h.out.1, h.out.2.1, h.out.2.2] at this
theorem nums3_yes {b : List UInt8} {a : Int} (h0 : gvC b (atN b a 0) = true) (h1 : gvC b (atN b a 1) = true) (h2 : gvC b (atN b a 2) = true) :
    numsF 3 b a = some ([gvA b (atN b a 0), gvA b (atN b a 1), gvA b (atN b a 2)], atN b a 3) := by
  simp only [atN] at h0 h1 h2
  simp only [numsF, h0, h1, h2, if_true, Option.map_some, atN]
theorem nums3_no {b : List UInt8} {a : Int} {j : Nat} (hj : j < 3) (h : gvC b (atN b a j) = false) : numsF 3 b a = none := by
  have hj4 : j = 0 ∨ j = 1 ∨ j = 2 := by omega
  rcases hj4 with rfl | rfl | rfl <;> simp only [atN] at h <;> simp [numsF, h]
theorem mkG_none {b : List UInt8} {a : Int} {rf : Bool} (h : numsF 3 b a = none) : mkG rf b a = none := by unfold mkG; rw [h]; rfl
theorem gtO_some {b : List UInt8} {a most : Int} (h : gtC b a most = true) : gtO b a most = some (gtA b a most, gtB b a most) := by
  unfold gtC at h
  obtain ⟨p, hp⟩ := Option.isSome_iff_exists.1 h
  unfold gtA gtB
  rw [hp]
theorem gtO_none {b : List UInt8} {a most : Int} (h : gtC b a most = false) : gtO b a most = none := by
  unfold gtC at h
  cases hp : gtO b a most with
  | none => rfl
  | some p => rw [hp] at h; cases h
set_option maxHeartbeats 2000000 in
theorem header_mark {A : Option Addr} {n c : Nat} {b : List UInt8} {a : Int} {w : World} (hb : Sl w A n c b) (hn6 : n ≤ 1000000) {o : Option (Mk × Int)} (ho : Hid (mkG false b a = o)) :
    Calls Try.prog 94 #[.slice A n c, .int .i64 a] w fun e w' => ∃ m to, e = .returned (.tuple #[mkV m, .int .i64 to, .bool o.isSome]) ∧ (∀ p, o = some p → p = (m, to)) ∧ Ext w w' := by
  have h63 := hb.n63
  obtain ⟨W, hW⟩ : ∃ W, W = w := ⟨_, rfl⟩
  have hx0 : Ext w W := by rw [hW]; exact Ext.refl _
  rw [← hW] at hb
  go_enter Try.func94, Try.ntmps94
  go_wp2_with fail
  rw [← hW]
  clear hW
  go_loopw [1, 13] (fun av jv wr => ∃ (j : Nat) (d y0 y1 y2 : Int), j ≤ 3 ∧ av = .int .i64 d ∧ jv = .int .i64 j ∧ wr = (W.alloc (.cells #[.int .i64 y0, .string ⟨#[]⟩, .int .i64 y1, .bool false] TMk)).alloc (.cells #[.int .i64 y2] INT) ∧ Hid (atN b a j = d) ∧ Hid ((0 < j → y0 = gvA b (atN b a 0) ∧ gvC b (atN b a 0) = true) ∧ (1 < j → y1 = gvA b (atN b a 1) ∧ gvC b (atN b a 1) = true) ∧ (2 < j → y2 = gvA b (atN b a 2) ∧ gvC b (atN b a 2) = true))) (fun _ j _ => 3 - (intOf j).toNat)
  case atStart => exact ⟨0, a, 0, 0, 0, by omega, rfl, rfl, rfl, rfl, by simp [Hid]⟩
  case round =>
    obtain ⟨j, d, y0, y1, y2, hj, rfl, rfl, rfl, hd, hy⟩ := hrel
    have hj5 : j = 0 ∨ j = 1 ∨ j = 2 ∨ j = 3 := by omega
    rcases hj5 with rfl | rfl | rfl | rfl
    · have ix : ∀ w, (Instr.index 135 (.agg #[.pointer (some ⟨W.heap.size, 0, none⟩), .pointer (some ⟨W.heap.size, 2, none⟩), .pointer (some ⟨W.heap.size + 1, 0, none⟩)]) (.int .i64 0)).run Try.prog w = .ok (.pointer (some ⟨W.heap.size, 0, none⟩)) w := fun _ => by kernel_rfl
      obtain ⟨X, hX⟩ : ∃ q, gvA b d = q := ⟨_, rfl⟩
      obtain ⟨Y, hY⟩ : ∃ q, gvB b d = q := ⟨_, rfl⟩
      obtain ⟨Z, hZ⟩ : ∃ q, gvC b d = q := ⟨_, rfl⟩
      have HV := Lib.hid (And.intro hX (And.intro hY hZ))
      clear hX hY hZ
      cases Z with
      | false =>
        obtain rfl : none = o := by rw [← ho.out]; exact (mkG_none (nums3_no (j := 0) (by omega) (by rw [hd.out]; exact HV.out.2.2))).symm
        clear hd hy ho
        go_wp2_with fail
        refine (bits_GetVar_h (hb.ext ((Ext.alloc _ _).allocs _)) HV).mono ?_
        rintro e _ ⟨rfl, rfl⟩
        go_wp2_with fail
        refine bodyPost_ret (v := .tuple #[mkV ⟨X, ⟨#[]⟩, y1, false⟩, .int .i64 0, .bool false]) ?hres rfl ⟨_, _, rfl, (fun p hp => by cases hp), ?hxx⟩
        case hres => simp [results, Try.results94, go_sem]
        case hxx => (repeat (first | (with_reducible exact Ext.refl _) | (with_reducible assumption) | (with_reducible refine Ext.draws ?_) | (with_reducible refine Ext.allocs ?_ _) | (with_reducible refine Ext.sets ?_ ?_ _) | (with_reducible exact Nat.le_refl _) | (exact (by simp)) | (exact (by simp; omega))))
      | true =>
        have HD : Hid (atN b a 1 = Y) := by
          unfold Hid
          rw [← HV.out.2.1, ← hd.out]
          rfl
        have hdx := hd.out
        have h1x := HV.out
        have HY : Hid (X = gvA b (atN b a 0) ∧ gvC b (atN b a 0) = true) := by
          unfold Hid
          rw [hdx, h1x.1]
          exact ⟨rfl, h1x.2.2⟩
        clear hdx h1x
        go_wp2_with fail
        refine (bits_GetVar_h (hb.ext ((Ext.alloc _ _).allocs _)) HV).mono ?_
        rintro e _ ⟨rfl, rfl⟩
        go_wp2_with fail
        go_roundw
        case rel => exact ⟨1, Y, X, y1, y2, by omega, rfl, rfl, rfl, HD, ⟨fun _ => HY.out, fun h => by omega, fun h => by omega⟩⟩
        case measure => simp [intOf]
    · have ix : ∀ w, (Instr.index 135 (.agg #[.pointer (some ⟨W.heap.size, 0, none⟩), .pointer (some ⟨W.heap.size, 2, none⟩), .pointer (some ⟨W.heap.size + 1, 0, none⟩)]) (.int .i64 1)).run Try.prog w = .ok (.pointer (some ⟨W.heap.size, 2, none⟩)) w := fun _ => by kernel_rfl
      obtain ⟨X, hX⟩ : ∃ q, gvA b d = q := ⟨_, rfl⟩
      obtain ⟨Y, hY⟩ : ∃ q, gvB b d = q := ⟨_, rfl⟩
      obtain ⟨Z, hZ⟩ : ∃ q, gvC b d = q := ⟨_, rfl⟩
      have HV := Lib.hid (And.intro hX (And.intro hY hZ))
      clear hX hY hZ
      cases Z with
      | false =>
        obtain rfl : none = o := by rw [← ho.out]; exact (mkG_none (nums3_no (j := 1) (by omega) (by rw [hd.out]; exact HV.out.2.2))).symm
        clear hd hy ho
        go_wp2_with fail
        refine (bits_GetVar_h (hb.ext ((Ext.alloc _ _).allocs _)) HV).mono ?_
        rintro e _ ⟨rfl, rfl⟩
        go_wp2_with fail
        refine bodyPost_ret (v := .tuple #[mkV ⟨y0, ⟨#[]⟩, X, false⟩, .int .i64 0, .bool false]) ?hres rfl ⟨_, _, rfl, (fun p hp => by cases hp), ?hxx⟩
        case hres => simp [results, Try.results94, go_sem]
        case hxx => (repeat (first | (with_reducible exact Ext.refl _) | (with_reducible assumption) | (with_reducible refine Ext.draws ?_) | (with_reducible refine Ext.allocs ?_ _) | (with_reducible refine Ext.sets ?_ ?_ _) | (with_reducible exact Nat.le_refl _) | (exact (by simp)) | (exact (by simp; omega))))
      | true =>
        have HD : Hid (atN b a 2 = Y) := by
          unfold Hid
          rw [← HV.out.2.1, ← hd.out]
          rfl
        have hdx := hd.out
        have h1x := HV.out
        have HY : Hid (X = gvA b (atN b a 1) ∧ gvC b (atN b a 1) = true) := by
          unfold Hid
          rw [hdx, h1x.1]
          exact ⟨rfl, h1x.2.2⟩
        clear hdx h1x
        go_wp2_with fail
        refine (bits_GetVar_h (hb.ext ((Ext.alloc _ _).allocs _)) HV).mono ?_
        rintro e _ ⟨rfl, rfl⟩
        go_wp2_with fail
        go_roundw
        case rel => exact ⟨2, Y, y0, X, y2, by omega, rfl, rfl, rfl, HD, ⟨fun _ => hy.out.1 (by omega), fun _ => HY.out, fun h => by omega⟩⟩
        case measure => simp [intOf]
    · have ix : ∀ w, (Instr.index 135 (.agg #[.pointer (some ⟨W.heap.size, 0, none⟩), .pointer (some ⟨W.heap.size, 2, none⟩), .pointer (some ⟨W.heap.size + 1, 0, none⟩)]) (.int .i64 2)).run Try.prog w = .ok (.pointer (some ⟨W.heap.size + 1, 0, none⟩)) w := fun _ => by kernel_rfl
      obtain ⟨X, hX⟩ : ∃ q, gvA b d = q := ⟨_, rfl⟩
      obtain ⟨Y, hY⟩ : ∃ q, gvB b d = q := ⟨_, rfl⟩
      obtain ⟨Z, hZ⟩ : ∃ q, gvC b d = q := ⟨_, rfl⟩
      have HV := Lib.hid (And.intro hX (And.intro hY hZ))
      clear hX hY hZ
      cases Z with
      | false =>
        obtain rfl : none = o := by rw [← ho.out]; exact (mkG_none (nums3_no (j := 2) (by omega) (by rw [hd.out]; exact HV.out.2.2))).symm
        clear hd hy ho
        go_wp2_with fail
        refine (bits_GetVar_h (hb.ext ((Ext.alloc _ _).allocs _)) HV).mono ?_
        rintro e _ ⟨rfl, rfl⟩
        go_wp2_with fail
        refine bodyPost_ret (v := .tuple #[mkV ⟨y0, ⟨#[]⟩, y1, false⟩, .int .i64 0, .bool false]) ?hres rfl ⟨_, _, rfl, (fun p hp => by cases hp), ?hxx⟩
        case hres => simp [results, Try.results94, go_sem]
        case hxx => (repeat (first | (with_reducible exact Ext.refl _) | (with_reducible assumption) | (with_reducible refine Ext.draws ?_) | (with_reducible refine Ext.allocs ?_ _) | (with_reducible refine Ext.sets ?_ ?_ _) | (with_reducible exact Nat.le_refl _) | (exact (by simp)) | (exact (by simp; omega))))
      | true =>
        have HD : Hid (atN b a 3 = Y) := by
          unfold Hid
          rw [← HV.out.2.1, ← hd.out]
          rfl
        have hdx := hd.out
        have h1x := HV.out
        have HY : Hid (X = gvA b (atN b a 2) ∧ gvC b (atN b a 2) = true) := by
          unfold Hid
          rw [hdx, h1x.1]
          exact ⟨rfl, h1x.2.2⟩
        clear hdx h1x
        go_wp2_with fail
        refine (bits_GetVar_h (hb.ext ((Ext.alloc _ _).allocs _)) HV).mono ?_
        rintro e _ ⟨rfl, rfl⟩
        go_wp2_with fail
        go_roundw
        case rel => exact ⟨3, Y, y0, y1, X, by omega, rfl, rfl, rfl, HD, ⟨fun _ => hy.out.1 (by omega), fun _ => hy.out.2.1 (by omega), fun _ => HY.out⟩⟩
        case measure => simp [intOf]
    · have hyx := hy.out
      have hn3 := nums3_yes (hyx.1 (by omega)).2 (hyx.2.1 (by omega)).2 (hyx.2.2 (by omega)).2
      rw [hd.out, ← (hyx.1 (by omega)).1, ← (hyx.2.1 (by omega)).1, ← (hyx.2.2 (by omega)).1] at hn3
      have ho1 := ho.out
      unfold mkG at ho1
      rw [hn3, Option.bind_some] at ho1
      simp only [Bool.false_eq_true, false_and, if_false] at ho1
      rw [show mostG false = 13 from rfl] at ho1
      obtain ⟨ta, hta⟩ : ∃ q, (⟨(gtA b d 13).toArray⟩ : ByteArray) = q := ⟨_, rfl⟩
      obtain ⟨tb, htb⟩ : ∃ q, gtB b d 13 = q := ⟨_, rfl⟩
      obtain ⟨tc, htc⟩ : ∃ q, gtC b d 13 = q := ⟨_, rfl⟩
      have HG := Lib.hid (And.intro hta (And.intro htb htc))
      obtain ⟨g, hg⟩ : ∃ g, decide (y2 = 1) = g := ⟨_, rfl⟩
      have hgb : (y2 == 1) = g := by rw [← hg]; by_cases h : y2 = 1 <;> simp [h]
      have HO : Hid (o.isSome = tc ∧ ∀ p, o = some p → p = (⟨y0, ta, y1, g⟩, tb)) := by
        unfold Hid
        cases tc with
        | false =>
          rw [gtO_none htc] at ho1
          subst ho1
          exact ⟨rfl, fun p hp => by cases hp⟩
        | true =>
          rw [gtO_some htc] at ho1
          subst ho1
          refine ⟨rfl, fun p hp => ?_⟩
          simp only [Option.map_some, Option.some.injEq] at hp
          rw [← hp, htb]
          simp only [mkOf, List.getD_cons_zero, List.getD_cons_succ, hta, hg]
      clear hyx hy hd hn3 ho ho1 hta htb htc hg
      go_wp2_with fail
      refine (bits_GetText_h (hb.ext ((Ext.alloc _ _).allocs _)) hn6 HG).mono ?_
      rintro e _ ⟨rfl, rfl⟩
      go_wp2_with fail
      refine bodyPost_ret (v := .tuple #[mkV ⟨y0, ta, y1, g⟩, .int .i64 tb, .bool tc]) ?hres rfl ⟨_, _, by rw [HO.out.1], HO.out.2, ?hxx⟩
      case hres => simp [results, Try.results94, go_sem]
      case hxx => (repeat (first | (with_reducible exact Ext.refl _) | (with_reducible assumption) | (with_reducible refine Ext.draws ?_) | (with_reducible refine Ext.allocs ?_ _) | (with_reducible refine Ext.sets ?_ ?_ _) | (with_reducible exact Nat.le_refl _) | (exact (by simp)) | (exact (by simp; omega))))
end Go.Proofs.Ytoeknbogaclfdaa
