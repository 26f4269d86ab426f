/-
  Messages out of bytes: contract of the program's parse.
-/
import Derived.Test.YtoeknbogaclfdaaZFromMksPutToMsParse
import Derived.Test.YtoeknbogaclfdaaZCore
namespace Go.Proofs.Ytoeknbogaclfdaa
open Go.RowKit
set_option linter.unusedVariables false
set_option linter.unusedSimpArgs false
set_option linter.unnecessarySimpa false
set_option maxRecDepth 100000
theorem nums5_yes {b : List UInt8} {a : Int} (h0 : gvC b (atN b a 0) = true) (h1 : gvC b (atN b a 1) = true) (h2 : gvC b (atN b a 2) = true) (h3 : gvC b (atN b a 3) = true) (h4 : gvC b (atN b a 4) = true) :
    numsF 5 b a = some ([gvA b (atN b a 0), gvA b (atN b a 1), gvA b (atN b a 2), gvA b (atN b a 3), gvA b (atN b a 4)], atN b a 5) := by
  simp only [atN] at h0 h1 h2 h3 h4
  simp only [numsF, h0, h1, h2, h3, h4, if_true, Option.map_some, atN]
theorem nums5_no {b : List UInt8} {a : Int} {j : Nat} (hj : j < 5) (h : gvC b (atN b a j) = false) : numsF 5 b a = none := by
  have hj4 : j = 0 ∨ j = 1 ∨ j = 2 ∨ j = 3 ∨ j = 4 := by omega
  rcases hj4 with rfl | rfl | rfl | rfl | rfl <;> simp only [atN] at h <;> simp [numsF, h]
theorem parseM_none {rf : Bool} {b : List UInt8} (hl : ¬ b.length < 1) (h : numsF 5 b 1 = none) : parseM rf b = none := by unfold parseM; rw [if_neg hl, h]; rfl
theorem tg_nopM {x : Tg} {cs : List Value} {w : World} (h : tgR x cs w) : ∀ k, ¬ Pts cs k := by
  rintro k ⟨ad, m, c', hm, _⟩
  rw [h] at hm
  simp at hm
theorem run_fromU (w : World) (A : Option Addr) (n c lo : Nat) (h1 : lo ≤ n) (h2 : n ≤ c) :
    (Instr.slice 23 (.slice A n c) (some (.int .i64 (lo : Int))) none none).run Try.prog w = .ok (.slice (if c = lo then A else A.map (·.add (lo * 1))) (n - lo) (c - lo)) w := by
  obtain ⟨i0, hi0, hz0, hz1, hz2⟩ := info_parts info_u8
  have e2 : ((lo : Nat) : Int) ≤ (n : Int) := by omega
  simp [Instr.slice, run_underlying under_bytes, Instr.sliceBounds, run_sliceBound, sizeOf, typeInfo, hi0, hz1, h1, h2, e2]
theorem Hi.setBox {g j : Nat} {P : World → Prop} {w : World} (h : Hi (g + 1) P w) (u : Value) : Hi (g + 1) P (w.setCell ⟨g, j, none⟩ u) := h.set (Nat.lt_succ_self g) u
abbrev nilC (k n p e s q : Int) : Array Value := #[.int .i64 k, .int .i64 n, .int .i64 p, .int .i64 e, .int .i64 s, .int .i64 q, .slice none 0 0, .slice none 0 0, .slice none 0 0, .slice none 0 0]
theorem gvB_bd {b : List UInt8} {a : Int} (h : gvC b a = true) : 0 ≤ gvB b a ∧ gvB b a ≤ (b.length : Int) := by
  cases hv : gvN b a with
  | none => rw [(gv_none hv).2.2] at h; cases h
  | some p =>
    obtain ⟨q, k⟩ := p
    have h1 := gvN_bd hv
    have h2 := gv_val hv
    simp only at h1
    rw [h2.2.1]
    omega
set_option maxHeartbeats 8000000 in
theorem msg_parse {A : Option Addr} {n c : Nat} {b : List UInt8} {w : World} (hb : Sl w A n c b) (hn6 : n ≤ 1000000) {o : Option Ms} (ho : Hid (parseM false b = o)) :
    Calls Try.prog 49 #[.slice A n c] w fun e w' => ∃ m B1 Bn1 Bc1 B2 Bn2 Bc2 B3 Bn3 Bc3 B4 Bn4 Bc4, e = .returned (.tuple #[msV m B1 Bn1 Bc1 B2 Bn2 Bc2 B3 Bn3 Bc3 B4 Bn4 Bc4, .bool o.isSome]) ∧ (∀ x, o = some x → m = x ∧ Hi (w.heap.size + 1) (fun u => MsR u m B1 Bn1 Bc1 B2 Bn2 Bc2 B3 Bn3 Bc3 B4 Bn4 Bc4) w') ∧ Ext w w' := by
  have h63 := hb.n63
  have hlen := hb.len
  by_cases hn1 : 1 ≤ n
  case neg =>
    obtain rfl : none = o := by
      rw [← ho.out]
      unfold parseM
      rw [if_pos (by omega)]
    have d1 : decide ((n : Int) < 1) = true := by simp; omega
    clear ho hlen
    go_enter Try.func49, Try.ntmps49
    go_wp2_with fail
    refine bodyPost_ret (v := .tuple #[msV ⟨0, 0, 0, 0, 0, 0, [], [], [], []⟩ none 0 0 none 0 0 none 0 0 none 0 0, .bool false]) ?hres rfl ⟨_, _, _, _, _, _, _, _, _, _, _, _, _, rfl, (fun x hx => by cases hx), ?hxx⟩
    case hres => simp [results, Try.results49, go_sem]
    case hxx => (repeat (first | (with_reducible exact Ext.refl _) | (with_reducible assumption) | (with_reducible refine Ext.draws ?_) | (with_reducible refine Ext.allocs ?_ _) | (with_reducible refine Ext.sets ?_ ?_ _) | (with_reducible exact Nat.le_refl _) | (exact (by simp)) | (exact (by simp; omega))))
  have d1 : decide ((n : Int) < 1) = false := by simp; omega
  obtain ⟨g0, o0, hA, hc0⟩ := hb.at2 (k := 0) (by omega)
  have hl1 : ¬ b.length < 1 := by omega
  have hkb : 0 ≤ kindOf b ∧ kindOf b ≤ 255 := by
    unfold kindOf
    have := (b.getD 0 0).toNat_lt
    omega
  have ho1 := ho.out
  unfold parseM at ho1
  rw [if_neg hl1] at ho1
  obtain ⟨K, hK⟩ : ∃ z, kindOf b = z := ⟨_, rfl⟩
  have hcK : w.cell? ⟨g0, o0, none⟩ = some (.int .u8 K) := by rw [← hK]; exact hc0
  rw [hK] at ho1 hkb
  have HNO : Hid (numsF 5 b 1 = none → o = none) := by
    intro e
    rw [← ho.out]
    exact parseM_none hl1 e
  have HO1 := Lib.hid ho1
  have HLEN := Lib.hid hlen
  have hcK2 := (Ext.alloc w (.cells #[.int .i64 0, .int .i64 0, .int .i64 0, .int .i64 0, .int .i64 0, .int .i64 0, .slice none 0 0, .slice none 0 0, .slice none 0 0, .slice none 0 0] TMs)).cell hcK
  subst hA
  clear hc0 hK hl1 ho ho1 hlen
  go_enter Try.func49, Try.ntmps49
  go_wp2_with fail
  go_loopw [3, 4, 22] (fun okv av jv wr => ∃ (j : Nat) (d y0 y1 y2 y3 y4 : Int) (ok : Bool), j ≤ 5 ∧ okv = .bool ok ∧ av = .int .i64 d ∧ jv = .int .i64 j ∧ (0 < j → ok = true) ∧ wr = w.alloc (.cells #[.int .i64 K, .int .i64 y0, .int .i64 y1, .int .i64 y2, .int .i64 y3, .int .i64 y4, .slice none 0 0, .slice none 0 0, .slice none 0 0, .slice none 0 0] TMs) ∧ Hid (atN b 1 j = d) ∧ Hid ((0 < j → y0 = gvA b (atN b 1 0) ∧ gvC b (atN b 1 0) = true) ∧ (1 < j → y1 = gvA b (atN b 1 1) ∧ gvC b (atN b 1 1) = true) ∧ (2 < j → y2 = gvA b (atN b 1 2) ∧ gvC b (atN b 1 2) = true) ∧ (3 < j → y3 = gvA b (atN b 1 3) ∧ gvC b (atN b 1 3) = true) ∧ (4 < j → y4 = gvA b (atN b 1 4) ∧ gvC b (atN b 1 4) = true))) (fun _ _ j _ => 5 - (intOf j).toNat)
  case atStart => exact ⟨0, 1, 0, 0, 0, 0, 0, false, by omega, rfl, rfl, rfl, (fun h => by omega), by first | rfl | simp, rfl, by simp [Hid]⟩
  case round =>
    clear hcK2 hcK
    obtain ⟨j, d, y0, y1, y2, y3, y4, ok, hj, rfl, rfl, rfl, hok, rfl, hd, hy⟩ := hrel
    have hj8 : j = 0 ∨ j = 1 ∨ j = 2 ∨ j = 3 ∨ j = 4 ∨ 5 ≤ j := by omega
    rcases hj8 with rfl | rfl | rfl | rfl | rfl | hj7
    · have ix : ∀ u, (Instr.index 111 (.agg #[.pointer (some ⟨w.heap.size, 1, none⟩), .pointer (some ⟨w.heap.size, 2, none⟩), .pointer (some ⟨w.heap.size, 3, none⟩), .pointer (some ⟨w.heap.size, 4, none⟩), .pointer (some ⟨w.heap.size, 5, none⟩)]) (.int .i64 0)).run Try.prog u = .ok (.pointer (some ⟨w.heap.size, 1, none⟩)) u := fun _ => by kernel_rfl
      obtain ⟨X, hX⟩ : ∃ q, gvA b d = q := ⟨_, rfl⟩
      obtain ⟨Y, hY⟩ : ∃ q, gvB b d = q := ⟨_, rfl⟩
      obtain ⟨Z, hZ⟩ : ∃ q, gvC b d = q := ⟨_, rfl⟩
      have HV := Lib.hid (And.intro hX (And.intro hY hZ))
      clear hX hY hZ hok
      cases Z with
      | false =>
        obtain rfl : none = o := (HNO.out (nums5_no (j := 0) (by omega) (by rw [hd.out]; exact HV.out.2.2))).symm
        clear hd hy HNO HO1
        go_wp2_with fail
        refine (bits_GetVar_h (hb.ext (Ext.alloc _ _)) HV).mono ?_
        rintro e _ ⟨rfl, rfl⟩
        go_wp2_with fail
        refine bodyPost_ret (v := .tuple #[msV ⟨K, X, y1, y2, y3, y4, [], [], [], []⟩ none 0 0 none 0 0 none 0 0 none 0 0, .bool false]) ?hres rfl ⟨_, _, _, _, _, _, _, _, _, _, _, _, _, rfl, (fun x hx => by cases hx), ?hxx⟩
        case hres => simp [results, Try.results49, go_sem]
        case hxx => (repeat (first | (with_reducible exact Ext.refl _) | (with_reducible assumption) | (with_reducible refine Ext.draws ?_) | (with_reducible refine Ext.allocs ?_ _) | (with_reducible refine Ext.sets ?_ ?_ _) | (with_reducible exact Nat.le_refl _) | (exact (by simp)) | (exact (by simp; omega))))
      | true =>
        have HD : Hid (atN b 1 1 = Y) := by
          unfold Hid
          rw [← HV.out.2.1, ← hd.out]
          rfl
        have hdx := hd.out
        have h1x := HV.out
        have HY2 : X = gvA b (atN b 1 0) ∧ gvC b (atN b 1 0) = true := by
          rw [hdx, h1x.1]
          exact ⟨rfl, h1x.2.2⟩
        have HY3 : Hid ((0 < 1 → X = gvA b (atN b 1 0) ∧ gvC b (atN b 1 0) = true) ∧ (1 < 1 → y1 = gvA b (atN b 1 1) ∧ gvC b (atN b 1 1) = true) ∧ (2 < 1 → y2 = gvA b (atN b 1 2) ∧ gvC b (atN b 1 2) = true) ∧ (3 < 1 → y3 = gvA b (atN b 1 3) ∧ gvC b (atN b 1 3) = true) ∧ (4 < 1 → y4 = gvA b (atN b 1 4) ∧ gvC b (atN b 1 4) = true)) := by
          have hyx := hy.out
          unfold Hid
          refine ⟨fun h => ?_, fun h => ?_, fun h => ?_, fun h => ?_, fun h => ?_⟩ <;> first | exact HY2 | exact hyx.1 (by omega) | exact hyx.2.1 (by omega) | exact hyx.2.2.1 (by omega) | exact hyx.2.2.2.1 (by omega) | exact hyx.2.2.2.2 (by omega) | (exfalso; omega)
        clear hdx h1x HY2 hy
        go_wp2_with fail
        refine (bits_GetVar_h (hb.ext (Ext.alloc _ _)) HV).mono ?_
        rintro e _ ⟨rfl, rfl⟩
        go_wp2_with fail
        go_roundw
        case rel => exact ⟨1, Y, X, y1, y2, y3, y4, true, by omega, rfl, rfl, rfl, (fun _ => rfl), rfl, HD, HY3⟩
        case measure => simp [intOf]
    · have ix : ∀ u, (Instr.index 111 (.agg #[.pointer (some ⟨w.heap.size, 1, none⟩), .pointer (some ⟨w.heap.size, 2, none⟩), .pointer (some ⟨w.heap.size, 3, none⟩), .pointer (some ⟨w.heap.size, 4, none⟩), .pointer (some ⟨w.heap.size, 5, none⟩)]) (.int .i64 1)).run Try.prog u = .ok (.pointer (some ⟨w.heap.size, 2, none⟩)) u := fun _ => by kernel_rfl
      obtain ⟨X, hX⟩ : ∃ q, gvA b d = q := ⟨_, rfl⟩
      obtain ⟨Y, hY⟩ : ∃ q, gvB b d = q := ⟨_, rfl⟩
      obtain ⟨Z, hZ⟩ : ∃ q, gvC b d = q := ⟨_, rfl⟩
      have HV := Lib.hid (And.intro hX (And.intro hY hZ))
      clear hX hY hZ hok
      cases Z with
      | false =>
        obtain rfl : none = o := (HNO.out (nums5_no (j := 1) (by omega) (by rw [hd.out]; exact HV.out.2.2))).symm
        clear hd hy HNO HO1
        go_wp2_with fail
        refine (bits_GetVar_h (hb.ext (Ext.alloc _ _)) HV).mono ?_
        rintro e _ ⟨rfl, rfl⟩
        go_wp2_with fail
        refine bodyPost_ret (v := .tuple #[msV ⟨K, y0, X, y2, y3, y4, [], [], [], []⟩ none 0 0 none 0 0 none 0 0 none 0 0, .bool false]) ?hres rfl ⟨_, _, _, _, _, _, _, _, _, _, _, _, _, rfl, (fun x hx => by cases hx), ?hxx⟩
        case hres => simp [results, Try.results49, go_sem]
        case hxx => (repeat (first | (with_reducible exact Ext.refl _) | (with_reducible assumption) | (with_reducible refine Ext.draws ?_) | (with_reducible refine Ext.allocs ?_ _) | (with_reducible refine Ext.sets ?_ ?_ _) | (with_reducible exact Nat.le_refl _) | (exact (by simp)) | (exact (by simp; omega))))
      | true =>
        have HD : Hid (atN b 1 2 = Y) := by
          unfold Hid
          rw [← HV.out.2.1, ← hd.out]
          rfl
        have hdx := hd.out
        have h1x := HV.out
        have HY2 : X = gvA b (atN b 1 1) ∧ gvC b (atN b 1 1) = true := by
          rw [hdx, h1x.1]
          exact ⟨rfl, h1x.2.2⟩
        have HY3 : Hid ((0 < 2 → y0 = gvA b (atN b 1 0) ∧ gvC b (atN b 1 0) = true) ∧ (1 < 2 → X = gvA b (atN b 1 1) ∧ gvC b (atN b 1 1) = true) ∧ (2 < 2 → y2 = gvA b (atN b 1 2) ∧ gvC b (atN b 1 2) = true) ∧ (3 < 2 → y3 = gvA b (atN b 1 3) ∧ gvC b (atN b 1 3) = true) ∧ (4 < 2 → y4 = gvA b (atN b 1 4) ∧ gvC b (atN b 1 4) = true)) := by
          have hyx := hy.out
          unfold Hid
          refine ⟨fun h => ?_, fun h => ?_, fun h => ?_, fun h => ?_, fun h => ?_⟩ <;> first | exact HY2 | exact hyx.1 (by omega) | exact hyx.2.1 (by omega) | exact hyx.2.2.1 (by omega) | exact hyx.2.2.2.1 (by omega) | exact hyx.2.2.2.2 (by omega) | (exfalso; omega)
        clear hdx h1x HY2 hy
        go_wp2_with fail
        refine (bits_GetVar_h (hb.ext (Ext.alloc _ _)) HV).mono ?_
        rintro e _ ⟨rfl, rfl⟩
        go_wp2_with fail
        go_roundw
        case rel => exact ⟨2, Y, y0, X, y2, y3, y4, true, by omega, rfl, rfl, rfl, (fun _ => rfl), rfl, HD, HY3⟩
        case measure => simp [intOf]
    · have ix : ∀ u, (Instr.index 111 (.agg #[.pointer (some ⟨w.heap.size, 1, none⟩), .pointer (some ⟨w.heap.size, 2, none⟩), .pointer (some ⟨w.heap.size, 3, none⟩), .pointer (some ⟨w.heap.size, 4, none⟩), .pointer (some ⟨w.heap.size, 5, none⟩)]) (.int .i64 2)).run Try.prog u = .ok (.pointer (some ⟨w.heap.size, 3, none⟩)) u := fun _ => by kernel_rfl
      obtain ⟨X, hX⟩ : ∃ q, gvA b d = q := ⟨_, rfl⟩
      obtain ⟨Y, hY⟩ : ∃ q, gvB b d = q := ⟨_, rfl⟩
      obtain ⟨Z, hZ⟩ : ∃ q, gvC b d = q := ⟨_, rfl⟩
      have HV := Lib.hid (And.intro hX (And.intro hY hZ))
      clear hX hY hZ hok
      cases Z with
      | false =>
        obtain rfl : none = o := (HNO.out (nums5_no (j := 2) (by omega) (by rw [hd.out]; exact HV.out.2.2))).symm
        clear hd hy HNO HO1
        go_wp2_with fail
        refine (bits_GetVar_h (hb.ext (Ext.alloc _ _)) HV).mono ?_
        rintro e _ ⟨rfl, rfl⟩
        go_wp2_with fail
        refine bodyPost_ret (v := .tuple #[msV ⟨K, y0, y1, X, y3, y4, [], [], [], []⟩ none 0 0 none 0 0 none 0 0 none 0 0, .bool false]) ?hres rfl ⟨_, _, _, _, _, _, _, _, _, _, _, _, _, rfl, (fun x hx => by cases hx), ?hxx⟩
        case hres => simp [results, Try.results49, go_sem]
        case hxx => (repeat (first | (with_reducible exact Ext.refl _) | (with_reducible assumption) | (with_reducible refine Ext.draws ?_) | (with_reducible refine Ext.allocs ?_ _) | (with_reducible refine Ext.sets ?_ ?_ _) | (with_reducible exact Nat.le_refl _) | (exact (by simp)) | (exact (by simp; omega))))
      | true =>
        have HD : Hid (atN b 1 3 = Y) := by
          unfold Hid
          rw [← HV.out.2.1, ← hd.out]
          rfl
        have hdx := hd.out
        have h1x := HV.out
        have HY2 : X = gvA b (atN b 1 2) ∧ gvC b (atN b 1 2) = true := by
          rw [hdx, h1x.1]
          exact ⟨rfl, h1x.2.2⟩
        have HY3 : Hid ((0 < 3 → y0 = gvA b (atN b 1 0) ∧ gvC b (atN b 1 0) = true) ∧ (1 < 3 → y1 = gvA b (atN b 1 1) ∧ gvC b (atN b 1 1) = true) ∧ (2 < 3 → X = gvA b (atN b 1 2) ∧ gvC b (atN b 1 2) = true) ∧ (3 < 3 → y3 = gvA b (atN b 1 3) ∧ gvC b (atN b 1 3) = true) ∧ (4 < 3 → y4 = gvA b (atN b 1 4) ∧ gvC b (atN b 1 4) = true)) := by
          have hyx := hy.out
          unfold Hid
          refine ⟨fun h => ?_, fun h => ?_, fun h => ?_, fun h => ?_, fun h => ?_⟩ <;> first | exact HY2 | exact hyx.1 (by omega) | exact hyx.2.1 (by omega) | exact hyx.2.2.1 (by omega) | exact hyx.2.2.2.1 (by omega) | exact hyx.2.2.2.2 (by omega) | (exfalso; omega)
        clear hdx h1x HY2 hy
        go_wp2_with fail
        refine (bits_GetVar_h (hb.ext (Ext.alloc _ _)) HV).mono ?_
        rintro e _ ⟨rfl, rfl⟩
        go_wp2_with fail
        go_roundw
        case rel => exact ⟨3, Y, y0, y1, X, y3, y4, true, by omega, rfl, rfl, rfl, (fun _ => rfl), rfl, HD, HY3⟩
        case measure => simp [intOf]
    · have ix : ∀ u, (Instr.index 111 (.agg #[.pointer (some ⟨w.heap.size, 1, none⟩), .pointer (some ⟨w.heap.size, 2, none⟩), .pointer (some ⟨w.heap.size, 3, none⟩), .pointer (some ⟨w.heap.size, 4, none⟩), .pointer (some ⟨w.heap.size, 5, none⟩)]) (.int .i64 3)).run Try.prog u = .ok (.pointer (some ⟨w.heap.size, 4, none⟩)) u := fun _ => by kernel_rfl
      obtain ⟨X, hX⟩ : ∃ q, gvA b d = q := ⟨_, rfl⟩
      obtain ⟨Y, hY⟩ : ∃ q, gvB b d = q := ⟨_, rfl⟩
      obtain ⟨Z, hZ⟩ : ∃ q, gvC b d = q := ⟨_, rfl⟩
      have HV := Lib.hid (And.intro hX (And.intro hY hZ))
      clear hX hY hZ hok
      cases Z with
      | false =>
        obtain rfl : none = o := (HNO.out (nums5_no (j := 3) (by omega) (by rw [hd.out]; exact HV.out.2.2))).symm
        clear hd hy HNO HO1
        go_wp2_with fail
        refine (bits_GetVar_h (hb.ext (Ext.alloc _ _)) HV).mono ?_
        rintro e _ ⟨rfl, rfl⟩
        go_wp2_with fail
        refine bodyPost_ret (v := .tuple #[msV ⟨K, y0, y1, y2, X, y4, [], [], [], []⟩ none 0 0 none 0 0 none 0 0 none 0 0, .bool false]) ?hres rfl ⟨_, _, _, _, _, _, _, _, _, _, _, _, _, rfl, (fun x hx => by cases hx), ?hxx⟩
        case hres => simp [results, Try.results49, go_sem]
        case hxx => (repeat (first | (with_reducible exact Ext.refl _) | (with_reducible assumption) | (with_reducible refine Ext.draws ?_) | (with_reducible refine Ext.allocs ?_ _) | (with_reducible refine Ext.sets ?_ ?_ _) | (with_reducible exact Nat.le_refl _) | (exact (by simp)) | (exact (by simp; omega))))
      | true =>
        have HD : Hid (atN b 1 4 = Y) := by
          unfold Hid
          rw [← HV.out.2.1, ← hd.out]
          rfl
        have hdx := hd.out
        have h1x := HV.out
        have HY2 : X = gvA b (atN b 1 3) ∧ gvC b (atN b 1 3) = true := by
          rw [hdx, h1x.1]
          exact ⟨rfl, h1x.2.2⟩
        have HY3 : Hid ((0 < 4 → y0 = gvA b (atN b 1 0) ∧ gvC b (atN b 1 0) = true) ∧ (1 < 4 → y1 = gvA b (atN b 1 1) ∧ gvC b (atN b 1 1) = true) ∧ (2 < 4 → y2 = gvA b (atN b 1 2) ∧ gvC b (atN b 1 2) = true) ∧ (3 < 4 → X = gvA b (atN b 1 3) ∧ gvC b (atN b 1 3) = true) ∧ (4 < 4 → y4 = gvA b (atN b 1 4) ∧ gvC b (atN b 1 4) = true)) := by
          have hyx := hy.out
          unfold Hid
          refine ⟨fun h => ?_, fun h => ?_, fun h => ?_, fun h => ?_, fun h => ?_⟩ <;> first | exact HY2 | exact hyx.1 (by omega) | exact hyx.2.1 (by omega) | exact hyx.2.2.1 (by omega) | exact hyx.2.2.2.1 (by omega) | exact hyx.2.2.2.2 (by omega) | (exfalso; omega)
        clear hdx h1x HY2 hy
        go_wp2_with fail
        refine (bits_GetVar_h (hb.ext (Ext.alloc _ _)) HV).mono ?_
        rintro e _ ⟨rfl, rfl⟩
        go_wp2_with fail
        go_roundw
        case rel => exact ⟨4, Y, y0, y1, y2, X, y4, true, by omega, rfl, rfl, rfl, (fun _ => rfl), rfl, HD, HY3⟩
        case measure => simp [intOf]
    · have ix : ∀ u, (Instr.index 111 (.agg #[.pointer (some ⟨w.heap.size, 1, none⟩), .pointer (some ⟨w.heap.size, 2, none⟩), .pointer (some ⟨w.heap.size, 3, none⟩), .pointer (some ⟨w.heap.size, 4, none⟩), .pointer (some ⟨w.heap.size, 5, none⟩)]) (.int .i64 4)).run Try.prog u = .ok (.pointer (some ⟨w.heap.size, 5, none⟩)) u := fun _ => by kernel_rfl
      obtain ⟨X, hX⟩ : ∃ q, gvA b d = q := ⟨_, rfl⟩
      obtain ⟨Y, hY⟩ : ∃ q, gvB b d = q := ⟨_, rfl⟩
      obtain ⟨Z, hZ⟩ : ∃ q, gvC b d = q := ⟨_, rfl⟩
      have HV := Lib.hid (And.intro hX (And.intro hY hZ))
      clear hX hY hZ hok
      cases Z with
      | false =>
        obtain rfl : none = o := (HNO.out (nums5_no (j := 4) (by omega) (by rw [hd.out]; exact HV.out.2.2))).symm
        clear hd hy HNO HO1
        go_wp2_with fail
        refine (bits_GetVar_h (hb.ext (Ext.alloc _ _)) HV).mono ?_
        rintro e _ ⟨rfl, rfl⟩
        go_wp2_with fail
        refine bodyPost_ret (v := .tuple #[msV ⟨K, y0, y1, y2, y3, X, [], [], [], []⟩ none 0 0 none 0 0 none 0 0 none 0 0, .bool false]) ?hres rfl ⟨_, _, _, _, _, _, _, _, _, _, _, _, _, rfl, (fun x hx => by cases hx), ?hxx⟩
        case hres => simp [results, Try.results49, go_sem]
        case hxx => (repeat (first | (with_reducible exact Ext.refl _) | (with_reducible assumption) | (with_reducible refine Ext.draws ?_) | (with_reducible refine Ext.allocs ?_ _) | (with_reducible refine Ext.sets ?_ ?_ _) | (with_reducible exact Nat.le_refl _) | (exact (by simp)) | (exact (by simp; omega))))
      | true =>
        have HD : Hid (atN b 1 5 = Y) := by
          unfold Hid
          rw [← HV.out.2.1, ← hd.out]
          rfl
        have hdx := hd.out
        have h1x := HV.out
        have HY2 : X = gvA b (atN b 1 4) ∧ gvC b (atN b 1 4) = true := by
          rw [hdx, h1x.1]
          exact ⟨rfl, h1x.2.2⟩
        have HY3 : Hid ((0 < 5 → y0 = gvA b (atN b 1 0) ∧ gvC b (atN b 1 0) = true) ∧ (1 < 5 → y1 = gvA b (atN b 1 1) ∧ gvC b (atN b 1 1) = true) ∧ (2 < 5 → y2 = gvA b (atN b 1 2) ∧ gvC b (atN b 1 2) = true) ∧ (3 < 5 → y3 = gvA b (atN b 1 3) ∧ gvC b (atN b 1 3) = true) ∧ (4 < 5 → X = gvA b (atN b 1 4) ∧ gvC b (atN b 1 4) = true)) := by
          have hyx := hy.out
          unfold Hid
          refine ⟨fun h => ?_, fun h => ?_, fun h => ?_, fun h => ?_, fun h => ?_⟩ <;> first | exact HY2 | exact hyx.1 (by omega) | exact hyx.2.1 (by omega) | exact hyx.2.2.1 (by omega) | exact hyx.2.2.2.1 (by omega) | exact hyx.2.2.2.2 (by omega) | (exfalso; omega)
        clear hdx h1x HY2 hy
        go_wp2_with fail
        refine (bits_GetVar_h (hb.ext (Ext.alloc _ _)) HV).mono ?_
        rintro e _ ⟨rfl, rfl⟩
        go_wp2_with fail
        go_roundw
        case rel => exact ⟨5, Y, y0, y1, y2, y3, X, true, by omega, rfl, rfl, rfl, (fun _ => rfl), rfl, HD, HY3⟩
        case measure => simp [intOf]
    · obtain rfl : ok = true := hok (by omega)
      have hyx := hy.out
      have hn := nums5_yes (hyx.1 (by omega)).2 (hyx.2.1 (by omega)).2 (hyx.2.2.1 (by omega)).2 (hyx.2.2.2.1 (by omega)).2 (hyx.2.2.2.2 (by omega)).2
      rw [← (hyx.1 (by omega)).1, ← (hyx.2.1 (by omega)).1, ← (hyx.2.2.1 (by omega)).1, ← (hyx.2.2.2.1 (by omega)).1, ← (hyx.2.2.2.2 (by omega)).1] at hn
      have h5d : atN b 1 5 = d := by rw [← hd.out, show j = 5 by omega]
      have hdb : 0 ≤ d ∧ d ≤ (n : Int) := by
        rw [← h5d, ← HLEN.out]
        exact gvB_bd (hyx.2.2.2.2 (by omega)).2
      rw [h5d] at hn
      have ho1 := HO1.out
      rw [hn, Option.bind_some] at ho1
      simp only at ho1
      have dj : decide ((j : Int) < 5) = false := by simp; omega
      have djn : decide (j < 5) = false := by simp; omega
      clear hyx hn hd hy HO1 HNO h5d hok
      obtain ⟨w1, hw1⟩ : ∃ q, q = w.alloc (.cells #[.int .i64 K, .int .i64 y0, .int .i64 y1, .int .i64 y2, .int .i64 y3, .int .i64 y4, .slice none 0 0, .slice none 0 0, .slice none 0 0, .slice none 0 0] TMs) := ⟨_, rfl⟩
      have gx1 : Ext w w1 := by rw [hw1]; exact Ext.alloc _ _
      have hsz1 : w.heap.size + 1 ≤ w1.heap.size := by rw [hw1]; simp
      have B1 : w1.heap[w.heap.size]? = some (.cells (nilC K y0 y1 y2 y3 y4) TMs (0, 0)) := by rw [hw1]; exact heap_alloc_new w _
      rw [← hw1]
      clear hw1
      have hk4 : K = 2 ∨ K = 4 ∨ K = 6 ∨ ¬ (K = 2 ∨ K = 4 ∨ K = 6) := by omega
      rcases hk4 with hk4 | hk4 | hk4 | hk4
      · subst hk4
        unfold chainO at ho1
        rw [if_pos (.inl rfl)] at ho1
        obtain ⟨ot, hot⟩ : ∃ q, tagsO b d = q := ⟨_, rfl⟩
        have HOT := Lib.hid hot
        rw [hot] at ho1
        clear hot
        have k0 := blk_cell B1 0
        have l0 := blk_frozen B1 0
        have k1 := blk_cell B1 1
        have l1 := blk_frozen B1 1
        have k2 := blk_cell B1 2
        have l2 := blk_frozen B1 2
        have k3 := blk_cell B1 3
        have l3 := blk_frozen B1 3
        have k4 := blk_cell B1 4
        have l4 := blk_frozen B1 4
        have k5 := blk_cell B1 5
        have l5 := blk_frozen B1 5
        have k6 := blk_cell B1 6
        have l6 := blk_frozen B1 6
        have k7 := blk_cell B1 7
        have l7 := blk_frozen B1 7
        have k8 := blk_cell B1 8
        have l8 := blk_frozen B1 8
        have k9 := blk_cell B1 9
        have l9 := blk_frozen B1 9
        go_wp2_with fail
        refine (msg_tags (hb.ext gx1) hn6 HOT).mono ?_
        rintro e w2 ⟨A2, n2, c2, d2, rfl, hd2, h2, hx2⟩
        have B2 := blk_ext B1 hx2
        have gx2 := gx1.trans hx2
        have hsz2 := hx2.size
        clear k0 k1 k2 k3 k4 k5 k6 k7 k8 k9 l0 l1 l2 l3 l4 l5 l6 l7 l8 l9
        have k0 := blk_cell B2 0
        have l0 := blk_frozen B2 0
        have k1 := blk_cell B2 1
        have l1 := blk_frozen B2 1
        have k2 := blk_cell B2 2
        have l2 := blk_frozen B2 2
        have k3 := blk_cell B2 3
        have l3 := blk_frozen B2 3
        have k4 := blk_cell B2 4
        have l4 := blk_frozen B2 4
        have k5 := blk_cell B2 5
        have l5 := blk_frozen B2 5
        have k6 := blk_cell B2 6
        have l6 := blk_frozen B2 6
        have k7 := blk_cell B2 7
        have l7 := blk_frozen B2 7
        have k8 := blk_cell B2 8
        have l8 := blk_frozen B2 8
        have k9 := blk_cell B2 9
        have l9 := blk_frozen B2 9
        cases ot with
        | none =>
          obtain rfl : none = o := ho1
          clear hd2
          go_wp2_with fail
          refine bodyPost_ret (v := .tuple #[msV ⟨2, y0, y1, y2, y3, y4, [], [], [], []⟩ A2 n2 c2 none 0 0 none 0 0 none 0 0, .bool false]) ?hres rfl ⟨_, _, _, _, _, _, _, _, _, _, _, _, _, rfl, (fun x hx => by cases hx), ?hxx⟩
          case hres => simp [results, Try.results49, go_sem, k0, k1, k2, k3, k4, k5, k6, k7, k8, k9]
          case hxx => (repeat (first | (with_reducible exact Ext.refl _) | (with_reducible assumption) | (with_reducible refine Ext.draws ?_) | (with_reducible refine Ext.allocs ?_ _) | (with_reducible refine Ext.sets ?_ ?_ _) | (with_reducible exact Nat.le_refl _) | (exact (by simp)) | (exact (by simp; omega))))
        | some pt =>
          obtain ⟨lt, dt⟩ := pt
          obtain rfl : d2 = dt := hd2 _ rfl
          rw [Option.bind_some] at ho1
          simp only [Option.map_some, Option.getD_some] at h2 ho1
          unfold restO at ho1
          rw [if_pos rfl] at ho1
          obtain ⟨oe, hoe⟩ : ∃ q, entsO b d2 = q := ⟨_, rfl⟩
          have HOE := Lib.hid hoe
          rw [hoe] at ho1
          have HC : Hid (Hi (w.heap.size + 1) (fun u => Lst 4 tgR u A2 n2 c2 lt) w2) := (h2.hiFlat tg_rep (fun x cs w h => tg_nopM h)).low hsz1
          obtain ⟨W, hW⟩ : ∃ W, W = w2.setCell ⟨w.heap.size, 6, none⟩ (.slice A2 n2 c2) := ⟨_, rfl⟩
          have BW : W.heap[w.heap.size]? = some (.cells #[.int .i64 2, .int .i64 y0, .int .i64 y1, .int .i64 y2, .int .i64 y3, .int .i64 y4, .slice A2 n2 c2, .slice none 0 0, .slice none 0 0, .slice none 0 0] TMs (0, 0)) := by
            rw [hW]
            have := blk_set B2 6 (.slice A2 n2 c2)
            simpa using this
          have gxW : Ext w W := by rw [hW]; exact gx2.sets (Nat.le_refl _) _
          have hszW : w.heap.size + 1 ≤ W.heap.size := by rw [hW]; simp; omega
          have HCW : Hid (Hi (w.heap.size + 1) (fun u => Lst 4 tgR u A2 n2 c2 lt) W) := by rw [hW]; exact HC.out.setBox _
          clear hoe hd2 h2 HC B2
          go_wp2_with fail
          rw [← hW]
          clear hW gx2 hsz2
          refine (msg_batch (hb.ext gxW) hn6 HOE).mono ?_
          rintro e w3 ⟨A3, n3, c3, rfl, h3, hx3⟩
          have B3 := blk_ext BW hx3
          have gx3 := gxW.trans hx3
          have HC3 := Lib.hid (HCW.out.ext hx3)
          have HE3 := Lib.hid (h3.hiEn.low hszW)
          clear HCW h3 hx3 BW gxW k0 k1 k2 k3 k4 k5 k6 k7 k8 k9 l0 l1 l2 l3 l4 l5 l6 l7 l8 l9
          have k0 := blk_cell B3 0
          have l0 := blk_frozen B3 0
          have k1 := blk_cell B3 1
          have l1 := blk_frozen B3 1
          have k2 := blk_cell B3 2
          have l2 := blk_frozen B3 2
          have k3 := blk_cell B3 3
          have l3 := blk_frozen B3 3
          have k4 := blk_cell B3 4
          have l4 := blk_frozen B3 4
          have k5 := blk_cell B3 5
          have l5 := blk_frozen B3 5
          have k6 := blk_cell B3 6
          have l6 := blk_frozen B3 6
          have k7 := blk_cell B3 7
          have l7 := blk_frozen B3 7
          have k8 := blk_cell B3 8
          have l8 := blk_frozen B3 8
          have k9 := blk_cell B3 9
          have l9 := blk_frozen B3 9
          cases oe with
          | none =>
            obtain rfl : none = o := ho1
            go_wp2_with fail
            refine bodyPost_ret (v := .tuple #[msV ⟨2, y0, y1, y2, y3, y4, [], [], [], []⟩ A2 n2 c2 A3 n3 c3 none 0 0 none 0 0, .bool false]) ?hres rfl ⟨_, _, _, _, _, _, _, _, _, _, _, _, _, rfl, (fun x hx => by cases hx), ?hxx⟩
            case hres => simp [results, Try.results49, go_sem, k0, k1, k2, k3, k4, k5, k6, k7, k8, k9]
            case hxx => (repeat (first | (with_reducible exact Ext.refl _) | (with_reducible assumption) | (with_reducible refine Ext.draws ?_) | (with_reducible refine Ext.allocs ?_ _) | (with_reducible refine Ext.sets ?_ ?_ _) | (with_reducible exact Nat.le_refl _) | (exact (by simp)) | (exact (by simp; omega))))
          | some le =>
            rw [Option.map_some, Option.map_some] at ho1
            obtain rfl := ho1
            simp only [Option.map_some, Option.getD_some] at HE3
            go_wp2_with fail
            refine bodyPost_ret (v := .tuple #[msV ⟨2, y0, y1, y2, y3, y4, lt, le, [], []⟩ A2 n2 c2 A3 n3 c3 none 0 0 none 0 0, .bool true]) ?hres rfl ⟨_, _, _, _, _, _, _, _, _, _, _, _, _, rfl, ?hm, ?hxx⟩
            case hres => simp [results, Try.results49, go_sem, k0, k1, k2, k3, k4, k5, k6, k7, k8, k9]
            case hxx => (repeat (first | (with_reducible exact Ext.refl _) | (with_reducible assumption) | (with_reducible refine Ext.draws ?_) | (with_reducible refine Ext.allocs ?_ _) | (with_reducible refine Ext.sets ?_ ?_ _) | (with_reducible exact Nat.le_refl _) | (exact (by simp)) | (exact (by simp; omega))))
            case hm =>
              intro x hx
              injection hx with hx
              subst hx
              refine ⟨rfl, ?_⟩
              have HALL : Hi (w.heap.size + 1) (fun u => MsR u ⟨2, y0, y1, y2, y3, y4, lt, le, [], []⟩ A2 n2 c2 A3 n3 c3 none 0 0 none 0 0) w3 := (HC3.out.and HE3.out).mono (fun u hu => ⟨hu.1, hu.2, Lst.nil u, Sl.nil u⟩)
              (repeat (first | (with_reducible exact HALL) | (refine Hi.setBox ?_ _)))
      · subst hk4
        unfold chainO at ho1
        rw [if_pos (.inr rfl)] at ho1
        obtain ⟨ot, hot⟩ : ∃ q, tagsO b d = q := ⟨_, rfl⟩
        have HOT := Lib.hid hot
        rw [hot] at ho1
        clear hot
        have k0 := blk_cell B1 0
        have l0 := blk_frozen B1 0
        have k1 := blk_cell B1 1
        have l1 := blk_frozen B1 1
        have k2 := blk_cell B1 2
        have l2 := blk_frozen B1 2
        have k3 := blk_cell B1 3
        have l3 := blk_frozen B1 3
        have k4 := blk_cell B1 4
        have l4 := blk_frozen B1 4
        have k5 := blk_cell B1 5
        have l5 := blk_frozen B1 5
        have k6 := blk_cell B1 6
        have l6 := blk_frozen B1 6
        have k7 := blk_cell B1 7
        have l7 := blk_frozen B1 7
        have k8 := blk_cell B1 8
        have l8 := blk_frozen B1 8
        have k9 := blk_cell B1 9
        have l9 := blk_frozen B1 9
        go_wp2_with fail
        refine (msg_tags (hb.ext gx1) hn6 HOT).mono ?_
        rintro e w2 ⟨A2, n2, c2, d2, rfl, hd2, h2, hx2⟩
        have B2 := blk_ext B1 hx2
        have gx2 := gx1.trans hx2
        have hsz2 := hx2.size
        clear k0 k1 k2 k3 k4 k5 k6 k7 k8 k9 l0 l1 l2 l3 l4 l5 l6 l7 l8 l9
        have k0 := blk_cell B2 0
        have l0 := blk_frozen B2 0
        have k1 := blk_cell B2 1
        have l1 := blk_frozen B2 1
        have k2 := blk_cell B2 2
        have l2 := blk_frozen B2 2
        have k3 := blk_cell B2 3
        have l3 := blk_frozen B2 3
        have k4 := blk_cell B2 4
        have l4 := blk_frozen B2 4
        have k5 := blk_cell B2 5
        have l5 := blk_frozen B2 5
        have k6 := blk_cell B2 6
        have l6 := blk_frozen B2 6
        have k7 := blk_cell B2 7
        have l7 := blk_frozen B2 7
        have k8 := blk_cell B2 8
        have l8 := blk_frozen B2 8
        have k9 := blk_cell B2 9
        have l9 := blk_frozen B2 9
        cases ot with
        | none =>
          obtain rfl : none = o := ho1
          clear hd2
          go_wp2_with fail
          refine bodyPost_ret (v := .tuple #[msV ⟨4, y0, y1, y2, y3, y4, [], [], [], []⟩ A2 n2 c2 none 0 0 none 0 0 none 0 0, .bool false]) ?hres rfl ⟨_, _, _, _, _, _, _, _, _, _, _, _, _, rfl, (fun x hx => by cases hx), ?hxx⟩
          case hres => simp [results, Try.results49, go_sem, k0, k1, k2, k3, k4, k5, k6, k7, k8, k9]
          case hxx => (repeat (first | (with_reducible exact Ext.refl _) | (with_reducible assumption) | (with_reducible refine Ext.draws ?_) | (with_reducible refine Ext.allocs ?_ _) | (with_reducible refine Ext.sets ?_ ?_ _) | (with_reducible exact Nat.le_refl _) | (exact (by simp)) | (exact (by simp; omega))))
        | some pt =>
          obtain ⟨lt, dt⟩ := pt
          obtain rfl : d2 = dt := hd2 _ rfl
          rw [Option.bind_some] at ho1
          simp only [Option.map_some, Option.getD_some] at h2 ho1
          unfold restO at ho1
          rw [if_neg (by decide), if_pos rfl] at ho1
          obtain ⟨oe, hoe⟩ : ∃ q, mksO false b d2 = q := ⟨_, rfl⟩
          have HOE := Lib.hid hoe
          rw [hoe] at ho1
          have HC : Hid (Hi (w.heap.size + 1) (fun u => Lst 4 tgR u A2 n2 c2 lt) w2) := (h2.hiFlat tg_rep (fun x cs w h => tg_nopM h)).low hsz1
          obtain ⟨W, hW⟩ : ∃ W, W = w2.setCell ⟨w.heap.size, 6, none⟩ (.slice A2 n2 c2) := ⟨_, rfl⟩
          have BW : W.heap[w.heap.size]? = some (.cells #[.int .i64 4, .int .i64 y0, .int .i64 y1, .int .i64 y2, .int .i64 y3, .int .i64 y4, .slice A2 n2 c2, .slice none 0 0, .slice none 0 0, .slice none 0 0] TMs (0, 0)) := by
            rw [hW]
            have := blk_set B2 6 (.slice A2 n2 c2)
            simpa using this
          have gxW : Ext w W := by rw [hW]; exact gx2.sets (Nat.le_refl _) _
          have hszW : w.heap.size + 1 ≤ W.heap.size := by rw [hW]; simp; omega
          have HCW : Hid (Hi (w.heap.size + 1) (fun u => Lst 4 tgR u A2 n2 c2 lt) W) := by rw [hW]; exact HC.out.setBox _
          clear hoe hd2 h2 HC B2
          go_wp2_with fail
          rw [← hW]
          clear hW gx2 hsz2
          refine (msg_info (hb.ext gxW) hn6 HOE).mono ?_
          rintro e w3 ⟨A3, n3, c3, rfl, h3, hx3⟩
          have B3 := blk_ext BW hx3
          have gx3 := gxW.trans hx3
          have HC3 := Lib.hid (HCW.out.ext hx3)
          have HE3 := Lib.hid ((h3.hiFlat mk_rep (fun x cs w h => mk_nop h)).low hszW)
          clear HCW h3 hx3 BW gxW k0 k1 k2 k3 k4 k5 k6 k7 k8 k9 l0 l1 l2 l3 l4 l5 l6 l7 l8 l9
          have k0 := blk_cell B3 0
          have l0 := blk_frozen B3 0
          have k1 := blk_cell B3 1
          have l1 := blk_frozen B3 1
          have k2 := blk_cell B3 2
          have l2 := blk_frozen B3 2
          have k3 := blk_cell B3 3
          have l3 := blk_frozen B3 3
          have k4 := blk_cell B3 4
          have l4 := blk_frozen B3 4
          have k5 := blk_cell B3 5
          have l5 := blk_frozen B3 5
          have k6 := blk_cell B3 6
          have l6 := blk_frozen B3 6
          have k7 := blk_cell B3 7
          have l7 := blk_frozen B3 7
          have k8 := blk_cell B3 8
          have l8 := blk_frozen B3 8
          have k9 := blk_cell B3 9
          have l9 := blk_frozen B3 9
          cases oe with
          | none =>
            obtain rfl : none = o := ho1
            go_wp2_with fail
            refine bodyPost_ret (v := .tuple #[msV ⟨4, y0, y1, y2, y3, y4, [], [], [], []⟩ A2 n2 c2 none 0 0 A3 n3 c3 none 0 0, .bool false]) ?hres rfl ⟨_, _, _, _, _, _, _, _, _, _, _, _, _, rfl, (fun x hx => by cases hx), ?hxx⟩
            case hres => simp [results, Try.results49, go_sem, k0, k1, k2, k3, k4, k5, k6, k7, k8, k9]
            case hxx => (repeat (first | (with_reducible exact Ext.refl _) | (with_reducible assumption) | (with_reducible refine Ext.draws ?_) | (with_reducible refine Ext.allocs ?_ _) | (with_reducible refine Ext.sets ?_ ?_ _) | (with_reducible exact Nat.le_refl _) | (exact (by simp)) | (exact (by simp; omega))))
          | some le =>
            rw [Option.map_some, Option.map_some] at ho1
            obtain rfl := ho1
            simp only [Option.map_some, Option.getD_some] at HE3
            go_wp2_with fail
            refine bodyPost_ret (v := .tuple #[msV ⟨4, y0, y1, y2, y3, y4, lt, [], le.1, []⟩ A2 n2 c2 none 0 0 A3 n3 c3 none 0 0, .bool true]) ?hres rfl ⟨_, _, _, _, _, _, _, _, _, _, _, _, _, rfl, ?hm, ?hxx⟩
            case hres => simp [results, Try.results49, go_sem, k0, k1, k2, k3, k4, k5, k6, k7, k8, k9]
            case hxx => (repeat (first | (with_reducible exact Ext.refl _) | (with_reducible assumption) | (with_reducible refine Ext.draws ?_) | (with_reducible refine Ext.allocs ?_ _) | (with_reducible refine Ext.sets ?_ ?_ _) | (with_reducible exact Nat.le_refl _) | (exact (by simp)) | (exact (by simp; omega))))
            case hm =>
              intro x hx
              injection hx with hx
              subst hx
              refine ⟨rfl, ?_⟩
              have HALL : Hi (w.heap.size + 1) (fun u => MsR u ⟨4, y0, y1, y2, y3, y4, lt, [], le.1, []⟩ A2 n2 c2 none 0 0 A3 n3 c3 none 0 0) w3 := (HC3.out.and HE3.out).mono (fun u hu => ⟨hu.1, Lst.nil u, hu.2, Sl.nil u⟩)
              (repeat (first | (with_reducible exact HALL) | (refine Hi.setBox ?_ _)))
      · subst hk4
        unfold chainO at ho1
        rw [if_neg (by decide), Option.bind_some] at ho1
        simp only at ho1
        unfold restO at ho1
        rw [if_neg (by decide), if_neg (by decide), if_pos rfl, Option.map_some] at ho1
        obtain ⟨t, rfl⟩ := Int.eq_ofNat_of_zero_le hdb.1
        have htn : t ≤ n := by omega
        obtain ⟨B, hB⟩ : ∃ B, (if c = t then some (⟨g0, o0, none⟩ : Addr) else (some (⟨g0, o0, none⟩ : Addr)).map (·.add (t * 1))) = B := ⟨_, rfl⟩
        have hcut := hb.cut (lo := t) (hi := n) htn (Nat.le_refl _)
        rw [hB] at hcut
        have hcap := hb.cap
        have hsl : ∀ w : World, (Instr.slice 23 (.slice (some ⟨g0, o0, none⟩) n c) (some (.int .i64 (t : Int))) none none).run Try.prog w = .ok (.slice B (n - t) (c - t)) w := by
          intro w
          rw [← hB]
          exact run_fromU w _ n c t htn hcap
        have hdt : (b.drop t).take (n - t) = b.drop t := by
          rw [List.take_of_length_le]
          rw [List.length_drop, HLEN.out]
          exact Nat.le_refl _
        rw [hdt] at hcut
        rw [Int.toNat_natCast] at ho1
        obtain ⟨D, hD⟩ : ∃ D, b.drop t = D := ⟨_, rfl⟩
        rw [hD] at hcut ho1
        obtain rfl := ho1
        clear hB hdt hD hdb hcap
        have k0 := blk_cell B1 0
        have l0 := blk_frozen B1 0
        have k1 := blk_cell B1 1
        have l1 := blk_frozen B1 1
        have k2 := blk_cell B1 2
        have l2 := blk_frozen B1 2
        have k3 := blk_cell B1 3
        have l3 := blk_frozen B1 3
        have k4 := blk_cell B1 4
        have l4 := blk_frozen B1 4
        have k5 := blk_cell B1 5
        have l5 := blk_frozen B1 5
        have k6 := blk_cell B1 6
        have l6 := blk_frozen B1 6
        have k7 := blk_cell B1 7
        have l7 := blk_frozen B1 7
        have k8 := blk_cell B1 8
        have l8 := blk_frozen B1 8
        have k9 := blk_cell B1 9
        have l9 := blk_frozen B1 9
        go_wp2_with fail
        refine (slices_Clone B (n - t) (c - t) D _ (hcut.ext gx1) (by omega)).mono ?_
        rintro e w2 ⟨A2, c2, rfl, h2, hx2⟩
        have B2 := blk_ext B1 hx2
        have gx2 := gx1.trans hx2
        have HDD : Hid (Hi (w.heap.size + 1) (fun u => Sl u A2 (n - t) c2 D) w2) := h2.hi.low hsz1
        clear B1 h2 hx2 k0 k1 k2 k3 k4 k5 k6 k7 k8 k9 l0 l1 l2 l3 l4 l5 l6 l7 l8 l9 hsl
        have k0 := blk_cell B2 0
        have l0 := blk_frozen B2 0
        have k1 := blk_cell B2 1
        have l1 := blk_frozen B2 1
        have k2 := blk_cell B2 2
        have l2 := blk_frozen B2 2
        have k3 := blk_cell B2 3
        have l3 := blk_frozen B2 3
        have k4 := blk_cell B2 4
        have l4 := blk_frozen B2 4
        have k5 := blk_cell B2 5
        have l5 := blk_frozen B2 5
        have k6 := blk_cell B2 6
        have l6 := blk_frozen B2 6
        have k7 := blk_cell B2 7
        have l7 := blk_frozen B2 7
        have k8 := blk_cell B2 8
        have l8 := blk_frozen B2 8
        have k9 := blk_cell B2 9
        have l9 := blk_frozen B2 9
        go_wp2_with fail
        refine bodyPost_ret (v := .tuple #[msV ⟨6, y0, y1, y2, y3, y4, [], [], [], D⟩ none 0 0 none 0 0 none 0 0 A2 (n - t) c2, .bool true]) ?hres rfl ⟨_, _, _, _, _, _, _, _, _, _, _, _, _, rfl, ?hm, ?hxx⟩
        case hres => simp [results, Try.results49, go_sem, k0, k1, k2, k3, k4, k5, k6, k7, k8, k9]
        case hxx => (repeat (first | (with_reducible exact Ext.refl _) | (with_reducible assumption) | (with_reducible refine Ext.draws ?_) | (with_reducible refine Ext.allocs ?_ _) | (with_reducible refine Ext.sets ?_ ?_ _) | (with_reducible exact Nat.le_refl _) | (exact (by simp)) | (exact (by simp; omega))))
        case hm =>
          intro x hx
          injection hx with hx
          subst hx
          refine ⟨rfl, ?_⟩
          have HALL : Hi (w.heap.size + 1) (fun u => MsR u ⟨6, y0, y1, y2, y3, y4, [], [], [], D⟩ none 0 0 none 0 0 none 0 0 A2 (n - t) c2) w2 := HDD.out.mono (fun u hu => ⟨Lst.nil u, Lst.nil u, Lst.nil u, hu⟩)
          (repeat (first | (with_reducible exact HALL) | (refine Hi.setBox ?_ _)))
      · have g2 : (K == 2) = false := by simp; omega
        have g4 : (K == 4) = false := by simp; omega
        have g6 : (K == 6) = false := by simp; omega
        unfold chainO restO at ho1
        rw [if_neg (by omega), Option.bind_some] at ho1
        simp only at ho1
        rw [if_neg (by omega), if_neg (by omega), if_neg (by omega), Option.map_some] at ho1
        obtain rfl := ho1
        clear hk4
        have k0 := blk_cell B1 0
        have l0 := blk_frozen B1 0
        have k1 := blk_cell B1 1
        have l1 := blk_frozen B1 1
        have k2 := blk_cell B1 2
        have l2 := blk_frozen B1 2
        have k3 := blk_cell B1 3
        have l3 := blk_frozen B1 3
        have k4 := blk_cell B1 4
        have l4 := blk_frozen B1 4
        have k5 := blk_cell B1 5
        have l5 := blk_frozen B1 5
        have k6 := blk_cell B1 6
        have l6 := blk_frozen B1 6
        have k7 := blk_cell B1 7
        have l7 := blk_frozen B1 7
        have k8 := blk_cell B1 8
        have l8 := blk_frozen B1 8
        have k9 := blk_cell B1 9
        have l9 := blk_frozen B1 9
        go_wp2_with fail
        refine bodyPost_ret (v := .tuple #[msV ⟨K, y0, y1, y2, y3, y4, [], [], [], []⟩ none 0 0 none 0 0 none 0 0 none 0 0, .bool true]) ?hres rfl ⟨_, _, _, _, _, _, _, _, _, _, _, _, _, rfl, ?hm, ?hxx⟩
        case hres => simp [results, Try.results49, go_sem, k0, k1, k2, k3, k4, k5, k6, k7, k8, k9]
        case hxx => (repeat (first | (with_reducible exact Ext.refl _) | (with_reducible assumption) | (with_reducible refine Ext.draws ?_) | (with_reducible refine Ext.allocs ?_ _) | (with_reducible refine Ext.sets ?_ ?_ _) | (with_reducible exact Nat.le_refl _) | (exact (by simp)) | (exact (by simp; omega))))
        case hm =>
          intro x hx
          injection hx with hx
          subst hx
          refine ⟨rfl, ?_⟩
          have HALL : Hi (w.heap.size + 1) (fun u => MsR u ⟨K, y0, y1, y2, y3, y4, [], [], [], []⟩ none 0 0 none 0 0 none 0 0 none 0 0) w1 := Hi.all (fun u => MsR.nil u _ _ _ _ _ _)
          (repeat (first | (with_reducible exact HALL) | (refine Hi.setBox ?_ _)))
end Go.Proofs.Ytoeknbogaclfdaa
