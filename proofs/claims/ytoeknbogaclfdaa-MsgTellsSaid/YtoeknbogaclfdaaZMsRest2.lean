/-
  Messages out of bytes: the reference's rest, of a batch.
-/
import Derived.Test.YtoeknbogaclfdaaZFromReg4ToTagNums
import Derived.Test.YtoeknbogaclfdaaZFromTagGetRefToMksGetR
namespace Go.Proofs.Ytoeknbogaclfdaa
open Go.RowKit
set_option linter.unusedVariables false
set_option linter.unusedSimpArgs false
set_option linter.unnecessarySimpa false
set_option maxRecDepth 100000
set_option maxHeartbeats 8000000 in
theorem ref_rest2 {A : Option Addr} {n c : Nat} {b : List UInt8} {a y0 y1 y2 y3 y4 : Int} {w : World} (hb : Sl w A n c b) (hn6 : n ≤ 1000000) (ha : 0 ≤ a ∧ a ≤ (n : Int)) {o : Option Ms} (ho : Hid (restM 2 y0 y1 y2 y3 y4 b a = o)) :
    Calls Try.prog 68 #[msV ⟨2, y0, y1, y2, y3, y4, [], [], [], []⟩ none 0 0 none 0 0 none 0 0 none 0 0, .slice A n c, .int .i64 a] w fun e w' => ∃ m B1 Bn1 Bc1 B2 Bn2 Bc2 B3 Bn3 Bc3 B4 Bn4 Bc4, e = .returned (.tuple #[msV m B1 Bn1 Bc1 B2 Bn2 Bc2 B3 Bn3 Bc3 B4 Bn4 Bc4, .bool o.isSome]) ∧ (∀ x, o = some x → m = x ∧ Hz w.heap.size (fun u => MsR u m B1 Bn1 Bc1 B2 Bn2 Bc2 B3 Bn3 Bc3 B4 Bn4 Bc4) w') ∧ Ext w w' := by
  have h63 := hb.n63
  have HLEN := Lib.hid hb.len
  obtain ⟨i0, hi0, hz0, hz1, hz2⟩ := info_parts info_en
  obtain ⟨iu, hiu, hu0, hu1, hu2⟩ := info_parts info_u8
  have ho1 := ho.out
  unfold restM at ho1
  clear ho
  obtain ⟨w1, hw1⟩ : ∃ q, q = (w.alloc (.cells #[.int .i64 2, .int .i64 y0, .int .i64 y1, .int .i64 y2, .int .i64 y3, .int .i64 y4, .slice none 0 0, .slice none 0 0, .slice none 0 0, .slice none 0 0] TMs)).alloc (.cells #[.int .i64 0, .int .i64 0, .int .i64 0, .int .i64 0, .int .i64 0, .int .i64 0, .slice none 0 0, .slice none 0 0, .slice none 0 0, .slice none 0 0] TMs) := ⟨_, rfl⟩
  have gx1 : Ext w w1 := by rw [hw1]; exact (Ext.alloc _ _).allocs _
  have hsz1 : w1.heap.size = w.heap.size + 2 := by rw [hw1]; simp
  have B1 : w1.heap[w.heap.size]? = some (.cells (nilC 2 y0 y1 y2 y3 y4) TMs (0, 0)) := by rw [hw1]; exact blk_ext (heap_alloc_new w _) (Ext.alloc _ _)
  have Z1 : w1.heap[w.heap.size + 1]? = some (.cells zeroM TMs (0, 0)) := by
    rw [hw1]
    have := heap_alloc_new (w.alloc (.cells (nilC 2 y0 y1 y2 y3 y4) TMs)) (.cells zeroM TMs)
    simpa using this
  have HS1 : Hid (w1.heap.size = w.heap.size + 2) := hsz1
  have hsg1 : w.heap.size + 2 ≤ w1.heap.size := by omega
  clear hsz1
  · skip
    unfold chainO at ho1
    rw [if_pos (by first | exact .inl rfl | exact .inr rfl)] at ho1
    unfold tagsO at ho1
    rw [HLEN.out] at ho1
    obtain ⟨ta, hta⟩ : ∃ q, (⟨(gtA b a (n : Int)).toArray⟩ : ByteArray) = q := ⟨_, rfl⟩
    obtain ⟨tl, htl⟩ : ∃ q, gtA b a (n : Int) = q := ⟨_, rfl⟩
    obtain ⟨tb, htb⟩ : ∃ q, gtB b a (n : Int) = q := ⟨_, rfl⟩
    obtain ⟨tc, htc⟩ : ∃ q, gtC b a (n : Int) = q := ⟨_, rfl⟩
    have HG := Lib.hid (And.intro hta (And.intro htb htc))
    have htal : ta = ⟨tl.toArray⟩ := by rw [← hta, htl]
    cases tc with
    | false =>
      rw [gtO_none htc] at ho1
      obtain rfl : none = o := ho1
      clear hta htl htb htc htal
      have k0 := blk_cell B1 0
      have l0 := blk_frozen B1 0
      have z0 := blk_cell Z1 0
      have f0 := blk_frozen Z1 0
      have k1 := blk_cell B1 1
      have l1 := blk_frozen B1 1
      have z1 := blk_cell Z1 1
      have f1 := blk_frozen Z1 1
      have k2 := blk_cell B1 2
      have l2 := blk_frozen B1 2
      have z2 := blk_cell Z1 2
      have f2 := blk_frozen Z1 2
      have k3 := blk_cell B1 3
      have l3 := blk_frozen B1 3
      have z3 := blk_cell Z1 3
      have f3 := blk_frozen Z1 3
      have k4 := blk_cell B1 4
      have l4 := blk_frozen B1 4
      have z4 := blk_cell Z1 4
      have f4 := blk_frozen Z1 4
      have k5 := blk_cell B1 5
      have l5 := blk_frozen B1 5
      have z5 := blk_cell Z1 5
      have f5 := blk_frozen Z1 5
      have k6 := blk_cell B1 6
      have l6 := blk_frozen B1 6
      have z6 := blk_cell Z1 6
      have f6 := blk_frozen Z1 6
      have k7 := blk_cell B1 7
      have l7 := blk_frozen B1 7
      have z7 := blk_cell Z1 7
      have f7 := blk_frozen Z1 7
      have k8 := blk_cell B1 8
      have l8 := blk_frozen B1 8
      have z8 := blk_cell Z1 8
      have f8 := blk_frozen Z1 8
      have k9 := blk_cell B1 9
      have l9 := blk_frozen B1 9
      have z9 := blk_cell Z1 9
      have f9 := blk_frozen Z1 9
      go_enter Try.func68, Try.ntmps68
      go_upto_region 1 with fail
      rw [← hw1]
      clear hw1
      go_wp2_with fail
      refine (ref_GetText_h (hb.ext gx1) hn6 HG).mono ?_
      rintro e _ ⟨rfl, rfl⟩
      go_wp2_with fail
      refine bodyPost_ret (v := .tuple #[msV ⟨2, y0, y1, y2, y3, y4, [], [], [], []⟩ none 0 0 none 0 0 none 0 0 none 0 0, .bool false]) ?hres rfl ⟨_, _, _, _, _, _, _, _, _, _, _, _, _, rfl, (fun x hx => by cases hx), ?hxx⟩
      case hres => simp [results, Try.results68, go_sem, k0, k1, k2, k3, k4, k5, k6, k7, k8, k9, z0, z1, z2, z3, z4, z5, z6, z7, z8, z9]
      case hxx => (repeat (first | (with_reducible exact Ext.refl _) | (with_reducible assumption) | (with_reducible refine Ext.draws ?_) | (with_reducible refine Ext.allocs ?_ _) | (with_reducible refine Ext.sets ?_ ?_ _) | (with_reducible exact Nat.le_refl _) | (exact (by simp)) | (exact (by simp; omega))))
    | true =>
      have htll : tl.length ≤ 1000000 := by
        have := gtO_some htc
        rw [htl] at this
        have h2 := gtO_lenM this
        rw [HLEN.out] at h2
        omega
      rw [gtO_some htc, htl, htb, Option.bind_some] at ho1
      simp only at ho1
      obtain ⟨og, hog⟩ : ∃ z, getL tl = z := ⟨_, rfl⟩
      have HOG := Lib.hid hog
      rw [hog] at ho1
      obtain ⟨cc, w5, hcv, hs5, hx5⟩ := conv_str w1 tl htll
      rw [← htal] at hcv
      have gx5 := gx1.trans hx5
      have B5 := blk_ext B1 hx5
      have Z5 := blk_ext Z1 hx5
      have hgc := ref_GetChain hs5 htll HOG
      clear hta htl htb htc htal hog hs5
      have k0 := blk_cell B1 0
      have l0 := blk_frozen B1 0
      have z0 := blk_cell Z1 0
      have f0 := blk_frozen Z1 0
      have k1 := blk_cell B1 1
      have l1 := blk_frozen B1 1
      have z1 := blk_cell Z1 1
      have f1 := blk_frozen Z1 1
      have k2 := blk_cell B1 2
      have l2 := blk_frozen B1 2
      have z2 := blk_cell Z1 2
      have f2 := blk_frozen Z1 2
      have k3 := blk_cell B1 3
      have l3 := blk_frozen B1 3
      have z3 := blk_cell Z1 3
      have f3 := blk_frozen Z1 3
      have k4 := blk_cell B1 4
      have l4 := blk_frozen B1 4
      have z4 := blk_cell Z1 4
      have f4 := blk_frozen Z1 4
      have k5 := blk_cell B1 5
      have l5 := blk_frozen B1 5
      have z5 := blk_cell Z1 5
      have f5 := blk_frozen Z1 5
      have k6 := blk_cell B1 6
      have l6 := blk_frozen B1 6
      have z6 := blk_cell Z1 6
      have f6 := blk_frozen Z1 6
      have k7 := blk_cell B1 7
      have l7 := blk_frozen B1 7
      have z7 := blk_cell Z1 7
      have f7 := blk_frozen Z1 7
      have k8 := blk_cell B1 8
      have l8 := blk_frozen B1 8
      have z8 := blk_cell Z1 8
      have f8 := blk_frozen Z1 8
      have k9 := blk_cell B1 9
      have l9 := blk_frozen B1 9
      have z9 := blk_cell Z1 9
      have f9 := blk_frozen Z1 9
      go_enter Try.func68, Try.ntmps68
      go_upto_region 1 with fail
      rw [← hw1]
      clear hw1
      go_wp2_with fail
      refine (ref_GetText_h (hb.ext gx1) hn6 HG).mono ?_
      rintro e _ ⟨rfl, rfl⟩
      go_wp2_with fail
      refine hgc.mono ?_
      rintro e w2 ⟨A2, n2, c2, rfl, h2, hx2⟩
      have B2 := blk_ext B5 hx2
      have Z2 := blk_ext Z5 hx2
      have gx2 := gx5.trans hx2
      have hsg2 : w.heap.size + 2 ≤ w2.heap.size := Nat.le_trans hsg1 (hx5.trans hx2).size
      have hsg5 : w.heap.size + 2 ≤ w5.heap.size := Nat.le_trans hsg1 hx5.size
      clear k0 k1 k2 k3 k4 k5 k6 k7 k8 k9 l0 l1 l2 l3 l4 l5 l6 l7 l8 l9 z0 z1 z2 z3 z4 z5 z6 z7 z8 z9 f0 f1 f2 f3 f4 f5 f6 f7 f8 f9
      clear hgc hcv hx5 hx2 gx5 gx1 B1 Z1 B5 Z5
      have k0 := blk_cell B2 0
      have l0 := blk_frozen B2 0
      have z0 := blk_cell Z2 0
      have f0 := blk_frozen Z2 0
      have k1 := blk_cell B2 1
      have l1 := blk_frozen B2 1
      have z1 := blk_cell Z2 1
      have f1 := blk_frozen Z2 1
      have k2 := blk_cell B2 2
      have l2 := blk_frozen B2 2
      have z2 := blk_cell Z2 2
      have f2 := blk_frozen Z2 2
      have k3 := blk_cell B2 3
      have l3 := blk_frozen B2 3
      have z3 := blk_cell Z2 3
      have f3 := blk_frozen Z2 3
      have k4 := blk_cell B2 4
      have l4 := blk_frozen B2 4
      have z4 := blk_cell Z2 4
      have f4 := blk_frozen Z2 4
      have k5 := blk_cell B2 5
      have l5 := blk_frozen B2 5
      have z5 := blk_cell Z2 5
      have f5 := blk_frozen Z2 5
      have k6 := blk_cell B2 6
      have l6 := blk_frozen B2 6
      have z6 := blk_cell Z2 6
      have f6 := blk_frozen Z2 6
      have k7 := blk_cell B2 7
      have l7 := blk_frozen B2 7
      have z7 := blk_cell Z2 7
      have f7 := blk_frozen Z2 7
      have k8 := blk_cell B2 8
      have l8 := blk_frozen B2 8
      have z8 := blk_cell Z2 8
      have f8 := blk_frozen Z2 8
      have k9 := blk_cell B2 9
      have l9 := blk_frozen B2 9
      have z9 := blk_cell Z2 9
      have f9 := blk_frozen Z2 9
      cases og with
      | none =>
        obtain rfl : none = o := ho1
        rw [show (if (none : Option (List Tg)).isSome = true then (0 : Int) else 2) = 2 from rfl]
        go_wp2_with fail
        refine bodyPost_ret (v := .tuple #[msV ⟨2, y0, y1, y2, y3, y4, [], [], [], []⟩ none 0 0 none 0 0 none 0 0 none 0 0, .bool false]) ?hres rfl ⟨_, _, _, _, _, _, _, _, _, _, _, _, _, rfl, (fun x hx => by cases hx), ?hxx⟩
        case hres => simp [results, Try.results68, go_sem, k0, k1, k2, k3, k4, k5, k6, k7, k8, k9, z0, z1, z2, z3, z4, z5, z6, z7, z8, z9]
        case hxx => (repeat (first | (with_reducible exact Ext.refl _) | (with_reducible assumption) | (with_reducible refine Ext.draws ?_) | (with_reducible refine Ext.allocs ?_ _) | (with_reducible refine Ext.sets ?_ ?_ _) | (with_reducible exact Nat.le_refl _) | (exact (by simp)) | (exact (by simp; omega))))
      | some lt =>
        rw [show (if (some lt : Option (List Tg)).isSome = true then (0 : Int) else 2) = 0 from rfl]
        rw [Option.map_some, Option.bind_some] at ho1
        simp only [Option.getD_some] at h2 ho1
        have HC : Hid (Hz (w.heap.size + 2) (fun u => Lst 4 tgR u A2 n2 c2 lt) w2) := (h2.hzFlat tg_rep (fun x cs w h => tg_nopM h) (by decide)).low hsg5
        obtain ⟨W, hW⟩ : ∃ W, W = w2.setCell ⟨w.heap.size, 6, none⟩ (.slice A2 n2 c2) := ⟨_, rfl⟩
        have BW : W.heap[w.heap.size]? = some (.cells #[.int .i64 2, .int .i64 y0, .int .i64 y1, .int .i64 y2, .int .i64 y3, .int .i64 y4, .slice A2 n2 c2, .slice none 0 0, .slice none 0 0, .slice none 0 0] TMs (0, 0)) := by
          rw [hW]
          have := blk_set B2 6 (.slice A2 n2 c2)
          simpa using this
        have ZW : W.heap[w.heap.size + 1]? = some (.cells zeroM TMs (0, 0)) := by
          rw [hW]
          exact blk_far Z2 (by simp) _
        have gxW : Ext w W := by rw [hW]; exact gx2.sets (Nat.le_refl _) _
        have hszW : w.heap.size + 2 ≤ W.heap.size := by rw [hW]; simp; omega
        have HCW : Hid (Hz (w.heap.size + 2) (fun u => Lst 4 tgR u A2 n2 c2 lt) W) := by rw [hW]; exact HC.out.setBox0 _
        have hbW : Sl W A n c b := hb.ext gxW
        have Hrow := Lib.hid hsg2
        clear HC h2 B2 Z2 gx2 hsg2 hsg5 hsg1 HOG
        unfold restO entsO at ho1
        rw [if_pos rfl] at ho1
        obtain ⟨X, hX⟩ : ∃ q, gvA b tb = q := ⟨_, rfl⟩
        obtain ⟨Y, hY⟩ : ∃ q, gvB b tb = q := ⟨_, rfl⟩
        obtain ⟨Z, hZ⟩ : ∃ q, gvC b tb = q := ⟨_, rfl⟩
        have HV := Lib.hid (And.intro hX (And.intro hY hZ))
        have hX0 : 0 ≤ X := by rw [← hX]; exact gvA_pos b tb
        rw [hX, hY, hZ] at ho1
        clear hX hY hZ
        cases Z with
        | false =>
          obtain rfl : none = o := by rw [← ho1]; rfl
          clear ho1
          go_wp2_with fail
          rw [← hW]
          clear hW
          clear k0 k1 k2 k3 k4 k5 k6 k7 k8 k9 l0 l1 l2 l3 l4 l5 l6 l7 l8 l9 z0 z1 z2 z3 z4 z5 z6 z7 z8 z9 f0 f1 f2 f3 f4 f5 f6 f7 f8 f9
          have k0 := blk_cell BW 0
          have l0 := blk_frozen BW 0
          have z0 := blk_cell ZW 0
          have f0 := blk_frozen ZW 0
          have k1 := blk_cell BW 1
          have l1 := blk_frozen BW 1
          have z1 := blk_cell ZW 1
          have f1 := blk_frozen ZW 1
          have k2 := blk_cell BW 2
          have l2 := blk_frozen BW 2
          have z2 := blk_cell ZW 2
          have f2 := blk_frozen ZW 2
          have k3 := blk_cell BW 3
          have l3 := blk_frozen BW 3
          have z3 := blk_cell ZW 3
          have f3 := blk_frozen ZW 3
          have k4 := blk_cell BW 4
          have l4 := blk_frozen BW 4
          have z4 := blk_cell ZW 4
          have f4 := blk_frozen ZW 4
          have k5 := blk_cell BW 5
          have l5 := blk_frozen BW 5
          have z5 := blk_cell ZW 5
          have f5 := blk_frozen ZW 5
          have k6 := blk_cell BW 6
          have l6 := blk_frozen BW 6
          have z6 := blk_cell ZW 6
          have f6 := blk_frozen ZW 6
          have k7 := blk_cell BW 7
          have l7 := blk_frozen BW 7
          have z7 := blk_cell ZW 7
          have f7 := blk_frozen ZW 7
          have k8 := blk_cell BW 8
          have l8 := blk_frozen BW 8
          have z8 := blk_cell ZW 8
          have f8 := blk_frozen ZW 8
          have k9 := blk_cell BW 9
          have l9 := blk_frozen BW 9
          have z9 := blk_cell ZW 9
          have f9 := blk_frozen ZW 9
          refine (ref_GetVar_h hbW hn6 HV).mono ?_
          rintro e _ ⟨rfl, rfl⟩
          go_wp2_with fail
          refine bodyPost_ret (v := .tuple #[msV ⟨2, y0, y1, y2, y3, y4, lt, [], [], []⟩ A2 n2 c2 none 0 0 none 0 0 none 0 0, .bool false]) ?hres rfl ⟨_, _, _, _, _, _, _, _, _, _, _, _, _, rfl, (fun x hx => by cases hx), ?hxx⟩
          case hres => simp [results, Try.results68, go_sem, k0, k1, k2, k3, k4, k5, k6, k7, k8, k9, z0, z1, z2, z3, z4, z5, z6, z7, z8, z9]
          case hxx => (repeat (first | (with_reducible exact Ext.refl _) | (with_reducible assumption) | (with_reducible refine Ext.draws ?_) | (with_reducible refine Ext.allocs ?_ _) | (with_reducible refine Ext.sets ?_ ?_ _) | (with_reducible exact Nat.le_refl _) | (exact (by simp)) | (exact (by simp; omega))))
        | true =>
        obtain ⟨N, rfl⟩ := Int.eq_ofNat_of_zero_le hX0
        by_cases hN : 4 < N
        · have d4 : decide ((4 : Int) < (N : Int)) = true := by simp; omega
          rw [if_neg (by rintro ⟨_, e⟩; omega)] at ho1
          obtain rfl : none = o := ho1
          go_wp2_with fail
          rw [← hW]
          clear hW
          clear k0 k1 k2 k3 k4 k5 k6 k7 k8 k9 l0 l1 l2 l3 l4 l5 l6 l7 l8 l9 z0 z1 z2 z3 z4 z5 z6 z7 z8 z9 f0 f1 f2 f3 f4 f5 f6 f7 f8 f9
          have k0 := blk_cell BW 0
          have l0 := blk_frozen BW 0
          have z0 := blk_cell ZW 0
          have f0 := blk_frozen ZW 0
          have k1 := blk_cell BW 1
          have l1 := blk_frozen BW 1
          have z1 := blk_cell ZW 1
          have f1 := blk_frozen ZW 1
          have k2 := blk_cell BW 2
          have l2 := blk_frozen BW 2
          have z2 := blk_cell ZW 2
          have f2 := blk_frozen ZW 2
          have k3 := blk_cell BW 3
          have l3 := blk_frozen BW 3
          have z3 := blk_cell ZW 3
          have f3 := blk_frozen ZW 3
          have k4 := blk_cell BW 4
          have l4 := blk_frozen BW 4
          have z4 := blk_cell ZW 4
          have f4 := blk_frozen ZW 4
          have k5 := blk_cell BW 5
          have l5 := blk_frozen BW 5
          have z5 := blk_cell ZW 5
          have f5 := blk_frozen ZW 5
          have k6 := blk_cell BW 6
          have l6 := blk_frozen BW 6
          have z6 := blk_cell ZW 6
          have f6 := blk_frozen ZW 6
          have k7 := blk_cell BW 7
          have l7 := blk_frozen BW 7
          have z7 := blk_cell ZW 7
          have f7 := blk_frozen ZW 7
          have k8 := blk_cell BW 8
          have l8 := blk_frozen BW 8
          have z8 := blk_cell ZW 8
          have f8 := blk_frozen ZW 8
          have k9 := blk_cell BW 9
          have l9 := blk_frozen BW 9
          have z9 := blk_cell ZW 9
          have f9 := blk_frozen ZW 9
          refine (ref_GetVar_h hbW hn6 HV).mono ?_
          rintro e _ ⟨rfl, rfl⟩
          go_wp2_with fail
          refine bodyPost_ret (v := .tuple #[msV ⟨2, y0, y1, y2, y3, y4, lt, [], [], []⟩ A2 n2 c2 none 0 0 none 0 0 none 0 0, .bool false]) ?hres rfl ⟨_, _, _, _, _, _, _, _, _, _, _, _, _, rfl, (fun x hx => by cases hx), ?hxx⟩
          case hres => simp [results, Try.results68, go_sem, k0, k1, k2, k3, k4, k5, k6, k7, k8, k9, z0, z1, z2, z3, z4, z5, z6, z7, z8, z9]
          case hxx => (repeat (first | (with_reducible exact Ext.refl _) | (with_reducible assumption) | (with_reducible refine Ext.draws ?_) | (with_reducible refine Ext.allocs ?_ _) | (with_reducible refine Ext.sets ?_ ?_ _) | (with_reducible exact Nat.le_refl _) | (exact (by simp)) | (exact (by simp; omega))))
        have d4 : decide ((4 : Int) < (N : Int)) = false := by simp; omega
        rw [if_pos ⟨rfl, by omega⟩, Int.toNat_natCast] at ho1
        obtain ⟨oe, hoe⟩ : ∃ q, entsG N b Y = q := ⟨_, rfl⟩
        have HO : Hid ((entsG (N - 0) b Y).map (([] : List En) ++ ·) = oe) := by
          unfold Hid
          rw [← hoe]
          simp
        rw [hoe] at ho1
        have HOO : Hid (oe.map (fun l => (⟨2, y0, y1, y2, y3, y4, lt, l, [], []⟩ : Ms)) = o) := by
          unfold Hid
          rw [← ho1, Option.map_map]
          rfl
        clear ho1 hX0 hoe
        go_wp2_with fail
        rw [← hW]
        clear hW
        clear k0 k1 k2 k3 k4 k5 k6 k7 k8 k9 l0 l1 l2 l3 l4 l5 l6 l7 l8 l9 z0 z1 z2 z3 z4 z5 z6 z7 z8 z9 f0 f1 f2 f3 f4 f5 f6 f7 f8 f9
        have k0 := blk_cell BW 0
        have l0 := blk_frozen BW 0
        have z0 := blk_cell ZW 0
        have f0 := blk_frozen ZW 0
        have k1 := blk_cell BW 1
        have l1 := blk_frozen BW 1
        have z1 := blk_cell ZW 1
        have f1 := blk_frozen ZW 1
        have k2 := blk_cell BW 2
        have l2 := blk_frozen BW 2
        have z2 := blk_cell ZW 2
        have f2 := blk_frozen ZW 2
        have k3 := blk_cell BW 3
        have l3 := blk_frozen BW 3
        have z3 := blk_cell ZW 3
        have f3 := blk_frozen ZW 3
        have k4 := blk_cell BW 4
        have l4 := blk_frozen BW 4
        have z4 := blk_cell ZW 4
        have f4 := blk_frozen ZW 4
        have k5 := blk_cell BW 5
        have l5 := blk_frozen BW 5
        have z5 := blk_cell ZW 5
        have f5 := blk_frozen ZW 5
        have k6 := blk_cell BW 6
        have l6 := blk_frozen BW 6
        have z6 := blk_cell ZW 6
        have f6 := blk_frozen ZW 6
        have k7 := blk_cell BW 7
        have l7 := blk_frozen BW 7
        have z7 := blk_cell ZW 7
        have f7 := blk_frozen ZW 7
        have k8 := blk_cell BW 8
        have l8 := blk_frozen BW 8
        have z8 := blk_cell ZW 8
        have f8 := blk_frozen ZW 8
        have k9 := blk_cell BW 9
        have l9 := blk_frozen BW 9
        have z9 := blk_cell ZW 9
        have f9 := blk_frozen ZW 9
        refine (ref_GetVar_h hbW hn6 HV).mono ?_
        rintro e _ ⟨rfl, rfl⟩
        go_wp2_with fail
        clear k0 k1 k2 k3 k4 k5 k6 k7 k8 k9 l0 l1 l2 l3 l4 l5 l6 l7 l8 l9 z0 z1 z2 z3 z4 z5 z6 z7 z8 z9 f0 f1 f2 f3 f4 f5 f6 f7 f8 f9
        go_loopw [2, 16] (fun av i wr => ∃ (k : Nat) (d : Int) (Ao : Option Addr) (co : Nat) (out : List En), k ≤ N ∧ av = .int .i64 d ∧ i = .int .i64 k ∧ OwnL TEn 3 (enRB (w.heap.size + 2)) wr (w.heap.size + 2) Ao k co out ∧ Hid ((entsG (N - k) b d).map (out ++ ·) = oe) ∧ Hid (wr.heap[w.heap.size]? = some (.cells #[.int .i64 2, .int .i64 y0, .int .i64 y1, .int .i64 y2, .int .i64 y3, .int .i64 y4, .slice A2 n2 c2, .slice Ao k co, .slice none 0 0, .slice none 0 0] TMs (0, 0))) ∧ Hid (wr.heap[w.heap.size + 1]? = some (.cells zeroM TMs (0, 0))) ∧ Hid (Hz (w.heap.size + 2) (fun u => Lst 4 tgR u A2 n2 c2 lt) wr) ∧ w.heap.size + 2 ≤ wr.heap.size ∧ Ext w wr) (fun _ i _ => N - (intOf i).toNat)
        case atStart => exact ⟨0, Y, none, 0, [], by omega, rfl, rfl, OwnL.nil _ _ _ _, HO, BW, ZW, HCW, hszW, gxW⟩
        case round =>
          clear HO BW ZW HCW hbW gxW
          obtain ⟨k, d, Ao, co, out, hk, rfl, rfl, hown, hrk, HB, HZ, HC, hsr, hxr⟩ := hrel
          by_cases hlt : k < N
          · obtain ⟨T, S, D, nx, er, hT⟩ : ∃ T S D nx er, tkA b d = (T, S, D, nx, er) := ⟨_, _, _, _, _, rfl⟩
            have HT := Lib.hid hT
            by_cases he : er = 0
            · subst he
              have HN := Lib.hid (ents_next hrk.out hlt hT)
              clear hrk hT
              go_wp2_with fail
              refine (ref_TakeFrame (hb.ext hxr) hn6 HT).mono ?_
              rintro e w2 ⟨A5, n5, c5, rfl, h5, hx2⟩
              obtain ⟨W3, hW3⟩ : ∃ q, q = w2.alloc (.cells #[.int .i64 (T : Int), .int .i64 (S : Int), .slice A5 n5 c5] TEn) := ⟨_, rfl⟩
              have hx3 : Ext wr W3 := by rw [hW3]; exact hx2.allocs _
              have e0 : W3.cell? ⟨w2.heap.size, 0, none⟩ = some (.int .i64 (T : Int)) := by rw [hW3]; exact cell_new w2 _ TEn 0
              have e1 : W3.cell? ⟨w2.heap.size, 1, none⟩ = some (.int .i64 (S : Int)) := by rw [hW3]; exact cell_new w2 _ TEn 1
              have e2 : W3.cell? ⟨w2.heap.size, 2, none⟩ = some (.slice A5 n5 c5) := by rw [hW3]; exact cell_new w2 _ TEn 2
              have B3 := blk_ext HB.out hx3
              have Z3 := blk_ext HZ.out hx3
              have HC3 := Lib.hid (HC.out.ext hx3)
              have gx3 := hxr.trans hx3
              have hown3 := hown.ext (enRB_rep _) hx3
              have h5s : Sl W3 A5 n5 c5 D := by rw [hW3]; exact h5.sl.ext (Ext.alloc _ _)
              have h5b := h5s.blk
              have h5f := h5.fr
              have hp5 : ∀ ad, A5 = some ad → 0 < n5 → w.heap.size + 2 ≤ ad.block ∧ ad.block < W3.heap.size := fun ad e hn => ⟨by have := h5f ad e hn; omega, h5b ad e hn⟩
              have hs3 := hx3.size
              clear HB HZ HC hown h5 hx2 h5b h5f hx3 hxr HT
              have k0 := blk_cell B3 0
              have l0 := blk_frozen B3 0
              have z0 := blk_cell Z3 0
              have f0 := blk_frozen Z3 0
              have k1 := blk_cell B3 1
              have l1 := blk_frozen B3 1
              have z1 := blk_cell Z3 1
              have f1 := blk_frozen Z3 1
              have k2 := blk_cell B3 2
              have l2 := blk_frozen B3 2
              have z2 := blk_cell Z3 2
              have f2 := blk_frozen Z3 2
              have k3 := blk_cell B3 3
              have l3 := blk_frozen B3 3
              have z3 := blk_cell Z3 3
              have f3 := blk_frozen Z3 3
              have k4 := blk_cell B3 4
              have l4 := blk_frozen B3 4
              have z4 := blk_cell Z3 4
              have f4 := blk_frozen Z3 4
              have k5 := blk_cell B3 5
              have l5 := blk_frozen B3 5
              have z5 := blk_cell Z3 5
              have f5 := blk_frozen Z3 5
              have k6 := blk_cell B3 6
              have l6 := blk_frozen B3 6
              have z6 := blk_cell Z3 6
              have f6 := blk_frozen Z3 6
              have k7 := blk_cell B3 7
              have l7 := blk_frozen B3 7
              have z7 := blk_cell Z3 7
              have f7 := blk_frozen Z3 7
              have k8 := blk_cell B3 8
              have l8 := blk_frozen B3 8
              have z8 := blk_cell Z3 8
              have f8 := blk_frozen Z3 8
              have k9 := blk_cell B3 9
              have l9 := blk_frozen B3 9
              have z9 := blk_cell Z3 9
              have f9 := blk_frozen Z3 9
              go_upto_region 21 with fail
              rw [← hW3]
              clear hW3
              refine wp_region_typed4' (R := But W3.heap.size (fun _ => False)) 8 Ext.steady (But.steady _ _) (fun _ _ => But.of_ext) rfl 121 rfl [0, 0, 2, 7, 0, 16, 63, 127, 255] 64 (by kernel_rfl) ?_
              simp only [List.take_succ_cons, List.take_zero, List.drop_succ_cons, List.drop_zero]
              apply Stage2.step (EnNil) true [] true false (EnNil.keeps _) (fun _ => EnNil.keeps _) (by kernel_rfl)
              · intro w1 h1
                have h1 : Ext _ w1 := h1
                simp only [List.nil_append, List.cons_append, List.map_cons, List.map_nil, Given]
                go_wp2_with fail
                exact ⟨rfl, rfl, Ext.alloc _ _, _, rfl⟩
              apply Stage2.step (Is _) true [] true false (Is.keeps _) (fun _ => Is.keeps _) (by kernel_rfl)
              · intro w1 h1
                have h1 : Ext _ w1 := h1
                simp only [List.nil_append, List.cons_append, List.map_cons, List.map_nil, Given]
                go_wp2_with fail
                exact Post.isv (Ext.refl _) rfl rfl rfl
              apply Stage2.step (Is (.slice Ao k co)) true [false, true] true false (Is.keeps _) (fun _ => Is.keeps _) (by kernel_rfl)
              · intro w1 h1
                have h1 : Ext _ w1 := h1
                simp only [List.nil_append, List.cons_append, List.map_cons, List.map_nil, Sp.pr, Given]
                rintro _ rfl
                have q0 := h1.cell k7
                go_wp2_with fail
                exact Post.isv (Ext.refl _) rfl rfl rfl
              apply Stage2.step (EnB (w.heap.size + 2) W3.heap.size k out) false [true, false, true] true false (EnB.keeps _ _ _ _) (no_keeps) (by kernel_rfl)
              · intro w1 h1
                have h1 : Ext _ w1 := h1
                simp only [List.nil_append, List.cons_append, List.map_cons, List.map_nil, Sp.pr, Given]
                rintro _ ⟨A7, rfl⟩
                rintro _ rfl
                have fd := Feed.onto0 (P := Try.prog) (tx := 26) (enRB_rep (w.heap.size + 2)) A7 ((hown3.ext (enRB_rep _) h1).lst) under_ens
                have hs1 := h1.size
                go_wp2_with (
                  at_builtin
                  refine wpList_append_lstM (B := W3.heap.size) (enRB_rep (w.heap.size + 2)) rfl _ _ _ _ rfl TEn i0 _ 40 under_ens hi0 hz0 hz1 hz2 rfl A7 0 0 [] rfl (OwnL.nil _ _ _ _) _ k out rfl fd k (by omega) _ rfl (by simp only [maxLen]; omega) (by omega) (by omega) ?_
                  intro A8 c8 w8 ho8 hg8)
                exact ⟨rfl, rfl, grown_nil hg8, _, _, rfl, ho8⟩
              apply Stage2.step (Is (enV (T : Int) (S : Int) A5 n5 c5)) true [] true false (Is.keeps _) (fun _ => Is.keeps _) (by kernel_rfl)
              · intro w1 h1
                have h1 : Ext _ w1 := h1
                simp only [List.nil_append, List.cons_append, List.map_cons, List.map_nil, Given]
                have q0 := h1.cell e0
                have q1 := h1.cell e1
                have q2 := h1.cell e2
                go_wp2_with fail
                exact Post.isv (Ext.refl _) rfl rfl rfl
              apply Stage2.step (EnLM (w.heap.size + 2) W3.heap.size ⟨(T : Int), (S : Int), D⟩) false [false, false, false, false, true] true false (EnLM.keeps _ _ _) (no_keeps) (by kernel_rfl)
              · intro w1 h1
                have h1 : Ext _ w1 := h1
                simp only [List.nil_append, List.cons_append, List.map_cons, List.map_nil, Sp.pr, Given]
                rintro _ rfl
                have hs1 := h1.size
                go_wp2_with fail
                exact ⟨rfl, rfl, Ext.alloc _ _, _, _, rfl, en_litM w1 _ _ (h5s.ext h1) hp5 hs1⟩
              apply Stage2.step (EnB (w.heap.size + 2) W3.heap.size (k + 1) (out ++ [⟨(T : Int), (S : Int), D⟩])) false [false, false, false, true, false, true] true true (EnB.keeps _ _ _ _) (no_keeps) (by kernel_rfl)
              · intro w1 h1
                have h1 : Ext _ w1 := h1
                simp only [List.nil_append, List.cons_append, List.map_cons, List.map_nil, Sp.pr, Given]
                rintro _ ⟨A8, c8, rfl, h8⟩
                rintro _ ⟨A9, c9, rfl, h9⟩
                have fd := EnLM.feed h9 h8
                have hs1 := h1.size
                have hr8 := h8.row_lt
                go_wp2_with (
                  at_builtin
                  refine wpList_append_lstM (B := W3.heap.size) (enRB_rep (w.heap.size + 2)) rfl _ _ _ _ rfl TEn i0 _ 40 under_ens hi0 hz0 hz1 hz2 rfl A8 k c8 out rfl h8 _ 1 _ rfl fd (k + 1) rfl _ rfl (by simp only [maxLen]; omega) (by omega) (by omega) ?_
                  intro A11 c11 w11 ho11 hg11)
                exact ⟨rfl, rfl, But.grown (But.refl _ _ _) hg11 (fun q hq => .inr (hr8 q hq).1), _, _, rfl, ho11⟩
              apply Stage2.step (Is _) true [] false false (Is.keeps _) (fun _ => Is.keeps _) (by kernel_rfl)
              · intro w1 h1
                have h1 : (But W3.heap.size (fun _ => False)) _ w1 := h1
                simp only [List.nil_append, List.cons_append, List.map_cons, List.map_nil, Given]
                go_wp2_with fail
                exact Post.isv (Ext.refl _) rfl rfl rfl
              apply Stage2.nil [true, true, true, false, true, false, true, true] (by kernel_rfl)
              intro w1 h1
              have h1 : (But W3.heap.size (fun _ => False)) _ w1 := h1
              simp only [List.nil_append, List.cons_append, List.map_cons, List.map_nil, Sp.pr]
              refine Fin2.step_ ?_
              rintro _ ⟨A7, rfl⟩
              refine Fin2.is_ ?_
              refine Fin2.is_ ?_
              refine Fin2.dead_ ?_
              intro dead3
              refine Fin2.is_ ?_
              refine Fin2.dead_ ?_
              intro dead5
              refine Fin2.step_ ?_
              rintro _ ⟨A10, c10, rfl, h10⟩
              refine Fin2.is_ ?_
              refine Fin2.nil_ ?_
              go_simp
              have gx9 : Ext W3 w1 := (Ext.refl W3).but h1 (Nat.le_refl _) (fun _ h => h.elim)
              have B9 := blk_ext B3 gx9
              have Z9 := blk_ext Z3 gx9
              have hs9 := gx9.size
              clear k0 k1 k2 k3 k4 k5 k6 k7 k8 k9 l0 l1 l2 l3 l4 l5 l6 l7 l8 l9 z0 z1 z2 z3 z4 z5 z6 z7 z8 z9 f0 f1 f2 f3 f4 f5 f6 f7 f8 f9
              have k7 := blk_cell B9 7
              have l7 := blk_frozen B9 7
              obtain ⟨W4, hW4⟩ : ∃ q, q = w1.setCell ⟨w.heap.size, 7, none⟩ (.slice A10 (k + 1) c10) := ⟨_, rfl⟩
              have B4 : Hid (W4.heap[w.heap.size]? = some (.cells #[.int .i64 2, .int .i64 y0, .int .i64 y1, .int .i64 y2, .int .i64 y3, .int .i64 y4, .slice A2 n2 c2, .slice A10 (k + 1) c10, .slice none 0 0, .slice none 0 0] TMs (0, 0))) := by
                rw [hW4]
                have := blk_set B9 7 (.slice A10 (k + 1) c10)
                unfold Hid
                simpa using this
              have Z4 : Hid (W4.heap[w.heap.size + 1]? = some (.cells zeroM TMs (0, 0))) := by rw [hW4]; exact blk_far Z9 (by simp) _
              have HC4 : Hid (Hz (w.heap.size + 2) (fun u => Lst 4 tgR u A2 n2 c2 lt) W4) := by rw [hW4]; exact (HC3.out.ext gx9).setBox0 _
              have ho4 : OwnL TEn 3 (enRB (w.heap.size + 2)) W4 (w.heap.size + 2) A10 (k + 1) c10 (out ++ [⟨(T : Int), (S : Int), D⟩]) := by rw [hW4]; exact (h10.setB (p := ⟨w.heap.size, 7, none⟩) (by simp) (by simp only; omega) _).low (by omega)
              have gx4 : Ext w W4 := by rw [hW4]; exact (gx3.trans gx9).sets (Nat.le_refl _) _
              have hs4 : w.heap.size + 2 ≤ W4.heap.size := by rw [hW4]; simp; omega
              obtain ⟨wm, rfl⟩ : ∃ q, q = w1 := ⟨_, rfl⟩
              clear h1 h10 B9 Z9 B3 Z3 HC3 gx9 gx3 hown3 h5s hp5 e0 e1 e2
              go_wp2_with fail
              rw [← hW4]
              clear hW4
              go_roundw
              case rel => exact ⟨k + 1, nx, A10, c10, _, by omega, rfl, by go_num, ho4, HN, B4, Z4, HC4, hs4, gx4⟩
              case measure => simp [intOf]; omega
            · have hoe0 := ents_stop hrk.out hlt (by rw [hT]; exact he)
              obtain rfl : none = o := by rw [← HOO.out, ← hoe0]; rfl
              have hne : ((er : Int) != 0) = true := by simp; omega
              clear hrk hT HOO hoe0
              go_wp2_with fail
              refine (ref_TakeFrame (hb.ext hxr) hn6 HT).mono ?_
              rintro e w2 ⟨A5, n5, c5, rfl, h5, hx2⟩
              have hx3 : Ext wr (w2.alloc (.cells #[.int .i64 (T : Int), .int .i64 (S : Int), .slice A5 n5 c5] TEn)) := hx2.allocs _
              have B3 := blk_ext HB.out hx3
              have Z3 := blk_ext HZ.out hx3
              have gx3 := hxr.trans hx3
              clear HB HZ HC hown h5 hx2 hx3 hxr HT
              have k0 := blk_cell B3 0
              have l0 := blk_frozen B3 0
              have z0 := blk_cell Z3 0
              have f0 := blk_frozen Z3 0
              have k1 := blk_cell B3 1
              have l1 := blk_frozen B3 1
              have z1 := blk_cell Z3 1
              have f1 := blk_frozen Z3 1
              have k2 := blk_cell B3 2
              have l2 := blk_frozen B3 2
              have z2 := blk_cell Z3 2
              have f2 := blk_frozen Z3 2
              have k3 := blk_cell B3 3
              have l3 := blk_frozen B3 3
              have z3 := blk_cell Z3 3
              have f3 := blk_frozen Z3 3
              have k4 := blk_cell B3 4
              have l4 := blk_frozen B3 4
              have z4 := blk_cell Z3 4
              have f4 := blk_frozen Z3 4
              have k5 := blk_cell B3 5
              have l5 := blk_frozen B3 5
              have z5 := blk_cell Z3 5
              have f5 := blk_frozen Z3 5
              have k6 := blk_cell B3 6
              have l6 := blk_frozen B3 6
              have z6 := blk_cell Z3 6
              have f6 := blk_frozen Z3 6
              have k7 := blk_cell B3 7
              have l7 := blk_frozen B3 7
              have z7 := blk_cell Z3 7
              have f7 := blk_frozen Z3 7
              have k8 := blk_cell B3 8
              have l8 := blk_frozen B3 8
              have z8 := blk_cell Z3 8
              have f8 := blk_frozen Z3 8
              have k9 := blk_cell B3 9
              have l9 := blk_frozen B3 9
              have z9 := blk_cell Z3 9
              have f9 := blk_frozen Z3 9
              go_wp2_with fail
              refine bodyPost_ret (v := .tuple #[msV ⟨2, y0, y1, y2, y3, y4, lt, out, [], []⟩ A2 n2 c2 Ao k co none 0 0 none 0 0, .bool false]) ?hres rfl ⟨_, _, _, _, _, _, _, _, _, _, _, _, _, rfl, (fun x hx => by cases hx), ?hxx⟩
              case hres => simp [results, Try.results68, go_sem, k0, k1, k2, k3, k4, k5, k6, k7, k8, k9, z0, z1, z2, z3, z4, z5, z6, z7, z8, z9]
              case hxx => (repeat (first | (with_reducible exact Ext.refl _) | (with_reducible assumption) | (with_reducible refine Ext.draws ?_) | (with_reducible refine Ext.allocs ?_ _) | (with_reducible refine Ext.sets ?_ ?_ _) | (with_reducible exact Nat.le_refl _) | (exact (by simp)) | (exact (by simp; omega))))
          · obtain rfl : k = N := by omega
            have hr1 := hrk.out
            rw [Nat.sub_self] at hr1
            obtain rfl : some out = oe := by rw [← hr1]; simp [entsG]
            obtain rfl := HOO.out
            clear hrk hr1 HOO
            have B3 := HB.out
            have Z3 := HZ.out
            have HE := Lib.hid hown.hzEn
            have k0 := blk_cell B3 0
            have l0 := blk_frozen B3 0
            have z0 := blk_cell Z3 0
            have f0 := blk_frozen Z3 0
            have k1 := blk_cell B3 1
            have l1 := blk_frozen B3 1
            have z1 := blk_cell Z3 1
            have f1 := blk_frozen Z3 1
            have k2 := blk_cell B3 2
            have l2 := blk_frozen B3 2
            have z2 := blk_cell Z3 2
            have f2 := blk_frozen Z3 2
            have k3 := blk_cell B3 3
            have l3 := blk_frozen B3 3
            have z3 := blk_cell Z3 3
            have f3 := blk_frozen Z3 3
            have k4 := blk_cell B3 4
            have l4 := blk_frozen B3 4
            have z4 := blk_cell Z3 4
            have f4 := blk_frozen Z3 4
            have k5 := blk_cell B3 5
            have l5 := blk_frozen B3 5
            have z5 := blk_cell Z3 5
            have f5 := blk_frozen Z3 5
            have k6 := blk_cell B3 6
            have l6 := blk_frozen B3 6
            have z6 := blk_cell Z3 6
            have f6 := blk_frozen Z3 6
            have k7 := blk_cell B3 7
            have l7 := blk_frozen B3 7
            have z7 := blk_cell Z3 7
            have f7 := blk_frozen Z3 7
            have k8 := blk_cell B3 8
            have l8 := blk_frozen B3 8
            have z8 := blk_cell Z3 8
            have f8 := blk_frozen Z3 8
            have k9 := blk_cell B3 9
            have l9 := blk_frozen B3 9
            have z9 := blk_cell Z3 9
            have f9 := blk_frozen Z3 9
            clear B3 Z3 HB HZ
            go_wp2_with fail
            refine bodyPost_ret (v := .tuple #[msV ⟨2, y0, y1, y2, y3, y4, lt, out, [], []⟩ A2 n2 c2 Ao k co none 0 0 none 0 0, .bool true]) ?hres rfl ⟨_, _, _, _, _, _, _, _, _, _, _, _, _, rfl, ?hm, ?hxx⟩
            case hres => simp [results, Try.results68, go_sem, k0, k1, k2, k3, k4, k5, k6, k7, k8, k9, z0, z1, z2, z3, z4, z5, z6, z7, z8, z9]
            case hxx => (repeat (first | (with_reducible exact Ext.refl _) | (with_reducible assumption) | (with_reducible refine Ext.draws ?_) | (with_reducible refine Ext.allocs ?_ _) | (with_reducible refine Ext.sets ?_ ?_ _) | (with_reducible exact Nat.le_refl _) | (exact (by simp)) | (exact (by simp; omega))))
            case hm =>
              first | (refine ⟨rfl, ?_⟩) | (intro x hx; cases hx; refine ⟨rfl, ?_⟩)
              have HALL : Hz (w.heap.size + 2) (fun u => MsR u ⟨2, y0, y1, y2, y3, y4, lt, out, [], []⟩ A2 n2 c2 Ao k co none 0 0 none 0 0) wr := (HC.out.and HE.out).mono (fun u hu => ⟨hu.1, hu.2, Lst.nil u, Sl.nil u⟩)
              refine Hz.low (B := w.heap.size + 2) ?_ (by omega)
              (repeat (first | (with_reducible exact HALL) | (with_reducible refine Hz.setBox1 ?_ _) | (with_reducible refine Hz.setBox0 ?_ _)))
end Go.Proofs.Ytoeknbogaclfdaa
