/-
  Messages out of bytes: the reference's rest, of an info.
-/
/-
  Messages out of bytes: contract of the reference's rest.
-/
import Derived.Test.YtoeknbogaclfdaaZFromReg4ToTagNums
import Derived.Test.YtoeknbogaclfdaaZFromTagGetRefToMksGetR
import Derived.Test.YtoeknbogaclfdaaZMsRest2
namespace Go.Proofs.Ytoeknbogaclfdaa
open Go.RowKit
set_option linter.unusedVariables false
set_option linter.unusedSimpArgs false
set_option linter.unnecessarySimpa false
set_option maxRecDepth 100000
set_option maxHeartbeats 8000000 in
theorem ref_rest4 {A : Option Addr} {n c : Nat} {b : List UInt8} {a y0 y1 y2 y3 y4 : Int} {w : World} (hb : Sl w A n c b) (hn6 : n ≤ 1000000) (ha : 0 ≤ a ∧ a ≤ (n : Int)) {o : Option Ms} (ho : Hid (restM 4 y0 y1 y2 y3 y4 b a = o)) :
    Calls Try.prog 68 #[msV ⟨4, y0, y1, y2, y3, y4, [], [], [], []⟩ none 0 0 none 0 0 none 0 0 none 0 0, .slice A n c, .int .i64 a] w fun e w' => ∃ m B1 Bn1 Bc1 B2 Bn2 Bc2 B3 Bn3 Bc3 B4 Bn4 Bc4, e = .returned (.tuple #[msV m B1 Bn1 Bc1 B2 Bn2 Bc2 B3 Bn3 Bc3 B4 Bn4 Bc4, .bool o.isSome]) ∧ (∀ x, o = some x → m = x ∧ Hz w.heap.size (fun u => MsR u m B1 Bn1 Bc1 B2 Bn2 Bc2 B3 Bn3 Bc3 B4 Bn4 Bc4) w') ∧ Ext w w' := by
  have h63 := hb.n63
  have HLEN := Lib.hid hb.len
  obtain ⟨i0, hi0, hz0, hz1, hz2⟩ := info_parts info_en
  obtain ⟨iu, hiu, hu0, hu1, hu2⟩ := info_parts info_u8
  have ho1 := ho.out
  unfold restM at ho1
  clear ho
  obtain ⟨w1, hw1⟩ : ∃ q, q = (w.alloc (.cells #[.int .i64 4, .int .i64 y0, .int .i64 y1, .int .i64 y2, .int .i64 y3, .int .i64 y4, .slice none 0 0, .slice none 0 0, .slice none 0 0, .slice none 0 0] TMs)).alloc (.cells #[.int .i64 0, .int .i64 0, .int .i64 0, .int .i64 0, .int .i64 0, .int .i64 0, .slice none 0 0, .slice none 0 0, .slice none 0 0, .slice none 0 0] TMs) := ⟨_, rfl⟩
  have gx1 : Ext w w1 := by rw [hw1]; exact (Ext.alloc _ _).allocs _
  have hsz1 : w1.heap.size = w.heap.size + 2 := by rw [hw1]; simp
  have B1 : w1.heap[w.heap.size]? = some (.cells (nilC 4 y0 y1 y2 y3 y4) TMs (0, 0)) := by rw [hw1]; exact blk_ext (heap_alloc_new w _) (Ext.alloc _ _)
  have Z1 : w1.heap[w.heap.size + 1]? = some (.cells zeroM TMs (0, 0)) := by
    rw [hw1]
    have := heap_alloc_new (w.alloc (.cells (nilC 4 y0 y1 y2 y3 y4) TMs)) (.cells zeroM TMs)
    simpa using this
  have HS1 : Hid (w1.heap.size = w.heap.size + 2) := hsz1
  have hsg1 : w.heap.size + 2 ≤ w1.heap.size := by omega
  clear hsz1
  · skip
    unfold chainO at ho1
    rw [if_pos (by first | exact .inl rfl | exact .inr rfl)] at ho1
    unfold tagsO at ho1
    rw [HLEN.out] at ho1
    obtain ⟨ta, hta⟩ : ∃ q, (⟨(gtA b a (n : Int)).toArray⟩ : ByteArray) = q := ⟨_, rfl⟩
    obtain ⟨tl, htl⟩ : ∃ q, gtA b a (n : Int) = q := ⟨_, rfl⟩
    obtain ⟨tb, htb⟩ : ∃ q, gtB b a (n : Int) = q := ⟨_, rfl⟩
    obtain ⟨tc, htc⟩ : ∃ q, gtC b a (n : Int) = q := ⟨_, rfl⟩
    have HG := Lib.hid (And.intro hta (And.intro htb htc))
    have htal : ta = ⟨tl.toArray⟩ := by rw [← hta, htl]
    cases tc with
    | false =>
      rw [gtO_none htc] at ho1
      obtain rfl : none = o := ho1
      clear hta htl htb htc htal
      have k0 := blk_cell B1 0
      have l0 := blk_frozen B1 0
      have z0 := blk_cell Z1 0
      have f0 := blk_frozen Z1 0
      have k1 := blk_cell B1 1
      have l1 := blk_frozen B1 1
      have z1 := blk_cell Z1 1
      have f1 := blk_frozen Z1 1
      have k2 := blk_cell B1 2
      have l2 := blk_frozen B1 2
      have z2 := blk_cell Z1 2
      have f2 := blk_frozen Z1 2
      have k3 := blk_cell B1 3
      have l3 := blk_frozen B1 3
      have z3 := blk_cell Z1 3
      have f3 := blk_frozen Z1 3
      have k4 := blk_cell B1 4
      have l4 := blk_frozen B1 4
      have z4 := blk_cell Z1 4
      have f4 := blk_frozen Z1 4
      have k5 := blk_cell B1 5
      have l5 := blk_frozen B1 5
      have z5 := blk_cell Z1 5
      have f5 := blk_frozen Z1 5
      have k6 := blk_cell B1 6
      have l6 := blk_frozen B1 6
      have z6 := blk_cell Z1 6
      have f6 := blk_frozen Z1 6
      have k7 := blk_cell B1 7
      have l7 := blk_frozen B1 7
      have z7 := blk_cell Z1 7
      have f7 := blk_frozen Z1 7
      have k8 := blk_cell B1 8
      have l8 := blk_frozen B1 8
      have z8 := blk_cell Z1 8
      have f8 := blk_frozen Z1 8
      have k9 := blk_cell B1 9
      have l9 := blk_frozen B1 9
      have z9 := blk_cell Z1 9
      have f9 := blk_frozen Z1 9
      go_enter Try.func68, Try.ntmps68
      go_upto_region 1 with fail
      rw [← hw1]
      clear hw1
      go_wp2_with fail
      refine (ref_GetText_h (hb.ext gx1) hn6 HG).mono ?_
      rintro e _ ⟨rfl, rfl⟩
      go_wp2_with fail
      refine bodyPost_ret (v := .tuple #[msV ⟨4, y0, y1, y2, y3, y4, [], [], [], []⟩ none 0 0 none 0 0 none 0 0 none 0 0, .bool false]) ?hres rfl ⟨_, _, _, _, _, _, _, _, _, _, _, _, _, rfl, (fun x hx => by cases hx), ?hxx⟩
      case hres => simp [results, Try.results68, go_sem, k0, k1, k2, k3, k4, k5, k6, k7, k8, k9, z0, z1, z2, z3, z4, z5, z6, z7, z8, z9]
      case hxx => (repeat (first | (with_reducible exact Ext.refl _) | (with_reducible assumption) | (with_reducible refine Ext.draws ?_) | (with_reducible refine Ext.allocs ?_ _) | (with_reducible refine Ext.sets ?_ ?_ _) | (with_reducible exact Nat.le_refl _) | (exact (by simp)) | (exact (by simp; omega))))
    | true =>
      have htll : tl.length ≤ 1000000 := by
        have := gtO_some htc
        rw [htl] at this
        have h2 := gtO_lenM this
        rw [HLEN.out] at h2
        omega
      rw [gtO_some htc, htl, htb, Option.bind_some] at ho1
      simp only at ho1
      obtain ⟨og, hog⟩ : ∃ z, getL tl = z := ⟨_, rfl⟩
      have HOG := Lib.hid hog
      rw [hog] at ho1
      obtain ⟨cc, w5, hcv, hs5, hx5⟩ := conv_str w1 tl htll
      rw [← htal] at hcv
      have gx5 := gx1.trans hx5
      have B5 := blk_ext B1 hx5
      have Z5 := blk_ext Z1 hx5
      have hgc := ref_GetChain hs5 htll HOG
      clear hta htl htb htc htal hog hs5
      have k0 := blk_cell B1 0
      have l0 := blk_frozen B1 0
      have z0 := blk_cell Z1 0
      have f0 := blk_frozen Z1 0
      have k1 := blk_cell B1 1
      have l1 := blk_frozen B1 1
      have z1 := blk_cell Z1 1
      have f1 := blk_frozen Z1 1
      have k2 := blk_cell B1 2
      have l2 := blk_frozen B1 2
      have z2 := blk_cell Z1 2
      have f2 := blk_frozen Z1 2
      have k3 := blk_cell B1 3
      have l3 := blk_frozen B1 3
      have z3 := blk_cell Z1 3
      have f3 := blk_frozen Z1 3
      have k4 := blk_cell B1 4
      have l4 := blk_frozen B1 4
      have z4 := blk_cell Z1 4
      have f4 := blk_frozen Z1 4
      have k5 := blk_cell B1 5
      have l5 := blk_frozen B1 5
      have z5 := blk_cell Z1 5
      have f5 := blk_frozen Z1 5
      have k6 := blk_cell B1 6
      have l6 := blk_frozen B1 6
      have z6 := blk_cell Z1 6
      have f6 := blk_frozen Z1 6
      have k7 := blk_cell B1 7
      have l7 := blk_frozen B1 7
      have z7 := blk_cell Z1 7
      have f7 := blk_frozen Z1 7
      have k8 := blk_cell B1 8
      have l8 := blk_frozen B1 8
      have z8 := blk_cell Z1 8
      have f8 := blk_frozen Z1 8
      have k9 := blk_cell B1 9
      have l9 := blk_frozen B1 9
      have z9 := blk_cell Z1 9
      have f9 := blk_frozen Z1 9
      go_enter Try.func68, Try.ntmps68
      go_upto_region 1 with fail
      rw [← hw1]
      clear hw1
      go_wp2_with fail
      refine (ref_GetText_h (hb.ext gx1) hn6 HG).mono ?_
      rintro e _ ⟨rfl, rfl⟩
      go_wp2_with fail
      refine hgc.mono ?_
      rintro e w2 ⟨A2, n2, c2, rfl, h2, hx2⟩
      have B2 := blk_ext B5 hx2
      have Z2 := blk_ext Z5 hx2
      have gx2 := gx5.trans hx2
      have hsg2 : w.heap.size + 2 ≤ w2.heap.size := Nat.le_trans hsg1 (hx5.trans hx2).size
      have hsg5 : w.heap.size + 2 ≤ w5.heap.size := Nat.le_trans hsg1 hx5.size
      clear k0 k1 k2 k3 k4 k5 k6 k7 k8 k9 l0 l1 l2 l3 l4 l5 l6 l7 l8 l9 z0 z1 z2 z3 z4 z5 z6 z7 z8 z9 f0 f1 f2 f3 f4 f5 f6 f7 f8 f9
      clear hgc hcv hx5 hx2 gx5 gx1 B1 Z1 B5 Z5
      have k0 := blk_cell B2 0
      have l0 := blk_frozen B2 0
      have z0 := blk_cell Z2 0
      have f0 := blk_frozen Z2 0
      have k1 := blk_cell B2 1
      have l1 := blk_frozen B2 1
      have z1 := blk_cell Z2 1
      have f1 := blk_frozen Z2 1
      have k2 := blk_cell B2 2
      have l2 := blk_frozen B2 2
      have z2 := blk_cell Z2 2
      have f2 := blk_frozen Z2 2
      have k3 := blk_cell B2 3
      have l3 := blk_frozen B2 3
      have z3 := blk_cell Z2 3
      have f3 := blk_frozen Z2 3
      have k4 := blk_cell B2 4
      have l4 := blk_frozen B2 4
      have z4 := blk_cell Z2 4
      have f4 := blk_frozen Z2 4
      have k5 := blk_cell B2 5
      have l5 := blk_frozen B2 5
      have z5 := blk_cell Z2 5
      have f5 := blk_frozen Z2 5
      have k6 := blk_cell B2 6
      have l6 := blk_frozen B2 6
      have z6 := blk_cell Z2 6
      have f6 := blk_frozen Z2 6
      have k7 := blk_cell B2 7
      have l7 := blk_frozen B2 7
      have z7 := blk_cell Z2 7
      have f7 := blk_frozen Z2 7
      have k8 := blk_cell B2 8
      have l8 := blk_frozen B2 8
      have z8 := blk_cell Z2 8
      have f8 := blk_frozen Z2 8
      have k9 := blk_cell B2 9
      have l9 := blk_frozen B2 9
      have z9 := blk_cell Z2 9
      have f9 := blk_frozen Z2 9
      cases og with
      | none =>
        obtain rfl : none = o := ho1
        rw [show (if (none : Option (List Tg)).isSome = true then (0 : Int) else 2) = 2 from rfl]
        go_wp2_with fail
        refine bodyPost_ret (v := .tuple #[msV ⟨4, y0, y1, y2, y3, y4, [], [], [], []⟩ none 0 0 none 0 0 none 0 0 none 0 0, .bool false]) ?hres rfl ⟨_, _, _, _, _, _, _, _, _, _, _, _, _, rfl, (fun x hx => by cases hx), ?hxx⟩
        case hres => simp [results, Try.results68, go_sem, k0, k1, k2, k3, k4, k5, k6, k7, k8, k9, z0, z1, z2, z3, z4, z5, z6, z7, z8, z9]
        case hxx => (repeat (first | (with_reducible exact Ext.refl _) | (with_reducible assumption) | (with_reducible refine Ext.draws ?_) | (with_reducible refine Ext.allocs ?_ _) | (with_reducible refine Ext.sets ?_ ?_ _) | (with_reducible exact Nat.le_refl _) | (exact (by simp)) | (exact (by simp; omega))))
      | some lt =>
        rw [show (if (some lt : Option (List Tg)).isSome = true then (0 : Int) else 2) = 0 from rfl]
        rw [Option.map_some, Option.bind_some] at ho1
        simp only [Option.getD_some] at h2 ho1
        have HC : Hid (Hz (w.heap.size + 2) (fun u => Lst 4 tgR u A2 n2 c2 lt) w2) := (h2.hzFlat tg_rep (fun x cs w h => tg_nopM h) (by decide)).low hsg5
        obtain ⟨W, hW⟩ : ∃ W, W = w2.setCell ⟨w.heap.size, 6, none⟩ (.slice A2 n2 c2) := ⟨_, rfl⟩
        have BW : W.heap[w.heap.size]? = some (.cells #[.int .i64 4, .int .i64 y0, .int .i64 y1, .int .i64 y2, .int .i64 y3, .int .i64 y4, .slice A2 n2 c2, .slice none 0 0, .slice none 0 0, .slice none 0 0] TMs (0, 0)) := by
          rw [hW]
          have := blk_set B2 6 (.slice A2 n2 c2)
          simpa using this
        have ZW : W.heap[w.heap.size + 1]? = some (.cells zeroM TMs (0, 0)) := by
          rw [hW]
          exact blk_far Z2 (by simp) _
        have gxW : Ext w W := by rw [hW]; exact gx2.sets (Nat.le_refl _) _
        have hszW : w.heap.size + 2 ≤ W.heap.size := by rw [hW]; simp; omega
        have HCW : Hid (Hz (w.heap.size + 2) (fun u => Lst 4 tgR u A2 n2 c2 lt) W) := by rw [hW]; exact HC.out.setBox0 _
        have hbW : Sl W A n c b := hb.ext gxW
        have Hrow := Lib.hid hsg2
        clear HC h2 B2 Z2 gx2 hsg2 hsg5 hsg1 HOG
        unfold restO at ho1
        rw [if_neg (by decide), if_pos rfl] at ho1
        obtain ⟨om, hom⟩ : ∃ q, mksO true b tb = q := ⟨_, rfl⟩
        have HOM := Lib.hid hom
        rw [hom] at ho1
        clear hom
        go_wp2_with fail
        rw [← hW]
        clear hW
        refine (ref_getMarks hbW hn6 HOM).mono ?_
        rintro e w3 ⟨A3, n3, c3, rfl, h3, hx3⟩
        have B3 := blk_ext BW hx3
        have Z3 := blk_ext ZW hx3
        have gx3 := gxW.trans hx3
        have HC3 := Lib.hid (HCW.out.ext hx3)
        have HE3 := Lib.hid ((h3.hzFlat mk_rep (fun x cs w h => mk_nop h) (by decide)).low hszW)
        clear k0 k1 k2 k3 k4 k5 k6 k7 k8 k9 l0 l1 l2 l3 l4 l5 l6 l7 l8 l9 z0 z1 z2 z3 z4 z5 z6 z7 z8 z9 f0 f1 f2 f3 f4 f5 f6 f7 f8 f9
        clear HCW h3 hx3 BW ZW gxW
        have k0 := blk_cell B3 0
        have l0 := blk_frozen B3 0
        have z0 := blk_cell Z3 0
        have f0 := blk_frozen Z3 0
        have k1 := blk_cell B3 1
        have l1 := blk_frozen B3 1
        have z1 := blk_cell Z3 1
        have f1 := blk_frozen Z3 1
        have k2 := blk_cell B3 2
        have l2 := blk_frozen B3 2
        have z2 := blk_cell Z3 2
        have f2 := blk_frozen Z3 2
        have k3 := blk_cell B3 3
        have l3 := blk_frozen B3 3
        have z3 := blk_cell Z3 3
        have f3 := blk_frozen Z3 3
        have k4 := blk_cell B3 4
        have l4 := blk_frozen B3 4
        have z4 := blk_cell Z3 4
        have f4 := blk_frozen Z3 4
        have k5 := blk_cell B3 5
        have l5 := blk_frozen B3 5
        have z5 := blk_cell Z3 5
        have f5 := blk_frozen Z3 5
        have k6 := blk_cell B3 6
        have l6 := blk_frozen B3 6
        have z6 := blk_cell Z3 6
        have f6 := blk_frozen Z3 6
        have k7 := blk_cell B3 7
        have l7 := blk_frozen B3 7
        have z7 := blk_cell Z3 7
        have f7 := blk_frozen Z3 7
        have k8 := blk_cell B3 8
        have l8 := blk_frozen B3 8
        have z8 := blk_cell Z3 8
        have f8 := blk_frozen Z3 8
        have k9 := blk_cell B3 9
        have l9 := blk_frozen B3 9
        have z9 := blk_cell Z3 9
        have f9 := blk_frozen Z3 9
        cases om with
        | none =>
          obtain rfl : none = o := ho1
          go_wp2_with fail
          refine bodyPost_ret (v := .tuple #[msV ⟨4, y0, y1, y2, y3, y4, lt, [], [], []⟩ A2 n2 c2 none 0 0 none 0 0 none 0 0, .bool false]) ?hres rfl ⟨_, _, _, _, _, _, _, _, _, _, _, _, _, rfl, (fun x hx => by cases hx), ?hxx⟩
          case hres => simp [results, Try.results68, go_sem, k0, k1, k2, k3, k4, k5, k6, k7, k8, k9, z0, z1, z2, z3, z4, z5, z6, z7, z8, z9]
          case hxx => (repeat (first | (with_reducible exact Ext.refl _) | (with_reducible assumption) | (with_reducible refine Ext.draws ?_) | (with_reducible refine Ext.allocs ?_ _) | (with_reducible refine Ext.sets ?_ ?_ _) | (with_reducible exact Nat.le_refl _) | (exact (by simp)) | (exact (by simp; omega))))
        | some pm =>
          rw [Option.map_some, Option.map_some] at ho1
          obtain rfl := ho1
          simp only [Option.map_some, Option.getD_some] at HE3
          go_wp2_with fail
          refine bodyPost_ret (v := .tuple #[msV ⟨4, y0, y1, y2, y3, y4, lt, [], pm.1, []⟩ A2 n2 c2 none 0 0 A3 n3 c3 none 0 0, .bool true]) ?hres rfl ⟨_, _, _, _, _, _, _, _, _, _, _, _, _, rfl, ?hm, ?hxx⟩
          case hres => simp [results, Try.results68, go_sem, k0, k1, k2, k3, k4, k5, k6, k7, k8, k9, z0, z1, z2, z3, z4, z5, z6, z7, z8, z9]
          case hxx => (repeat (first | (with_reducible exact Ext.refl _) | (with_reducible assumption) | (with_reducible refine Ext.draws ?_) | (with_reducible refine Ext.allocs ?_ _) | (with_reducible refine Ext.sets ?_ ?_ _) | (with_reducible exact Nat.le_refl _) | (exact (by simp)) | (exact (by simp; omega))))
          case hm =>
            first | (refine ⟨rfl, ?_⟩) | (intro x hx; cases hx; refine ⟨rfl, ?_⟩)
            have HALL : Hz (w.heap.size + 2) (fun u => MsR u ⟨4, y0, y1, y2, y3, y4, lt, [], pm.1, []⟩ A2 n2 c2 none 0 0 A3 n3 c3 none 0 0) w3 := (HC3.out.and HE3.out).mono (fun u hu => ⟨hu.1, Lst.nil u, hu.2, Sl.nil u⟩)
            refine Hz.low (B := w.heap.size + 2) ?_ (by omega)
            (repeat (first | (with_reducible exact HALL) | (with_reducible refine Hz.setBox1 ?_ _) | (with_reducible refine Hz.setBox0 ?_ _)))
end Go.Proofs.Ytoeknbogaclfdaa

namespace Go.Proofs.Ytoeknbogaclfdaa
open Go.RowKit
set_option linter.unusedVariables false
set_option linter.unusedSimpArgs false
set_option linter.unnecessarySimpa false
set_option maxRecDepth 100000
set_option maxHeartbeats 8000000 in
theorem ref_rest6 {A : Option Addr} {n c : Nat} {b : List UInt8} {a y0 y1 y2 y3 y4 : Int} {w : World} (hb : Sl w A n c b) (hn6 : n ≤ 1000000) (ha : 0 ≤ a ∧ a ≤ (n : Int)) {o : Option Ms} (ho : Hid (restM 6 y0 y1 y2 y3 y4 b a = o)) :
    Calls Try.prog 68 #[msV ⟨6, y0, y1, y2, y3, y4, [], [], [], []⟩ none 0 0 none 0 0 none 0 0 none 0 0, .slice A n c, .int .i64 a] w fun e w' => ∃ m B1 Bn1 Bc1 B2 Bn2 Bc2 B3 Bn3 Bc3 B4 Bn4 Bc4, e = .returned (.tuple #[msV m B1 Bn1 Bc1 B2 Bn2 Bc2 B3 Bn3 Bc3 B4 Bn4 Bc4, .bool o.isSome]) ∧ (∀ x, o = some x → m = x ∧ Hz w.heap.size (fun u => MsR u m B1 Bn1 Bc1 B2 Bn2 Bc2 B3 Bn3 Bc3 B4 Bn4 Bc4) w') ∧ Ext w w' := by
  have h63 := hb.n63
  have HLEN := Lib.hid hb.len
  obtain ⟨i0, hi0, hz0, hz1, hz2⟩ := info_parts info_en
  obtain ⟨iu, hiu, hu0, hu1, hu2⟩ := info_parts info_u8
  have ho1 := ho.out
  unfold restM at ho1
  clear ho
  obtain ⟨w1, hw1⟩ : ∃ q, q = (w.alloc (.cells #[.int .i64 6, .int .i64 y0, .int .i64 y1, .int .i64 y2, .int .i64 y3, .int .i64 y4, .slice none 0 0, .slice none 0 0, .slice none 0 0, .slice none 0 0] TMs)).alloc (.cells #[.int .i64 0, .int .i64 0, .int .i64 0, .int .i64 0, .int .i64 0, .int .i64 0, .slice none 0 0, .slice none 0 0, .slice none 0 0, .slice none 0 0] TMs) := ⟨_, rfl⟩
  have gx1 : Ext w w1 := by rw [hw1]; exact (Ext.alloc _ _).allocs _
  have hsz1 : w1.heap.size = w.heap.size + 2 := by rw [hw1]; simp
  have B1 : w1.heap[w.heap.size]? = some (.cells (nilC 6 y0 y1 y2 y3 y4) TMs (0, 0)) := by rw [hw1]; exact blk_ext (heap_alloc_new w _) (Ext.alloc _ _)
  have Z1 : w1.heap[w.heap.size + 1]? = some (.cells zeroM TMs (0, 0)) := by
    rw [hw1]
    have := heap_alloc_new (w.alloc (.cells (nilC 6 y0 y1 y2 y3 y4) TMs)) (.cells zeroM TMs)
    simpa using this
  have HS1 : Hid (w1.heap.size = w.heap.size + 2) := hsz1
  have hsg1 : w.heap.size + 2 ≤ w1.heap.size := by omega
  clear hsz1
  unfold chainO at ho1
  rw [if_neg (by decide), Option.bind_some] at ho1
  simp only at ho1
  unfold restO at ho1
  rw [if_neg (by decide), if_neg (by decide), if_pos rfl, Option.map_some] at ho1
  obtain ⟨t, rfl⟩ := Int.eq_ofNat_of_zero_le ha.1
  have htn : t ≤ n := by omega
  obtain ⟨B, hB⟩ : ∃ B, (if c = t then A else A.map (·.add (t * 1))) = B := ⟨_, rfl⟩
  have hcut := hb.cut (lo := t) (hi := n) htn (Nat.le_refl _)
  rw [hB] at hcut
  have hcap := hb.cap
  have hsl : ∀ w : World, (Instr.slice 23 (.slice A n c) (some (.int .i64 (t : Int))) none none).run Try.prog w = .ok (.slice B (n - t) (c - t)) w := by
    intro w
    rw [← hB]
    exact run_fromU w _ n c t htn hcap
  have hdt : (b.drop t).take (n - t) = b.drop t := by
    rw [List.take_of_length_le]
    rw [List.length_drop, HLEN.out]
    exact Nat.le_refl _
  rw [hdt] at hcut
  rw [Int.toNat_natCast] at ho1
  obtain ⟨D, hD⟩ : ∃ D, b.drop t = D := ⟨_, rfl⟩
  rw [hD] at hcut ho1
  obtain rfl := ho1
  clear hB hdt hD ha hcap
  go_enter Try.func68, Try.ntmps68
  go_upto_region 1 with fail
  rw [← hw1]
  clear hw1
  have k0 := blk_cell B1 0
  have l0 := blk_frozen B1 0
  have z0 := blk_cell Z1 0
  have f0 := blk_frozen Z1 0
  have k1 := blk_cell B1 1
  have l1 := blk_frozen B1 1
  have z1 := blk_cell Z1 1
  have f1 := blk_frozen Z1 1
  have k2 := blk_cell B1 2
  have l2 := blk_frozen B1 2
  have z2 := blk_cell Z1 2
  have f2 := blk_frozen Z1 2
  have k3 := blk_cell B1 3
  have l3 := blk_frozen B1 3
  have z3 := blk_cell Z1 3
  have f3 := blk_frozen Z1 3
  have k4 := blk_cell B1 4
  have l4 := blk_frozen B1 4
  have z4 := blk_cell Z1 4
  have f4 := blk_frozen Z1 4
  have k5 := blk_cell B1 5
  have l5 := blk_frozen B1 5
  have z5 := blk_cell Z1 5
  have f5 := blk_frozen Z1 5
  have k6 := blk_cell B1 6
  have l6 := blk_frozen B1 6
  have z6 := blk_cell Z1 6
  have f6 := blk_frozen Z1 6
  have k7 := blk_cell B1 7
  have l7 := blk_frozen B1 7
  have z7 := blk_cell Z1 7
  have f7 := blk_frozen Z1 7
  have k8 := blk_cell B1 8
  have l8 := blk_frozen B1 8
  have z8 := blk_cell Z1 8
  have f8 := blk_frozen Z1 8
  have k9 := blk_cell B1 9
  have l9 := blk_frozen B1 9
  have z9 := blk_cell Z1 9
  have f9 := blk_frozen Z1 9
  have hl := hcut.len
  go_wp2_with (
    at_builtin
    refine wpList_append_mine (o := ⟨some 118, _, _, _, _, _⟩) _ rfl _ _ _ _ rfl w1.heap.size U8 iu _ 1 1 under_bytes hiu hu0 hu1 hu2 rfl _ 0 0 _ rfl (Own.nil _ _ _ _ _) _ rfl (n - t) (D.map bv) ((hcut.ext (gx1.trans (Ext.alloc _ _))).src under_bytes) (by simp only [maxLen]; omega) (by omega) (by simp) ?_
    intro A5 c5 w5 hown hg _
    simp only [Nat.zero_add, List.nil_append] at hown
    have hx5 : Ext w1 w5 := (Ext.alloc w1 _).trans (grown_nil hg)
    have hby : Byt U8 w5 w1.heap.size A5 (n - t) c5 D := ⟨hl, hown⟩
    have B5 := blk_ext B1 hx5
    have Z5 := blk_ext Z1 hx5
    have gx5 := gx1.trans hx5
    have HY5 := Lib.hid (hby.hz.low hsg1)
    clear hg hown hx5 hby
    clear k0 k1 k2 k3 k4 k5 k6 k7 k8 k9 l0 l1 l2 l3 l4 l5 l6 l7 l8 l9 z0 z1 z2 z3 z4 z5 z6 z7 z8 z9 f0 f1 f2 f3 f4 f5 f6 f7 f8 f9
    have k0 := blk_cell B5 0
    have l0 := blk_frozen B5 0
    have z0 := blk_cell Z5 0
    have f0 := blk_frozen Z5 0
    have k1 := blk_cell B5 1
    have l1 := blk_frozen B5 1
    have z1 := blk_cell Z5 1
    have f1 := blk_frozen Z5 1
    have k2 := blk_cell B5 2
    have l2 := blk_frozen B5 2
    have z2 := blk_cell Z5 2
    have f2 := blk_frozen Z5 2
    have k3 := blk_cell B5 3
    have l3 := blk_frozen B5 3
    have z3 := blk_cell Z5 3
    have f3 := blk_frozen Z5 3
    have k4 := blk_cell B5 4
    have l4 := blk_frozen B5 4
    have z4 := blk_cell Z5 4
    have f4 := blk_frozen Z5 4
    have k5 := blk_cell B5 5
    have l5 := blk_frozen B5 5
    have z5 := blk_cell Z5 5
    have f5 := blk_frozen Z5 5
    have k6 := blk_cell B5 6
    have l6 := blk_frozen B5 6
    have z6 := blk_cell Z5 6
    have f6 := blk_frozen Z5 6
    have k7 := blk_cell B5 7
    have l7 := blk_frozen B5 7
    have z7 := blk_cell Z5 7
    have f7 := blk_frozen Z5 7
    have k8 := blk_cell B5 8
    have l8 := blk_frozen B5 8
    have z8 := blk_cell Z5 8
    have f8 := blk_frozen Z5 8
    have k9 := blk_cell B5 9
    have l9 := blk_frozen B5 9
    have z9 := blk_cell Z5 9
    have f9 := blk_frozen Z5 9
    )
  go_wp2_with fail
  refine bodyPost_ret (v := .tuple #[msV ⟨6, y0, y1, y2, y3, y4, [], [], [], D⟩ none 0 0 none 0 0 none 0 0 A5 (n - t) c5, .bool true]) ?hres rfl ⟨_, _, _, _, _, _, _, _, _, _, _, _, _, rfl, ?hm, ?hxx⟩
  case hres => simp [results, Try.results68, go_sem, k0, k1, k2, k3, k4, k5, k6, k7, k8, k9, z0, z1, z2, z3, z4, z5, z6, z7, z8, z9]
  case hxx => (repeat (first | (with_reducible exact Ext.refl _) | (with_reducible assumption) | (with_reducible refine Ext.draws ?_) | (with_reducible refine Ext.allocs ?_ _) | (with_reducible refine Ext.sets ?_ ?_ _) | (with_reducible exact Nat.le_refl _) | (exact (by simp)) | (exact (by simp; omega))))
  case hm =>
    first | (refine ⟨rfl, ?_⟩) | (intro x hx; cases hx; refine ⟨rfl, ?_⟩)
    have HALL : Hz (w.heap.size + 2) (fun u => MsR u ⟨6, y0, y1, y2, y3, y4, [], [], [], D⟩ none 0 0 none 0 0 none 0 0 A5 (n - t) c5) w5 := HY5.out.mono (fun u hu => ⟨Lst.nil u, Lst.nil u, Lst.nil u, hu⟩)
    refine Hz.low (B := w.heap.size + 2) ?_ (by omega)
    (repeat (first | (with_reducible exact HALL) | (with_reducible refine Hz.setBox1 ?_ _) | (with_reducible refine Hz.setBox0 ?_ _)))
set_option maxHeartbeats 8000000 in
theorem ref_restO {A : Option Addr} {n c : Nat} {b : List UInt8} {a K y0 y1 y2 y3 y4 : Int} {w : World} (hb : Sl w A n c b) (hn6 : n ≤ 1000000) (ha : 0 ≤ a ∧ a ≤ (n : Int)) (hk4 : ¬ (K = 2 ∨ K = 4 ∨ K = 6)) {o : Option Ms} (ho : Hid (restM K y0 y1 y2 y3 y4 b a = o)) :
    Calls Try.prog 68 #[msV ⟨K, y0, y1, y2, y3, y4, [], [], [], []⟩ none 0 0 none 0 0 none 0 0 none 0 0, .slice A n c, .int .i64 a] w fun e w' => ∃ m B1 Bn1 Bc1 B2 Bn2 Bc2 B3 Bn3 Bc3 B4 Bn4 Bc4, e = .returned (.tuple #[msV m B1 Bn1 Bc1 B2 Bn2 Bc2 B3 Bn3 Bc3 B4 Bn4 Bc4, .bool o.isSome]) ∧ (∀ x, o = some x → m = x ∧ Hz w.heap.size (fun u => MsR u m B1 Bn1 Bc1 B2 Bn2 Bc2 B3 Bn3 Bc3 B4 Bn4 Bc4) w') ∧ Ext w w' := by
  have h63 := hb.n63
  have HLEN := Lib.hid hb.len
  obtain ⟨i0, hi0, hz0, hz1, hz2⟩ := info_parts info_en
  obtain ⟨iu, hiu, hu0, hu1, hu2⟩ := info_parts info_u8
  have ho1 := ho.out
  unfold restM at ho1
  clear ho
  obtain ⟨w1, hw1⟩ : ∃ q, q = (w.alloc (.cells #[.int .i64 K, .int .i64 y0, .int .i64 y1, .int .i64 y2, .int .i64 y3, .int .i64 y4, .slice none 0 0, .slice none 0 0, .slice none 0 0, .slice none 0 0] TMs)).alloc (.cells #[.int .i64 0, .int .i64 0, .int .i64 0, .int .i64 0, .int .i64 0, .int .i64 0, .slice none 0 0, .slice none 0 0, .slice none 0 0, .slice none 0 0] TMs) := ⟨_, rfl⟩
  have gx1 : Ext w w1 := by rw [hw1]; exact (Ext.alloc _ _).allocs _
  have hsz1 : w1.heap.size = w.heap.size + 2 := by rw [hw1]; simp
  have B1 : w1.heap[w.heap.size]? = some (.cells (nilC K y0 y1 y2 y3 y4) TMs (0, 0)) := by rw [hw1]; exact blk_ext (heap_alloc_new w _) (Ext.alloc _ _)
  have Z1 : w1.heap[w.heap.size + 1]? = some (.cells zeroM TMs (0, 0)) := by
    rw [hw1]
    have := heap_alloc_new (w.alloc (.cells (nilC K y0 y1 y2 y3 y4) TMs)) (.cells zeroM TMs)
    simpa using this
  have HS1 : Hid (w1.heap.size = w.heap.size + 2) := hsz1
  have hsg1 : w.heap.size + 2 ≤ w1.heap.size := by omega
  clear hsz1
  have g2 : (K == 2) = false := by simp; omega
  have g4 : (K == 4) = false := by simp; omega
  have g6 : (K == 6) = false := by simp; omega
  unfold chainO restO at ho1
  rw [if_neg (by omega), Option.bind_some] at ho1
  simp only at ho1
  rw [if_neg (by omega), if_neg (by omega), if_neg (by omega), Option.map_some] at ho1
  obtain rfl := ho1
  clear hk4 ha
  have k0 := blk_cell B1 0
  have l0 := blk_frozen B1 0
  have z0 := blk_cell Z1 0
  have f0 := blk_frozen Z1 0
  have k1 := blk_cell B1 1
  have l1 := blk_frozen B1 1
  have z1 := blk_cell Z1 1
  have f1 := blk_frozen Z1 1
  have k2 := blk_cell B1 2
  have l2 := blk_frozen B1 2
  have z2 := blk_cell Z1 2
  have f2 := blk_frozen Z1 2
  have k3 := blk_cell B1 3
  have l3 := blk_frozen B1 3
  have z3 := blk_cell Z1 3
  have f3 := blk_frozen Z1 3
  have k4 := blk_cell B1 4
  have l4 := blk_frozen B1 4
  have z4 := blk_cell Z1 4
  have f4 := blk_frozen Z1 4
  have k5 := blk_cell B1 5
  have l5 := blk_frozen B1 5
  have z5 := blk_cell Z1 5
  have f5 := blk_frozen Z1 5
  have k6 := blk_cell B1 6
  have l6 := blk_frozen B1 6
  have z6 := blk_cell Z1 6
  have f6 := blk_frozen Z1 6
  have k7 := blk_cell B1 7
  have l7 := blk_frozen B1 7
  have z7 := blk_cell Z1 7
  have f7 := blk_frozen Z1 7
  have k8 := blk_cell B1 8
  have l8 := blk_frozen B1 8
  have z8 := blk_cell Z1 8
  have f8 := blk_frozen Z1 8
  have k9 := blk_cell B1 9
  have l9 := blk_frozen B1 9
  have z9 := blk_cell Z1 9
  have f9 := blk_frozen Z1 9
  go_enter Try.func68, Try.ntmps68
  go_upto_region 1 with fail
  rw [← hw1]
  clear hw1
  go_wp2_with fail
  refine bodyPost_ret (v := .tuple #[msV ⟨K, y0, y1, y2, y3, y4, [], [], [], []⟩ none 0 0 none 0 0 none 0 0 none 0 0, .bool true]) ?hres rfl ⟨_, _, _, _, _, _, _, _, _, _, _, _, _, rfl, ?hm, ?hxx⟩
  case hres => simp [results, Try.results68, go_sem, k0, k1, k2, k3, k4, k5, k6, k7, k8, k9, z0, z1, z2, z3, z4, z5, z6, z7, z8, z9]
  case hxx => (repeat (first | (with_reducible exact Ext.refl _) | (with_reducible assumption) | (with_reducible refine Ext.draws ?_) | (with_reducible refine Ext.allocs ?_ _) | (with_reducible refine Ext.sets ?_ ?_ _) | (with_reducible exact Nat.le_refl _) | (exact (by simp)) | (exact (by simp; omega))))
  case hm =>
    first | (refine ⟨rfl, ?_⟩) | (intro x hx; cases hx; refine ⟨rfl, ?_⟩)
    have HALL : Hz (w.heap.size + 2) (fun u => MsR u ⟨K, y0, y1, y2, y3, y4, [], [], [], []⟩ none 0 0 none 0 0 none 0 0 none 0 0) w1 := Hz.all (fun u => MsR.nil u _ _ _ _ _ _)
    refine Hz.low (B := w.heap.size + 2) ?_ (by omega)
    (repeat (first | (with_reducible exact HALL) | (with_reducible refine Hz.setBox1 ?_ _) | (with_reducible refine Hz.setBox0 ?_ _)))
theorem ref_rest {A : Option Addr} {n c : Nat} {b : List UInt8} {a K y0 y1 y2 y3 y4 : Int} {w : World} (hb : Sl w A n c b) (hn6 : n ≤ 1000000) (ha : 0 ≤ a ∧ a ≤ (n : Int)) {o : Option Ms} (ho : Hid (restM K y0 y1 y2 y3 y4 b a = o)) :
    Calls Try.prog 68 #[msV ⟨K, y0, y1, y2, y3, y4, [], [], [], []⟩ none 0 0 none 0 0 none 0 0 none 0 0, .slice A n c, .int .i64 a] w fun e w' => ∃ m B1 Bn1 Bc1 B2 Bn2 Bc2 B3 Bn3 Bc3 B4 Bn4 Bc4, e = .returned (.tuple #[msV m B1 Bn1 Bc1 B2 Bn2 Bc2 B3 Bn3 Bc3 B4 Bn4 Bc4, .bool o.isSome]) ∧ (∀ x, o = some x → m = x ∧ Hz w.heap.size (fun u => MsR u m B1 Bn1 Bc1 B2 Bn2 Bc2 B3 Bn3 Bc3 B4 Bn4 Bc4) w') ∧ Ext w w' := by
  have hk4 : K = 2 ∨ K = 4 ∨ K = 6 ∨ ¬ (K = 2 ∨ K = 4 ∨ K = 6) := by omega
  rcases hk4 with rfl | rfl | rfl | hk4
  · exact ref_rest2 hb hn6 ha ho
  · exact ref_rest4 hb hn6 ha ho
  · exact ref_rest6 hb hn6 ha ho
  · exact ref_restO hb hn6 ha hk4 ho
end Go.Proofs.Ytoeknbogaclfdaa
