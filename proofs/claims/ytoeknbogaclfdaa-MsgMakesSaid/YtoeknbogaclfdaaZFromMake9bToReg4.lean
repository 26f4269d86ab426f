/-
  Chapter 9: the statements' own Make of messages with marks.
-/
/-
  A fourth law for a region that draws its order: its last operations come behind all the others (an append onto a row that another append grew): the others by types (XReg2), then these, one by one.
-/
import Derived.Test.YtoeknbogaclfdaaZMake9
import Derived.Test.YtoeknbogaclfdaaZCore
namespace Go.Proofs.Ytoeknbogaclfdaa
open Go.RowKit
set_option linter.unusedVariables false
set_option linter.unusedSimpArgs false
set_option linter.unnecessarySimpa false
set_option maxRecDepth 100000
theorem mk_lit2 (w : World) (x y : Mk) : OwnL TMk 4 mkR (w.alloc (.cells #[.int .i64 x.id, .string x.nm, .int .i64 x.sz, .bool x.gone, .int .i64 y.id, .string y.nm, .int .i64 y.sz, .bool y.gone] TMk)) w.heap.size (some ⟨w.heap.size, 0, none⟩) 2 2 [x, y] :=
  ⟨rfl, [[.int .i64 x.id, .string x.nm, .int .i64 x.sz, .bool x.gone], [.int .i64 y.id, .string y.nm, .int .i64 y.sz, .bool y.gone]], .cons rfl (.cons rfl .nil), Own.made w w.heap.size TMk 4 #[.int .i64 x.id, .string x.nm, .int .i64 x.sz, .bool x.gone, .int .i64 y.id, .string y.nm, .int .i64 y.sz, .bool y.gone] 2 2 (Nat.le_refl _) (Nat.le_refl _) (by simp [maxLen]) rfl, fun cs hcs k hk => by
    simp at hcs
    rcases hcs with rfl | rfl
    · exact absurd hk (mk_nop (x := x) (w := w) rfl k)
    · exact absurd hk (mk_nop (x := y) (w := w) rfl k)⟩
theorem MsR.two4 {B : Nat} {w : World} {k n p e s q : Int} {ch : List Tg} {mk : List Mk} {A1 : Option Addr} {n1 c1 : Nat} {A3 : Option Addr} {n3 c3 : Nat} (h : Hi B (fun u => Lst 4 tgR u A1 n1 c1 ch ∧ Lst 4 mkR u A3 n3 c3 mk) w) : MsR w ⟨k, n, p, e, s, q, ch, [], mk, []⟩ A1 n1 c1 none 0 0 A3 n3 c3 none 0 0 := ⟨h.out.1, Lst.nil _, h.out.2, Sl.nil _⟩
theorem Hi.allocs {B : Nat} {P : World → Prop} {w : World} (h : Hi B P w) (o : Obj) : Hi B P (w.alloc o) := h.ext (Ext.alloc _ _)
set_option maxHeartbeats 8000000 in
theorem law9_Make_4 {kind : Int} {A : Option Addr} {n c : Nat} {l : List Int} {A' : Option Addr} {n' c' : Nat} {p : List UInt8} {w : World} (hl : Lst 1 intR w A n c l) (hn : n ≤ 1000) (hp : Sl w A' n' c' p) {s0 s1 s2 s3 s4 : Int} (HS : Hid (svI l 0 = s0 ∧ svI l 1 = s1 ∧ svI l 2 = s2 ∧ svI l 3 = s3 ∧ svI l 4 = s4)) {n0 : Nat} (hn0 : bits BinOp.and IntKind.i64 s0 1048575 = (n0 : Int)) (hn0b : n0 ≤ 1048575) {u0 : Nat} (hu0 : bits BinOp.and IntKind.i64 kind 255 = (u0 : Int)) (hub : u0 ≤ 255) (hK : (u0 : Int) % 9 = 3) {lt : List Tg} {E : Int} (HG : Hid (growL l = (lt, E))) {p1 : Nat} (hp1 : bits BinOp.and IntKind.i64 s1 65535 = (p1 : Int)) (hp1b : p1 ≤ 65535) {p2 : Nat} (hp2 : bits BinOp.and IntKind.i64 s2 7 = (p2 : Int)) (hp2b : p2 ≤ 7) {p3 : Nat} (hp3 : bits BinOp.and IntKind.i64 s3 511 = (p3 : Int)) (hp3b : p3 ≤ 511) :
    Calls Try.prog 12 #[.int .i64 kind, .slice A n c, .slice A' n' c'] w fun e w' => ∃ B1 Bn1 Bc1 B2 Bn2 Bc2 B3 Bn3 Bc3 B4 Bn4 Bc4, e = .returned (msV ⟨4, 1 + (n0 : Int), (p1 : Int), 0, 0, 0, lt, [], [⟨1 + (p2 : Int), nmA, (p3 : Int), false⟩, ⟨9, nmT, 0, false⟩], []⟩ B1 Bn1 Bc1 B2 Bn2 Bc2 B3 Bn3 Bc3 B4 Bn4 Bc4) ∧ MsR w' ⟨4, 1 + (n0 : Int), (p1 : Int), 0, 0, 0, lt, [], [⟨1 + (p2 : Int), nmA, (p3 : Int), false⟩, ⟨9, nmT, 0, false⟩], []⟩ B1 Bn1 Bc1 B2 Bn2 Bc2 B3 Bn3 Bc3 B4 Bn4 Bc4 ∧ Ext w w' := by
  go_enter Try.func12, Try.ntmps12
  go_wp2_with fail
  refine (law9_seven (hl.ext int_rep (Ext.alloc _ _))).mono ?_
  rintro e w2 ⟨rfl, hx2⟩
  rw [HS.out.1, HS.out.2.1, HS.out.2.2.1, HS.out.2.2.2.1, HS.out.2.2.2.2]
  obtain ⟨s5, hs5⟩ : ∃ z, svI l 5 = z := ⟨_, rfl⟩
  obtain ⟨s6, hs6⟩ : ∃ z, svI l 6 = z := ⟨_, rfl⟩
  rw [hs5, hs6]
  clear hs5 hs6
  have gx2 : Ext w w2 := (Ext.alloc _ _).trans hx2
  have hlt2 : w.heap.size < w2.heap.size := World.block_lt_of_cell? _ _ (hx2.cell (cell_new w zeroM' TMs 0))
  obtain ⟨W, hW⟩ : ∃ W, W = (w2.alloc (.cells #[.int .i64 s0, .int .i64 s1, .int .i64 s2, .int .i64 s3, .int .i64 s4, .int .i64 s5, .int .i64 s6] T7)).alloc (.cells (nilC 4 (1 + (n0 : Int)) 0 0 0 0) TMs) := ⟨_, rfl⟩
  have bk6 : W.heap[w.heap.size]? = some (.cells zeroM' TMs (0, 0)) := by
    rw [hW]
    exact blk_ext (blk_ext (blk_ext (heap_alloc_new w _) hx2) (Ext.alloc _ _)) (Ext.alloc _ _)
  have bk7 : W.heap[w2.heap.size]? = some (.cells #[.int .i64 s0, .int .i64 s1, .int .i64 s2, .int .i64 s3, .int .i64 s4, .int .i64 s5, .int .i64 s6] T7 (0, 0)) := by
    rw [hW]
    exact blk_ext (heap_alloc_new w2 _) (Ext.alloc _ _)
  have bk8 : W.heap[w2.heap.size + 1]? = some (.cells (nilC 4 (1 + (n0 : Int)) 0 0 0 0) TMs (0, 0)) := by
    rw [hW]
    have e : (w2.alloc (.cells #[.int .i64 s0, .int .i64 s1, .int .i64 s2, .int .i64 s3, .int .i64 s4, .int .i64 s5, .int .i64 s6] T7)).heap.size = w2.heap.size + 1 := by simp
    have := heap_alloc_new (w2.alloc (.cells #[.int .i64 s0, .int .i64 s1, .int .i64 s2, .int .i64 s3, .int .i64 s4, .int .i64 s5, .int .i64 s6] T7)) (.cells (nilC 4 (1 + (n0 : Int)) 0 0 0 0) TMs)
    rw [e] at this
    exact this
  have gxW : Ext w W := by rw [hW]; exact (gx2.allocs _).allocs _
  have hszW : W.heap.size = w2.heap.size + 2 := by rw [hW]; simp
  have HSZ := Lib.hid hszW
  have hq8 : w.heap.size ≤ w2.heap.size + 1 := by omega
  clear hszW hx2
  have x0 := blk_cell bk7 0
  have x1 := blk_cell bk7 1
  have x2 := blk_cell bk7 2
  have x3 := blk_cell bk7 3
  have x4 := blk_cell bk7 4
  have x5 := blk_cell bk7 5
  have x6 := blk_cell bk7 6
  have y0 := blk_cell bk8 0
  have z0 := blk_frozen bk8 0
  have k0 := blk_cell bk6 0
  have l0 := blk_frozen bk6 0
  have y1 := blk_cell bk8 1
  have z1 := blk_frozen bk8 1
  have k1 := blk_cell bk6 1
  have l1 := blk_frozen bk6 1
  have y2 := blk_cell bk8 2
  have z2 := blk_frozen bk8 2
  have k2 := blk_cell bk6 2
  have l2 := blk_frozen bk6 2
  have y3 := blk_cell bk8 3
  have z3 := blk_frozen bk8 3
  have k3 := blk_cell bk6 3
  have l3 := blk_frozen bk6 3
  have y4 := blk_cell bk8 4
  have z4 := blk_frozen bk8 4
  have k4 := blk_cell bk6 4
  have l4 := blk_frozen bk6 4
  have y5 := blk_cell bk8 5
  have z5 := blk_frozen bk8 5
  have k5 := blk_cell bk6 5
  have l5 := blk_frozen bk6 5
  have y6 := blk_cell bk8 6
  have z6 := blk_frozen bk8 6
  have k6 := blk_cell bk6 6
  have l6 := blk_frozen bk6 6
  have y7 := blk_cell bk8 7
  have z7 := blk_frozen bk8 7
  have k7 := blk_cell bk6 7
  have l7 := blk_frozen bk6 7
  have y8 := blk_cell bk8 8
  have z8 := blk_frozen bk8 8
  have k8 := blk_cell bk6 8
  have l8 := blk_frozen bk6 8
  have y9 := blk_cell bk8 9
  have z9 := blk_frozen bk8 9
  have k9 := blk_cell bk6 9
  have l9 := blk_frozen bk6 9
  go_upto_region 3 with fail
  rw [← hW]
  clear hW
  obtain ⟨W1, hW1⟩ : ∃ W1, W1 = W.setCell ⟨w2.heap.size + 1, 2, none⟩ (.int .i64 (p1 : Int)) := ⟨_, rfl⟩
  have ba8 : W1.heap[w2.heap.size + 1]? = some (.cells #[.int .i64 4, .int .i64 (1 + (n0 : Int)), .int .i64 (p1 : Int), .int .i64 0, .int .i64 0, .int .i64 0, .slice none 0 0, .slice none 0 0, .slice none 0 0, .slice none 0 0] TMs (0, 0)) := by
    rw [hW1]
    have := blk_set bk8 2 (.int .i64 (p1 : Int))
    simpa using this
  have ba7 := blk_far bk7 (p := ⟨w2.heap.size + 1, 2, none⟩) (by simp) (.int .i64 (p1 : Int))
  have ba6 := blk_far bk6 (p := ⟨w2.heap.size + 1, 2, none⟩) (by simp; omega) (.int .i64 (p1 : Int))
  rw [← hW1] at ba7 ba6
  have gx1 : Ext w W1 := by rw [hW1]; exact gxW.sets hq8 _
  have hsz1 : W1.heap.size = w2.heap.size + 2 := by rw [hW1]; simp; exact HSZ.out
  have HSZ1 := Lib.hid hsz1
  clear bk6 bk7 bk8 hsz1
  go_wp2_with fail
  rw [← hW1]
  clear hW1 gxW k0 k1 k2 k3 k4 k5 k6 k7 k8 k9 l0 l1 l2 l3 l4 l5 l6 l7 l8 l9 x0 x1 x2 x3 x4 x5 x6 y0 y1 y2 y3 y4 y5 y6 y7 y8 y9 z0 z1 z2 z3 z4 z5 z6 z7 z8 z9
  refine (law6_Grow (hl.ext int_rep gx1) hn HG).mono ?_
  rintro e w3 ⟨A1, n1, c1, rfl, h3, hx3⟩
  have bb8 := blk_ext ba8 hx3
  have bb7 := blk_ext ba7 hx3
  have bb6 := blk_ext ba6 hx3
  have gx3 := gx1.trans hx3
  have HC : Hid (Hi (w2.heap.size + 2) (fun u => Lst 4 tgR u A1 n1 c1 lt) w3) := (h3.hiFlat tg_rep (fun x cs w h => tg_nopM h)).low (by rw [HSZ1.out]; exact Nat.le_refl _)
  have q8 : w2.heap.size + 1 < w2.heap.size + 2 := by omega
  have q6 : w.heap.size < w2.heap.size + 2 := by omega
  have hsz3 : w2.heap.size + 2 ≤ w3.heap.size := by rw [← HSZ1.out]; exact hx3.size
  have HM : Hid (Hi (w2.heap.size + 2) (fun u => Lst 4 tgR u A1 n1 c1 lt ∧ Lst 4 mkR u (some ⟨w3.heap.size, 0, none⟩) 2 2 [⟨1 + (p2 : Int), nmA, (p3 : Int), false⟩, ⟨9, nmT, 0, false⟩]) ((w3.setCell ⟨w2.heap.size + 1, 6, none⟩ (.slice A1 n1 c1)).alloc (.cells #[.int .i64 (1 + (p2 : Int)), .string ⟨#[97]⟩, .int .i64 (p3 : Int), .bool false, .int .i64 9, .string ⟨#[126, 110]⟩, .int .i64 0, .bool false] TMk))) := by
    have h1 := ((HC.out.set (p := ⟨w2.heap.size + 1, 6, none⟩) q8 (.slice A1 n1 c1))).allocs (.cells #[.int .i64 (1 + (p2 : Int)), .string ⟨#[97]⟩, .int .i64 (p3 : Int), .bool false, .int .i64 9, .string ⟨#[126, 110]⟩, .int .i64 0, .bool false] TMk)
    have h2 := mk_lit2 (w3.setCell ⟨w2.heap.size + 1, 6, none⟩ (.slice A1 n1 c1)) ⟨1 + (p2 : Int), nmA, (p3 : Int), false⟩ ⟨9, nmT, 0, false⟩
    have e : (w3.setCell ⟨w2.heap.size + 1, 6, none⟩ (.slice A1 n1 c1)).heap.size = w3.heap.size := by simp
    rw [e] at h2
    exact h1.and ((h2.hiFlat mk_rep (fun x cs w h => mk_nop h)).low hsz3)
  clear h3 hx3 gx1 ba8 ba7 ba6
  have x0 := blk_cell bb7 0
  have x1 := blk_cell bb7 1
  have x2 := blk_cell bb7 2
  have x3 := blk_cell bb7 3
  have x4 := blk_cell bb7 4
  have x5 := blk_cell bb7 5
  have x6 := blk_cell bb7 6
  have y0 := blk_cell bb8 0
  have z0 := blk_frozen bb8 0
  have k0 := blk_cell bb6 0
  have l0 := blk_frozen bb6 0
  have y1 := blk_cell bb8 1
  have z1 := blk_frozen bb8 1
  have k1 := blk_cell bb6 1
  have l1 := blk_frozen bb6 1
  have y2 := blk_cell bb8 2
  have z2 := blk_frozen bb8 2
  have k2 := blk_cell bb6 2
  have l2 := blk_frozen bb6 2
  have y3 := blk_cell bb8 3
  have z3 := blk_frozen bb8 3
  have k3 := blk_cell bb6 3
  have l3 := blk_frozen bb6 3
  have y4 := blk_cell bb8 4
  have z4 := blk_frozen bb8 4
  have k4 := blk_cell bb6 4
  have l4 := blk_frozen bb6 4
  have y5 := blk_cell bb8 5
  have z5 := blk_frozen bb8 5
  have k5 := blk_cell bb6 5
  have l5 := blk_frozen bb6 5
  have y6 := blk_cell bb8 6
  have z6 := blk_frozen bb8 6
  have k6 := blk_cell bb6 6
  have l6 := blk_frozen bb6 6
  have y7 := blk_cell bb8 7
  have z7 := blk_frozen bb8 7
  have k7 := blk_cell bb6 7
  have l7 := blk_frozen bb6 7
  have y8 := blk_cell bb8 8
  have z8 := blk_frozen bb8 8
  have k8 := blk_cell bb6 8
  have l8 := blk_frozen bb6 8
  have y9 := blk_cell bb8 9
  have z9 := blk_frozen bb8 9
  have k9 := blk_cell bb6 9
  have l9 := blk_frozen bb6 9
  have bc8 : ((w3.setCell ⟨w2.heap.size + 1, 6, none⟩ (.slice A1 n1 c1)).alloc (.cells #[.int .i64 (1 + (p2 : Int)), .string ⟨#[97]⟩, .int .i64 (p3 : Int), .bool false, .int .i64 9, .string ⟨#[126, 110]⟩, .int .i64 0, .bool false] TMk)).heap[w2.heap.size + 1]? = some (.cells #[.int .i64 4, .int .i64 (1 + (n0 : Int)), .int .i64 (p1 : Int), .int .i64 0, .int .i64 0, .int .i64 0, .slice A1 n1 c1, .slice none 0 0, .slice none 0 0, .slice none 0 0] TMs (0, 0)) := by
    have := blk_set bb8 6 (.slice A1 n1 c1)
    exact blk_ext (by simpa using this) (Ext.alloc _ _)
  have bc6 : ((w3.setCell ⟨w2.heap.size + 1, 6, none⟩ (.slice A1 n1 c1)).alloc (.cells #[.int .i64 (1 + (p2 : Int)), .string ⟨#[97]⟩, .int .i64 (p3 : Int), .bool false, .int .i64 9, .string ⟨#[126, 110]⟩, .int .i64 0, .bool false] TMk)).heap[w.heap.size]? = some (.cells zeroM' TMs (0, 0)) := blk_ext (blk_far bb6 (p := ⟨w2.heap.size + 1, 6, none⟩) (by simp; omega) (.slice A1 n1 c1)) (Ext.alloc _ _)
  have yc0 := blk_cell bc8 0
  have zc0 := blk_frozen bc8 0
  have kc0 := blk_cell bc6 0
  have lc0 := blk_frozen bc6 0
  have yc1 := blk_cell bc8 1
  have zc1 := blk_frozen bc8 1
  have kc1 := blk_cell bc6 1
  have lc1 := blk_frozen bc6 1
  have yc2 := blk_cell bc8 2
  have zc2 := blk_frozen bc8 2
  have kc2 := blk_cell bc6 2
  have lc2 := blk_frozen bc6 2
  have yc3 := blk_cell bc8 3
  have zc3 := blk_frozen bc8 3
  have kc3 := blk_cell bc6 3
  have lc3 := blk_frozen bc6 3
  have yc4 := blk_cell bc8 4
  have zc4 := blk_frozen bc8 4
  have kc4 := blk_cell bc6 4
  have lc4 := blk_frozen bc6 4
  have yc5 := blk_cell bc8 5
  have zc5 := blk_frozen bc8 5
  have kc5 := blk_cell bc6 5
  have lc5 := blk_frozen bc6 5
  have yc6 := blk_cell bc8 6
  have zc6 := blk_frozen bc8 6
  have kc6 := blk_cell bc6 6
  have lc6 := blk_frozen bc6 6
  have yc7 := blk_cell bc8 7
  have zc7 := blk_frozen bc8 7
  have kc7 := blk_cell bc6 7
  have lc7 := blk_frozen bc6 7
  have yc8 := blk_cell bc8 8
  have zc8 := blk_frozen bc8 8
  have kc8 := blk_cell bc6 8
  have lc8 := blk_frozen bc6 8
  have yc9 := blk_cell bc8 9
  have zc9 := blk_frozen bc8 9
  have kc9 := blk_cell bc6 9
  have lc9 := blk_frozen bc6 9
  clear bb8 bb7 bb6 bc8 bc6
  go_wp2_with fail
  refine bodyPost_ret (v := msV ⟨4, 1 + (n0 : Int), (p1 : Int), 0, 0, 0, lt, [], [⟨1 + (p2 : Int), nmA, (p3 : Int), false⟩, ⟨9, nmT, 0, false⟩], []⟩ A1 n1 c1 none 0 0 (some ⟨w3.heap.size, 0, none⟩) 2 2 none 0 0) ?hres rfl ⟨_, _, _, _, _, _, _, _, _, _, _, _, rfl, ?hm, ?hxx⟩
  case hres => simp [results, Try.results12, go_sem, kc0, kc1, kc2, kc3, kc4, kc5, kc6, kc7, kc8, kc9, yc0, yc1, yc2, yc3, yc4, yc5, yc6, yc7, yc8, yc9, nmA, nmT]
  case hxx => (repeat (first | (with_reducible exact Ext.refl _) | (with_reducible assumption) | (with_reducible refine Ext.draws ?_) | (with_reducible refine Ext.allocs ?_ _) | (with_reducible refine Ext.sets ?_ hq8 _) | (with_reducible refine Ext.sets ?_ (Nat.le_refl _) _)))
  case hm =>
    refine MsR.two4 (B := w2.heap.size + 2) ?_
    have HALL := HM.out
    (repeat (first | (with_reducible exact HALL) | (with_reducible refine Hi.set ?_ q8 _) | (with_reducible refine Hi.set ?_ q6 _)))
end Go.Proofs.Ytoeknbogaclfdaa

namespace Go.Proofs.Ytoeknbogaclfdaa
open Go.RowKit
set_option linter.unusedVariables false
section
variable {P : Program} {N R : World → World → Prop} {Q : Exit → Act → World → Prop}
def chainB (ops : Array Oper) (n : Nat) : Bool := ops.toList.zipIdx.all fun (o, i) => decide (i ≤ n) || o.after.any fun e => Region.binds .any e && (e.on == i - 1)
def backB (ops : Array Oper) : Bool := ops.toList.zipIdx.all fun (o, i) => o.after.all fun e => !Region.binds .any e || decide (e.on < i)
theorem tail_any {ops : Array Oper} {n : Nat} (hch : chainB ops n = true) (hbk : backB ops = true) : ∀ (tl : List Oper) (j : Nat) (listed : Array Bool) (a : Act) (w : World) (fuel : Nat), (∀ i, tl[i]? = ops[j + i]?) → listed.size = ops.size → (∀ k, k < j → listed.getD k false = true) → (∀ k, j ≤ k → listed.getD k false = false) → n ≤ j → ops.size ≤ fuel + j →
    wpList P ops Q tl a w → wpAny P .any ops Q fuel listed a w
  | [], j, listed, a, w, fuel, htl, hls, h1, h2, hn, hf, h => by
    have hj : ops.size ≤ j := by
      have := htl 0
      simp at this
      exact this
    have hr : Region.ready .any ops listed = [] := by
      rw [List.eq_nil_iff_forall_not_mem]
      intro i hi
      obtain ⟨hun, o, ho, _⟩ := mem_ready.1 hi
      have hi2 : i < ops.size := (Array.getElem?_eq_some_iff.1 ho).1
      have := h1 i (by omega)
      rw [getD_of_lt (by omega) false true, hun] at this
      cases this
    cases fuel with
    | zero => exact ⟨hr, h⟩
    | succ f => exact ⟨fun _ => h, fun i hi => by rw [hr] at hi; cases hi⟩
  | o :: tl, j, listed, a, w, fuel, htl, hls, h1, h2, hn, hf, h => by
    have hoj : ops[j]? = some o := by
      have := htl 0
      simpa using this.symm
    have hj : j < ops.size := (Array.getElem?_eq_some_iff.1 hoj).1
    have hop : ∀ (i : Nat) (o' : Oper), ops[i]? = some o' → (o', i) ∈ ops.toList.zipIdx := fun i o' hi => by
      rw [List.mem_zipIdx_iff_getElem?]
      simpa using hi
    cases fuel with
    | zero => omega
    | succ f =>
      have hjr : j ∈ Region.ready .any ops listed := by
        rw [mem_ready]
        refine ⟨by rw [getD_of_lt (by omega) true false]; exact h2 j (Nat.le_refl _), o, hoj, fun e he hb => ?_⟩
        have q := List.all_eq_true.1 hbk _ (hop j o hoj)
        have q2 := Array.all_eq_true_iff_forall_mem.1 q e he
        simp only [hb, Bool.not_true, Bool.false_or, decide_eq_true_eq] at q2
        exact h1 _ q2
      refine ⟨fun h0 => (by rw [h0] at hjr; cases hjr), fun i hi => ?_⟩
      obtain ⟨hun, o', ho, hedges⟩ := mem_ready.1 hi
      have hi2 : i < ops.size := (Array.getElem?_eq_some_iff.1 ho).1
      have hij : j ≤ i := by
        by_cases hlt : i < j
        · have := h1 i hlt
          rw [getD_of_lt (by omega) false true, hun] at this
          cases this
        · omega
      have hie : i = j := by
        by_cases he : i = j
        · exact he
        · exfalso
          have q := List.all_eq_true.1 hch _ (hop i o' ho)
          simp only [Bool.or_eq_true, decide_eq_true_eq] at q
          rcases q with q | q
          · omega
          · obtain ⟨m, hm, q2⟩ := Array.any_eq_true.1 q
            simp only [Bool.and_eq_true, beq_iff_eq] at q2
            have := hedges _ (Array.getElem_mem hm) q2.1
            rw [q2.2, h2 (i - 1) (by omega)] at this
            cases this
      subst hie
      rw [hoj] at ho
      cases ho
      unfold wpOp
      simp only [hoj]
      have hset : ∀ k, (listed.setIfInBounds i true).getD k false = if k = i then true else listed.getD k false := by
        intro k
        by_cases hk : k = i
        · subst hk
          have : k < listed.size := by omega
          simp [Array.getD, this]
        · rw [if_neg hk, getD_set_ne false (Ne.symm hk)]
      have ih : ∀ a' w', wpList P ops Q tl a' w' → wpAny P .any ops Q f (listed.setIfInBounds i true) a' w' := fun a' w' h' =>
        tail_any hch hbk tl (i + 1) _ a' w' f (fun q => by have := htl (q + 1); simpa [Nat.add_assoc, Nat.add_comm 1 q] using this) (by simpa using hls) (fun k hk => by rw [hset]; split; rfl; exact h1 k (by omega)) (fun k hk => by rw [hset, if_neg (by omega)]; exact h2 k (by omega)) (by omega) (by omega) h'
      unfold wpList at h
      split at h
      · rename_i hw
        rw [if_pos hw]
        rcases h with h | h
        · exact .inl (Oper.wp_mono ih h)
        · exact .inr h
      · rename_i hw
        rw [if_neg hw]
        exact ih _ _ h
def ancB (M : List Nat) (n m : Nat) : Bool := (List.range (m - n)).all fun d => (List.range n).all fun k => mbit M (n + d) k
theorem any_typed4 {l tl : List Oper} {rest : List Sp} {M : List Nat} {W : Nat} {a0 : Act} {w0 : World} (hN : Steady N) (hR : Steady R) (hNR : ∀ w w', N w w' → R w w') (hl : rest.map Sp.o = l)
    (hok : regionOk a0.tmps.size (l ++ tl) = true) (hM : maskOk (l ++ tl) M = true) (hW : W < 2 ^ l.length) (hanc : ancB M l.length (l ++ tl).length = true) (hch : chainB (l ++ tl).toArray l.length = true) (hbk : backB (l ++ tl).toArray = true)
    (hkeep : ∀ p ∈ rest, Keeps N p.T ∧ (p.st = true → Keeps R p.T))
    (hobl : ∀ i sp, rest[i]? = some sp → ∃ (fl : List Bool) (pu wr : Bool), (flagsOk2 (l ++ tl).toArray M W ((rest.take i).map Sp.st) i sp.o fl && (W.testBit i == wr) && (!pu || pureOk M W (l ++ tl).toArray.size i)) = true ∧
        ∀ w1, Sel N R pu w0 w1 → Given w1 (fun a => wpList P (l ++ tl).toArray (Post (Sel N R (!wr)) sp.T sp.o a w1) [sp.o] a w1) fl ((rest.take i).map Sp.pr) a0)
    (hfin : ∃ al : List Bool, aliveOk M W (l ++ tl).toArray.size (rest.map Sp.st) al = true ∧ ∀ w', Sel N R (W == 0) w0 w' → Fin2 w' (fun a => wpList P (l ++ tl).toArray Q tl a w') al (rest.map Sp.pr) a0) :
    ∀ (fuel : Nat) (listed : Array Bool) (a : Act) (w : World), Midway2 N R (rest ++ tl.map fun o => ⟨o, fun _ _ => True, true⟩) M W a0 w0 listed a w → (∀ k, l.length ≤ k → listed.getD k false = false) → (l ++ tl).length ≤ fuel + listed.toList.count true → wpAny P .any (l ++ tl).toArray Q fuel listed a w := by
  obtain ⟨full, hfull⟩ : ∃ q, (rest ++ tl.map fun o => (⟨o, fun _ _ => True, true⟩ : Sp)) = q := ⟨_, rfl⟩
  rw [hfull]
  have hlen : l.length = rest.length := by rw [← hl]; simp
  have hfo : full.map Sp.o = l ++ tl := by rw [← hfull, List.map_append, hl, List.map_map]; simp [Function.comp_def]
  have hfl : full.length = (l ++ tl).length := by rw [← hfo]; simp
  have hlow : ∀ (k : Nat) (s : Sp), full[k]? = some s → k < l.length → rest[k]? = some s := by
    intro k s hk hlt
    rw [← hfull, List.getElem?_append_left (by omega)] at hk
    exact hk
  have hlow' : ∀ (k : Nat) (s : Sp), rest[k]? = some s → full[k]? = some s := by
    intro k s hk
    rw [← hfull, List.getElem?_append_left (List.getElem?_eq_some_iff.1 hk).1]
    exact hk
  have htake : ∀ i, i ≤ l.length → full.take i = rest.take i := by
    intro i hi
    rw [← hfull, List.take_append_of_le_length (by omega)]
  have hW2 : W < 2 ^ full.length := Nat.lt_of_lt_of_le hW (Nat.pow_le_pow_right (by omega) (by rw [hfl, List.length_append]; omega))
  have hkeep2 : ∀ p ∈ full, Keeps N p.T ∧ (p.st = true → Keeps R p.T) := by
    intro p hp
    rw [← hfull] at hp
    rcases List.mem_append.1 hp with hp | hp
    · exact hkeep p hp
    · obtain ⟨o, _, rfl⟩ := List.mem_map.1 hp
      exact ⟨fun _ _ _ _ _ => trivial, fun _ _ _ _ _ _ => trivial⟩
  have hback : ∀ (k : Nat) (s : Sp), full[k]? = some s → ∀ e ∈ s.o.after, Region.binds .any e = true → e.on < k := by
    intro k s hk e he hb
    have hok' := hok
    simp only [regionOk, Bool.and_eq_true] at hok'
    have hm : (s.o, k) ∈ (l ++ tl).zipIdx := by
      rw [← hfo, List.mem_zipIdx_iff_getElem?]
      simp [hk]
    have h1 := List.all_eq_true.1 hok'.2 (s.o, k) hm
    have h2 := Array.all_eq_true_iff_forall_mem.1 h1 e he
    simpa [hb] using h2
  have hopsk : ∀ (k : Nat) (s : Sp), full[k]? = some s → (l ++ tl).toArray[k]? = some s.o := by
    intro k s hk
    rw [← hfo]
    simp [hk]
  have hopsk' : ∀ (k : Nat) (o : Oper), (l ++ tl).toArray[k]? = some o → ∃ s, full[k]? = some s ∧ s.o = o := by
    intro k o hk
    rw [← hfo] at hk
    simp only [List.getElem?_toArray, List.getElem?_map, Option.map_eq_some_iff] at hk
    exact hk
  have hgood : ∀ (k : Nat) (s : Sp), full[k]? = some s → ∀ d, s.o.dst = some d → d < a0.tmps.size := by
    intro k s hk d hd
    have hok' := hok
    simp only [regionOk, Bool.and_eq_true] at hok'
    have h1 := List.all_eq_true.1 hok'.1.2 s.o (by rw [← hfo]; exact List.mem_map.2 ⟨s, List.mem_of_getElem? hk, rfl⟩)
    simp only [Bool.and_eq_true] at h1
    have h2 := h1.2
    rw [hd] at h2
    simpa using h2
  have fin : ∀ (listed : Array Bool) (a : Act) (w : World), Midway2 N R full M W a0 w0 listed a w → (∀ k, k < l.length → listed.getD k false = true) → (∀ k, l.length ≤ k → listed.getD k false = false) → wpList P (l ++ tl).toArray Q tl a w := by
    intro listed a w hm hl1 hl2
    obtain ⟨al, hal, hfin⟩ := hfin
    let g : Nat → Value := fun t => a.tmps.getD t undef
    have hrel : Sel N R (W == 0) w0 w := by
      cases h0 : (W == 0) with
      | true =>
        have hz : W = 0 := by simpa using h0
        exact hm.clean fun j hj => by rw [hz] at hj; simp at hj
      | false => exact hm.world
    have hT : ∀ (k : Nat) (p : Oper × Ty), (rest.map Sp.pr)[k]? = some p → al.getD k false = true → p.2 ((p.1.dst.map g).getD undef) w := by
      intro k p hk hf
      rw [List.getElem?_map, Option.map_eq_some_iff] at hk
      obtain ⟨s, hk, rfl⟩ := hk
      have hlt : k < rest.length := (List.getElem?_eq_some_iff.1 hk).1
      have hf' : al[k]? = some true := by
        cases hc : al[k]? with
        | none => simp [List.getD, hc] at hf
        | some b => simp only [List.getD, hc, Option.getD_some] at hf; rw [hf]
      have hmem : (true, k) ∈ al.zipIdx := by rw [List.mem_zipIdx_iff_getElem?]; exact hf'
      have h1 := List.all_eq_true.1 hal (true, k) hmem
      simp only [Bool.not_true, Bool.false_or, Bool.or_eq_true] at h1
      have := hm.done k s (hlow' k s hk) (hl1 k (by omega)) (by
        rcases h1 with h1 | h1
        · left
          simpa [List.getD, hk] using h1
        · right
          intro j hj hw _
          have h2 := List.all_eq_true.1 h1 j (List.mem_range.2 (by simp only [List.size_toArray]; rw [← hfl]; exact hj))
          simp only [hw, Bool.not_true, Bool.false_or, Bool.or_eq_true, beq_iff_eq] at h2
          exact h2)
      unfold dstVal at this
      cases hd : s.o.dst with
      | none => simpa [hd] using this
      | some d => simpa [hd, g] using this
    have h1 := Fin2.at_ g al (rest.map Sp.pr) a0 (hfin w hrel) hT
    have e : canon ((rest.map Sp.pr).map fun _ => true) (rest.map Sp.pr) g a0 = a := by
      have htm : (canon ((rest.map Sp.pr).map fun _ => true) (rest.map Sp.pr) g a0).tmps = a.tmps := by
        refine Array.ext_getElem? fun t => ?_
        by_cases hex : ∃ (k : Nat) (s : Sp), rest[k]? = some s ∧ s.o.dst = some t
        · obtain ⟨k, s, hk, hd⟩ := hex
          have hlt := hgood k s (hlow' k s hk) t hd
          have hkl : k < rest.length := (List.getElem?_eq_some_iff.1 hk).1
          rw [canon_at g t _ (rest.map Sp.pr) a0 k s.o s.T hlt (by simp [hk]) (by simp [hk]) hd]
          have hlt' : t < a.tmps.size := by rw [hm.size]; exact hlt
          simp [g, Array.getD, hlt']
        · rw [canon_other g t _ (rest.map Sp.pr) a0, hm.other t]
          · intro k s hk hd
            by_cases hkl : k < l.length
            · exact absurd ⟨k, s, hlow k s hk hkl, hd⟩ hex
            · exact hl2 k (by omega)
          · intro p hp hd
            obtain ⟨s, hs, rfl⟩ := List.mem_map.1 hp
            obtain ⟨k, hk⟩ := List.mem_iff_getElem?.1 hs
            exact hex ⟨k, s, hk, hd⟩
      have hdf : (canon ((rest.map Sp.pr).map fun _ => true) (rest.map Sp.pr) g a0).defers = a.defers := by rw [canon_defers, hm.defers]
      generalize canon ((rest.map Sp.pr).map fun _ => true) (rest.map Sp.pr) g a0 = c at *
      cases c
      cases a
      simp only at htm hdf
      subst htm
      subst hdf
      rfl
    rw [e] at h1
    exact h1
  have ready_nil : ∀ (listed : Array Bool), listed.size = full.length → Region.ready .any (l ++ tl).toArray listed = [] → ∀ k, k < full.length → listed.getD k false = true := by
    intro listed hls hr k
    induction k using Nat.strongRecOn with
    | _ k ih =>
      intro hk
      cases hc : listed.getD k false with
      | true => rfl
      | false =>
        exfalso
        obtain ⟨s, hp⟩ : ∃ p, full[k]? = some p := ⟨_, List.getElem?_eq_getElem hk⟩
        have : k ∈ Region.ready .any (l ++ tl).toArray listed := by
          rw [mem_ready]
          refine ⟨by rw [getD_of_lt (by omega) true false]; exact hc, s.o, hopsk k s hp, fun e he hb => ?_⟩
          have := hback k s hp e he hb
          exact ih e.on this (by omega)
        rw [hr] at this
        cases this
  have tail : ∀ (fuel : Nat) (listed : Array Bool) (a : Act) (w : World), Midway2 N R full M W a0 w0 listed a w → (∀ k, k < l.length → listed.getD k false = true) → (∀ k, l.length ≤ k → listed.getD k false = false) → (l ++ tl).length ≤ fuel + l.length → wpAny P .any (l ++ tl).toArray Q fuel listed a w := by
    intro fuel listed a w hm hl1 hl2 hf
    refine tail_any (n := l.length) hch hbk tl l.length listed a w fuel (fun i => ?_) (by rw [hm.lsize, hfl]; simp) hl1 hl2 (Nat.le_refl _) (by simpa using hf) (fin listed a w hm hl1 hl2)
    simp [List.getElem?_append_right]
  have cnt : ∀ (listed : Array Bool), listed.size = full.length → (∀ k, l.length ≤ k → listed.getD k false = false) → listed.toList.count true ≤ l.length := by
    intro listed hls hl2
    have e : listed.toList = listed.toList.take l.length ++ listed.toList.drop l.length := (List.take_append_drop _ _).symm
    rw [e, List.count_append]
    have h1 : (listed.toList.take l.length).count true ≤ l.length := Nat.le_trans (List.count_le_length) (by rw [List.length_take]; omega)
    have h2 : (listed.toList.drop l.length).count true = 0 := by
      rw [List.count_eq_zero]
      intro hmem
      obtain ⟨k, hk⟩ := List.mem_iff_getElem?.1 hmem
      rw [List.getElem?_drop] at hk
      have := hl2 (l.length + k) (by omega)
      have hlt : l.length + k < listed.size := by
        have := (List.getElem?_eq_some_iff.1 hk).1
        simpa using this
      simp [Array.getD, hlt] at this
      have hk2 : listed[l.length + k]? = some true := by simpa using hk
      rw [Array.getElem?_eq_getElem hlt, this] at hk2
      cases hk2
    omega
  intro fuel
  induction fuel with
  | zero =>
    intro listed a w hm hl2 hcount
    by_cases hall : ∀ k, k < l.length → listed.getD k false = true
    · refine tail 0 listed a w hm hall hl2 ?_
      have := cnt listed hm.lsize hl2
      omega
    · exfalso
      apply hall
      intro k hk
      have hc := cnt listed hm.lsize hl2
      have hlen0 : (l ++ tl).length = l.length := by rw [List.length_append] at hcount ⊢; omega
      have hlen2 : listed.toList.length = full.length := by simpa using hm.lsize
      have hc2 : listed.toList.count true = listed.toList.length := by
        have := List.count_le_length (a := true) (l := listed.toList)
        omega
      have h3 := List.count_eq_length.1 hc2
      have hk' : k < listed.size := by rw [hm.lsize]; omega
      have h4 := h3 listed[k] (by simp)
      simp [Array.getD, hk', ← h4]
  | succ fuel ih =>
    intro listed a w hm hl2 hcount
    by_cases hall : ∀ k, k < l.length → listed.getD k false = true
    · refine tail (fuel + 1) listed a w hm hall hl2 ?_
      have := cnt listed hm.lsize hl2
      omega
    · refine ⟨fun h0 => absurd (fun k hk => ready_nil listed hm.lsize h0 k (by rw [hfl, List.length_append]; omega)) hall, fun i hi => ?_⟩
      obtain ⟨hun, o, ho, hedges⟩ := mem_ready.1 hi
      obtain ⟨s, hiT, rfl⟩ := hopsk' i o ho
      have hil : i < full.length := (List.getElem?_eq_some_iff.1 hiT).1
      have hin : i < l.length := by
        by_cases h : i < l.length
        · exact h
        · exfalso
          apply hall
          intro k hk
          refine mask_reach (full := full) (by rw [hfo]; exact hM) hm.closed i s k hiT hedges (by rw [hfl, List.length_append]; omega) ?_
          have h1 := List.all_eq_true.1 hanc (i - l.length) (List.mem_range.2 (by omega))
          have h2 := List.all_eq_true.1 h1 k (List.mem_range.2 hk)
          rw [show l.length + (i - l.length) = i by omega] at h2
          exact h2
      refine step_typed2 (ops := (l ++ tl).toArray) (full := full) hN hR hNR (by rw [hfo]) (by rw [hfo]; exact hok) (by rw [hfo]; exact hM) hW2 hkeep2 i ?_ listed a w _ hm hi fun a' w' hm' => ih _ _ _ hm' ?_ ?_
      · intro sp hsp
        obtain ⟨fl, pu, wr, h1, h2⟩ := hobl i sp (hlow i sp hsp hin)
        refine ⟨fl, pu, wr, ?_, ?_⟩
        · rw [htake i (by omega)]; exact h1
        · rw [htake i (by omega)]; exact h2
      · intro k hk
        rw [getD_set_ne false (by omega)]
        exact hl2 k hk
      · have hil' : i < listed.size := by rw [hm.lsize]; exact hil
        have hf : listed[i] = false := by simpa [Array.getD, hil'] using hun
        have hset : (listed.setIfInBounds i true).toList = listed.toList.set i true := by simp
        rw [hset, List.count_set (by simpa using hil')]
        have hf' : listed.toList[i]'(by simpa using hil') = false := by simpa using hf
        simp only [hf']
        simp
        have hc := hcount
        simp only [Array.count_toList] at hc
        rw [List.length_append] at hc
        omega
theorem wp_region_typed4 {id : Nat} {l tl : List Oper} {a0 : Act} {w0 : World} (hN : Steady N) (hR : Steady R) (hNR : ∀ w w', N w w' → R w w') (hm : P.follows .mixedOrders = true) (n : Nat) (hn : a0.tmps.size = n) (M : List Nat) (W : Nat)
    (hok : (regionOk n (l ++ tl) && maskOk (l ++ tl) M && decide (W < 2 ^ l.length) && ancB M l.length (l ++ tl).length && chainB (l ++ tl).toArray l.length && backB (l ++ tl).toArray) = true)
    (h : Stage2 P (l ++ tl).toArray N R M W a0 w0 (fun a w => wpList P (l ++ tl).toArray Q tl a w) [] l) : (Code.region id (l ++ tl).toArray true).wp P Q a0 w0 := by
  obtain ⟨rest, h1, h2, h3, h4⟩ := Stage2.all l [] h
  subst hn
  simp only [Bool.and_eq_true, decide_eq_true_eq] at hok
  refine wp_region_any hm ?_
  refine any_typed4 (rest := rest) (a0 := a0) (w0 := w0) hN hR hNR h1 hok.1.1.1.1.1 hok.1.1.1.1.2 hok.1.1.1.2 hok.1.1.2 hok.1.2 hok.2 h2 (by simpa using h4) (by simpa using h3) _ _ _ _ ⟨hNR _ _ (hN.drew w0), fun _ => hN.drew w0, rfl, rfl, by rw [← h1]; simp, fun _ _ => rfl, ?_, ?_⟩ ?_ (by simp)
  · intro k sp hk hl
    have hlt : k < (l ++ tl).length := by have := (List.getElem?_eq_some_iff.1 hk).1; rw [← h1]; simpa using this
    simp [Array.getD, hlt] at hl
  · intro k sp hk hl
    have hlt : k < (l ++ tl).length := by have := (List.getElem?_eq_some_iff.1 hk).1; rw [← h1]; simpa using this
    simp [Array.getD, hlt] at hl
  · intro k _
    simp [Array.getD]
theorem wp_region_typed4' {id : Nat} {L : List Oper} {a0 : Act} {w0 : World} (k : Nat) (hN : Steady N) (hR : Steady R) (hNR : ∀ w w', N w w' → R w w') (hm : P.follows .mixedOrders = true) (n : Nat) (hn : a0.tmps.size = n) (M : List Nat) (W : Nat)
    (hok : (regionOk n L && maskOk L M && decide (W < 2 ^ (L.take k).length) && ancB M (L.take k).length L.length && chainB L.toArray (L.take k).length && backB L.toArray) = true)
    (h : Stage2 P L.toArray N R M W a0 w0 (fun a w => wpList P L.toArray Q (L.drop k) a w) [] (L.take k)) : (Code.region id L.toArray true).wp P Q a0 w0 := by
  have e : L.take k ++ L.drop k = L := List.take_append_drop k L
  have := wp_region_typed4 (id := id) (l := L.take k) (tl := L.drop k) (Q := Q) (a0 := a0) (w0 := w0) hN hR hNR hm n hn M W (by rw [e]; exact hok) (by rw [e]; exact h)
  rw [e] at this
  exact this
def Bet (S : Nat → Prop) (w w' : World) : Prop := ∀ H, But H S w w'
theorem Bet.steady (S : Nat → Prop) : Steady (Bet S) := ⟨fun w H => But.refl H S w, fun _ _ _ h k H => (h H).trans (k H), fun w H => But.of_ext (Ext.drew w)⟩
theorem Bet.of_ext {S : Nat → Prop} {a b : World} (h : Ext a b) : Bet S a b := fun H => But.of_ext h
theorem Bet.cell {S : Nat → Prop} {a b : World} (h : Bet S a b) {p : Addr} {u : Value} (hc : a.cell? p = some u) (hS : ¬ S p.block) : b.cell? p = some u := (h (p.block + 1)).cell hc (Nat.lt_succ_self _) hS
theorem Bet.grown {S : Nat → Prop} {w w' : World} {row : Option Nat} (hg : w.grownBy w' row) (hr : ∀ k, row = some k → S k) : Bet S w w' := fun H => But.grown (But.refl H S w) hg fun k hk => .inl (hr k hk)
theorem Bet.block {S : Nat → Prop} {a b : World} (h : Bet S a b) {k : Nat} (hS : ¬ S k) (hk : k < a.heap.size) : b.heap[k]? = a.heap[k]? := (h (k + 1)).block k (Nat.lt_succ_self _) hS hk
end
end Go.Proofs.Ytoeknbogaclfdaa
