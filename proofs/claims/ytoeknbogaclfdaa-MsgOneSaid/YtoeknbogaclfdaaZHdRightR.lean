/-
  Records: contract of the reference's RightHead.
-/
import Derived.Test.YtoeknbogaclfdaaZHdRight
import Derived.Deep.QuietTactic
import Derived.BigQuiet
namespace Go.Proofs.Ytoeknbogaclfdaa
open Go.RowKit
set_option linter.unusedVariables false
set_option linter.unusedSimpArgs false
set_option linter.unnecessarySimpa false
set_option maxRecDepth 100000

theorem quiet_leftH {P : Program} {f : FuncId} {args : Array Value} {w : World} {n : Nat} {v : Value}
    (h : Calls P f args (w.drewN n) fun e w' => e = .returned v ∧ w.drewN n = w') : Calls P f args (w.drewN n) fun e w'' => e = .returned v ∧ ∃ m, w'' = w.drewN m :=
  h.mono fun _ _ ⟨he, hm⟩ => ⟨he, n, hm.symm⟩
theorem Ext.drewNH {a w : World} (h : Ext a w) (n : Nat) : Ext a (w.drewN n) := Ext.trans h ⟨rfl, rfl, rfl, Nat.le_refl _, fun _ _ => rfl⟩
theorem okF_step {nx : Int} {xs : List Mk} {k : Nat} {x : Mk} (h : xs[k]? = some x) : okF nx (xs.take k) (xs.drop k) = (okM nx (xs.take k) x && okF nx (xs.take (k + 1)) (xs.drop (k + 1))) := by
  obtain ⟨hl, rfl⟩ := List.getElem?_eq_some_iff.1 h
  rw [List.drop_eq_getElem_cons hl, okF, List.take_add_one, List.getElem?_eq_getElem hl]
  rfl
def namesB (s : ByteArray) (y : Mk) : Bool := decide (y.nm = s)
theorem dist_step {xs : List Mk} {k : Nat} {x : Mk} (h : xs[k]? = some x) : distF (xs.take k) (xs.drop k) = (!((xs.take k).any (namesB x.nm)) && distF (xs.take (k + 1)) (xs.drop (k + 1))) := by
  obtain ⟨hl, rfl⟩ := List.getElem?_eq_some_iff.1 h
  rw [List.drop_eq_getElem_cons hl, distF, List.take_add_one, List.getElem?_eq_getElem hl]
  rfl
theorem names_next {xs : List Mk} {k : Nat} {x : Mk} {s : ByteArray} (h : xs[k]? = some x) (h0 : (xs.take k).any (namesB s) = false) : (xs.take (k + 1)).any (namesB s) = namesB s x := by
  rw [List.take_add_one, h, List.any_append, h0]
  simp
theorem names_up {xs : List Mk} {k m : Nat} {s : ByteArray} (h : (xs.take k).any (namesB s) = true) (hk : k ≤ m) : (xs.take m).any (namesB s) = true := by
  rw [List.any_eq_true] at h ⊢
  obtain ⟨x, hx, hl⟩ := h
  refine ⟨x, ?_, hl⟩
  have e : xs.take k = (xs.take m).take k := by rw [List.take_take, Nat.min_eq_left hk]
  rw [e] at hx
  exact List.mem_of_mem_take hx
set_option maxHeartbeats 4000000 in
theorem ref_RightHead (h : Hd) {A : Option Addr} {n c : Nat} {w : World} (hl : Lst 4 mkR w A n c h.marks) (hs : Hid (Shorts h.marks)) (hn1 : n ≤ 1000) {t : Bool} (ht : Hid (rightH h = t)) :
    Calls Try.prog 22 #[hdV h A n c] w fun e w' => e = .returned (.bool t) ∧ Ext w w' := by
  have h63 := hl.n63
  obtain ⟨h1, h2, h3, h4, nx, h6, xs⟩ := h
  simp only at hl hs
  obtain ⟨q, hq⟩ : ∃ q, shapeB h2 h3 h4 = q := ⟨_, rfl⟩
  have HQ := Lib.hid hq
  by_cases c1 : h1 < 0
  · have d1 : decide (h1 < 0) = true := decide_eq_true c1
    obtain rfl := rightH_no ht.out (numsB_no (by simp only; omega))
    clear ht
    go_enter Try.func22, Try.ntmps22
    go_wp2_with fail
    go_ret
    exact ⟨rfl, Ext.alloc _ _⟩
  have d1 : decide (h1 < 0) = false := decide_eq_false c1
  by_cases c2 : 512 < h1
  · have d2 : decide (512 < h1) = true := decide_eq_true c2
    obtain rfl := rightH_no ht.out (numsB_no (by simp only; omega))
    clear ht
    go_enter Try.func22, Try.ntmps22
    go_wp2_with fail
    go_ret
    exact ⟨rfl, Ext.alloc _ _⟩
  have d2 : decide (512 < h1) = false := decide_eq_false c2
  cases q with
  | false =>
    have hsh := shape_no hq
    clear hq
    obtain rfl := rightH_no ht.out (numsB_no (by simp only; intro hh; exact hsh hh.2.1))
    clear ht hsh
    go_enter Try.func22, Try.ntmps22
    go_wp2_with fail
    refine (ref_Shape h2 h3 h4 _ HQ).mono ?_
    rintro e w2 ⟨rfl, hx2⟩
    have b0 : w2.cell? ⟨w.heap.size, 0, none⟩ = some (.int .i64 h1) := hx2.cell (cell_new w #[.int .i64 h1, .int .i64 h2, .int .i64 h3, .int .i64 h4, .int .i64 nx, .int .i64 h6, .slice A n c] THd 0)
    have b1 : w2.cell? ⟨w.heap.size, 1, none⟩ = some (.int .i64 h2) := hx2.cell (cell_new w #[.int .i64 h1, .int .i64 h2, .int .i64 h3, .int .i64 h4, .int .i64 nx, .int .i64 h6, .slice A n c] THd 1)
    have b2 : w2.cell? ⟨w.heap.size, 2, none⟩ = some (.int .i64 h3) := hx2.cell (cell_new w #[.int .i64 h1, .int .i64 h2, .int .i64 h3, .int .i64 h4, .int .i64 nx, .int .i64 h6, .slice A n c] THd 2)
    have b3 : w2.cell? ⟨w.heap.size, 3, none⟩ = some (.int .i64 h4) := hx2.cell (cell_new w #[.int .i64 h1, .int .i64 h2, .int .i64 h3, .int .i64 h4, .int .i64 nx, .int .i64 h6, .slice A n c] THd 3)
    have b4 : w2.cell? ⟨w.heap.size, 4, none⟩ = some (.int .i64 nx) := hx2.cell (cell_new w #[.int .i64 h1, .int .i64 h2, .int .i64 h3, .int .i64 h4, .int .i64 nx, .int .i64 h6, .slice A n c] THd 4)
    have b5 : w2.cell? ⟨w.heap.size, 5, none⟩ = some (.int .i64 h6) := hx2.cell (cell_new w #[.int .i64 h1, .int .i64 h2, .int .i64 h3, .int .i64 h4, .int .i64 nx, .int .i64 h6, .slice A n c] THd 5)
    have b6 : w2.cell? ⟨w.heap.size, 6, none⟩ = some (.slice A n c) := hx2.cell (cell_new w #[.int .i64 h1, .int .i64 h2, .int .i64 h3, .int .i64 h4, .int .i64 nx, .int .i64 h6, .slice A n c] THd 6)
    have gx2 : Ext w w2 := (Ext.alloc _ _).trans hx2
    clear hx2
    go_wp2_with fail
    go_ret
    exact ⟨rfl, gx2⟩
  | true =>
  have hsh := Lib.hid (shape_yes hq)
  clear hq
  by_cases c3 : nx < 1
  · have d3 : decide (nx < 1) = true := decide_eq_true c3
    obtain rfl := rightH_no ht.out (numsB_no (by simp only; omega))
    clear ht
    go_enter Try.func22, Try.ntmps22
    go_wp2_with fail
    refine (ref_Shape h2 h3 h4 _ HQ).mono ?_
    rintro e w2 ⟨rfl, hx2⟩
    have b0 : w2.cell? ⟨w.heap.size, 0, none⟩ = some (.int .i64 h1) := hx2.cell (cell_new w #[.int .i64 h1, .int .i64 h2, .int .i64 h3, .int .i64 h4, .int .i64 nx, .int .i64 h6, .slice A n c] THd 0)
    have b1 : w2.cell? ⟨w.heap.size, 1, none⟩ = some (.int .i64 h2) := hx2.cell (cell_new w #[.int .i64 h1, .int .i64 h2, .int .i64 h3, .int .i64 h4, .int .i64 nx, .int .i64 h6, .slice A n c] THd 1)
    have b2 : w2.cell? ⟨w.heap.size, 2, none⟩ = some (.int .i64 h3) := hx2.cell (cell_new w #[.int .i64 h1, .int .i64 h2, .int .i64 h3, .int .i64 h4, .int .i64 nx, .int .i64 h6, .slice A n c] THd 2)
    have b3 : w2.cell? ⟨w.heap.size, 3, none⟩ = some (.int .i64 h4) := hx2.cell (cell_new w #[.int .i64 h1, .int .i64 h2, .int .i64 h3, .int .i64 h4, .int .i64 nx, .int .i64 h6, .slice A n c] THd 3)
    have b4 : w2.cell? ⟨w.heap.size, 4, none⟩ = some (.int .i64 nx) := hx2.cell (cell_new w #[.int .i64 h1, .int .i64 h2, .int .i64 h3, .int .i64 h4, .int .i64 nx, .int .i64 h6, .slice A n c] THd 4)
    have b5 : w2.cell? ⟨w.heap.size, 5, none⟩ = some (.int .i64 h6) := hx2.cell (cell_new w #[.int .i64 h1, .int .i64 h2, .int .i64 h3, .int .i64 h4, .int .i64 nx, .int .i64 h6, .slice A n c] THd 5)
    have b6 : w2.cell? ⟨w.heap.size, 6, none⟩ = some (.slice A n c) := hx2.cell (cell_new w #[.int .i64 h1, .int .i64 h2, .int .i64 h3, .int .i64 h4, .int .i64 nx, .int .i64 h6, .slice A n c] THd 6)
    have gx2 : Ext w w2 := (Ext.alloc _ _).trans hx2
    clear hx2
    go_wp2_with fail
    go_ret
    exact ⟨rfl, gx2⟩
  have d3 : decide (nx < 1) = false := decide_eq_false c3
  by_cases c4 : 1073741824 < nx
  · have d4 : decide (1073741824 < nx) = true := decide_eq_true c4
    obtain rfl := rightH_no ht.out (numsB_no (by simp only; omega))
    clear ht
    go_enter Try.func22, Try.ntmps22
    go_wp2_with fail
    refine (ref_Shape h2 h3 h4 _ HQ).mono ?_
    rintro e w2 ⟨rfl, hx2⟩
    have b0 : w2.cell? ⟨w.heap.size, 0, none⟩ = some (.int .i64 h1) := hx2.cell (cell_new w #[.int .i64 h1, .int .i64 h2, .int .i64 h3, .int .i64 h4, .int .i64 nx, .int .i64 h6, .slice A n c] THd 0)
    have b1 : w2.cell? ⟨w.heap.size, 1, none⟩ = some (.int .i64 h2) := hx2.cell (cell_new w #[.int .i64 h1, .int .i64 h2, .int .i64 h3, .int .i64 h4, .int .i64 nx, .int .i64 h6, .slice A n c] THd 1)
    have b2 : w2.cell? ⟨w.heap.size, 2, none⟩ = some (.int .i64 h3) := hx2.cell (cell_new w #[.int .i64 h1, .int .i64 h2, .int .i64 h3, .int .i64 h4, .int .i64 nx, .int .i64 h6, .slice A n c] THd 2)
    have b3 : w2.cell? ⟨w.heap.size, 3, none⟩ = some (.int .i64 h4) := hx2.cell (cell_new w #[.int .i64 h1, .int .i64 h2, .int .i64 h3, .int .i64 h4, .int .i64 nx, .int .i64 h6, .slice A n c] THd 3)
    have b4 : w2.cell? ⟨w.heap.size, 4, none⟩ = some (.int .i64 nx) := hx2.cell (cell_new w #[.int .i64 h1, .int .i64 h2, .int .i64 h3, .int .i64 h4, .int .i64 nx, .int .i64 h6, .slice A n c] THd 4)
    have b5 : w2.cell? ⟨w.heap.size, 5, none⟩ = some (.int .i64 h6) := hx2.cell (cell_new w #[.int .i64 h1, .int .i64 h2, .int .i64 h3, .int .i64 h4, .int .i64 nx, .int .i64 h6, .slice A n c] THd 5)
    have b6 : w2.cell? ⟨w.heap.size, 6, none⟩ = some (.slice A n c) := hx2.cell (cell_new w #[.int .i64 h1, .int .i64 h2, .int .i64 h3, .int .i64 h4, .int .i64 nx, .int .i64 h6, .slice A n c] THd 6)
    have gx2 : Ext w w2 := (Ext.alloc _ _).trans hx2
    clear hx2
    go_wp2_with fail
    go_ret
    exact ⟨rfl, gx2⟩
  have d4 : decide (1073741824 < nx) = false := decide_eq_false c4
  by_cases c5 : h6 < 0
  · have d5 : decide (h6 < 0) = true := decide_eq_true c5
    obtain rfl := rightH_no ht.out (numsB_no (by simp only; omega))
    clear ht
    go_enter Try.func22, Try.ntmps22
    go_wp2_with fail
    refine (ref_Shape h2 h3 h4 _ HQ).mono ?_
    rintro e w2 ⟨rfl, hx2⟩
    have b0 : w2.cell? ⟨w.heap.size, 0, none⟩ = some (.int .i64 h1) := hx2.cell (cell_new w #[.int .i64 h1, .int .i64 h2, .int .i64 h3, .int .i64 h4, .int .i64 nx, .int .i64 h6, .slice A n c] THd 0)
    have b1 : w2.cell? ⟨w.heap.size, 1, none⟩ = some (.int .i64 h2) := hx2.cell (cell_new w #[.int .i64 h1, .int .i64 h2, .int .i64 h3, .int .i64 h4, .int .i64 nx, .int .i64 h6, .slice A n c] THd 1)
    have b2 : w2.cell? ⟨w.heap.size, 2, none⟩ = some (.int .i64 h3) := hx2.cell (cell_new w #[.int .i64 h1, .int .i64 h2, .int .i64 h3, .int .i64 h4, .int .i64 nx, .int .i64 h6, .slice A n c] THd 2)
    have b3 : w2.cell? ⟨w.heap.size, 3, none⟩ = some (.int .i64 h4) := hx2.cell (cell_new w #[.int .i64 h1, .int .i64 h2, .int .i64 h3, .int .i64 h4, .int .i64 nx, .int .i64 h6, .slice A n c] THd 3)
    have b4 : w2.cell? ⟨w.heap.size, 4, none⟩ = some (.int .i64 nx) := hx2.cell (cell_new w #[.int .i64 h1, .int .i64 h2, .int .i64 h3, .int .i64 h4, .int .i64 nx, .int .i64 h6, .slice A n c] THd 4)
    have b5 : w2.cell? ⟨w.heap.size, 5, none⟩ = some (.int .i64 h6) := hx2.cell (cell_new w #[.int .i64 h1, .int .i64 h2, .int .i64 h3, .int .i64 h4, .int .i64 nx, .int .i64 h6, .slice A n c] THd 5)
    have b6 : w2.cell? ⟨w.heap.size, 6, none⟩ = some (.slice A n c) := hx2.cell (cell_new w #[.int .i64 h1, .int .i64 h2, .int .i64 h3, .int .i64 h4, .int .i64 nx, .int .i64 h6, .slice A n c] THd 6)
    have gx2 : Ext w w2 := (Ext.alloc _ _).trans hx2
    clear hx2
    go_wp2_with fail
    go_ret
    exact ⟨rfl, gx2⟩
  have d5 : decide (h6 < 0) = false := decide_eq_false c5
  by_cases c6 : 1099511627776 < h6
  · have d6 : decide (1099511627776 < h6) = true := decide_eq_true c6
    obtain rfl := rightH_no ht.out (numsB_no (by simp only; omega))
    clear ht
    go_enter Try.func22, Try.ntmps22
    go_wp2_with fail
    refine (ref_Shape h2 h3 h4 _ HQ).mono ?_
    rintro e w2 ⟨rfl, hx2⟩
    have b0 : w2.cell? ⟨w.heap.size, 0, none⟩ = some (.int .i64 h1) := hx2.cell (cell_new w #[.int .i64 h1, .int .i64 h2, .int .i64 h3, .int .i64 h4, .int .i64 nx, .int .i64 h6, .slice A n c] THd 0)
    have b1 : w2.cell? ⟨w.heap.size, 1, none⟩ = some (.int .i64 h2) := hx2.cell (cell_new w #[.int .i64 h1, .int .i64 h2, .int .i64 h3, .int .i64 h4, .int .i64 nx, .int .i64 h6, .slice A n c] THd 1)
    have b2 : w2.cell? ⟨w.heap.size, 2, none⟩ = some (.int .i64 h3) := hx2.cell (cell_new w #[.int .i64 h1, .int .i64 h2, .int .i64 h3, .int .i64 h4, .int .i64 nx, .int .i64 h6, .slice A n c] THd 2)
    have b3 : w2.cell? ⟨w.heap.size, 3, none⟩ = some (.int .i64 h4) := hx2.cell (cell_new w #[.int .i64 h1, .int .i64 h2, .int .i64 h3, .int .i64 h4, .int .i64 nx, .int .i64 h6, .slice A n c] THd 3)
    have b4 : w2.cell? ⟨w.heap.size, 4, none⟩ = some (.int .i64 nx) := hx2.cell (cell_new w #[.int .i64 h1, .int .i64 h2, .int .i64 h3, .int .i64 h4, .int .i64 nx, .int .i64 h6, .slice A n c] THd 4)
    have b5 : w2.cell? ⟨w.heap.size, 5, none⟩ = some (.int .i64 h6) := hx2.cell (cell_new w #[.int .i64 h1, .int .i64 h2, .int .i64 h3, .int .i64 h4, .int .i64 nx, .int .i64 h6, .slice A n c] THd 5)
    have b6 : w2.cell? ⟨w.heap.size, 6, none⟩ = some (.slice A n c) := hx2.cell (cell_new w #[.int .i64 h1, .int .i64 h2, .int .i64 h3, .int .i64 h4, .int .i64 nx, .int .i64 h6, .slice A n c] THd 6)
    have gx2 : Ext w w2 := (Ext.alloc _ _).trans hx2
    clear hx2
    go_wp2_with fail
    go_ret
    exact ⟨rfl, gx2⟩
  have d6 : decide (1099511627776 < h6) = false := decide_eq_false c6
  have hm : Hid (marksB nx xs = t) := by
    unfold Hid
    rw [← ht.out]
    unfold rightH
    have hnb : numsB ⟨h1, h2, h3, h4, nx, h6, xs⟩ = true := numsB_iff.2 ⟨by simp only; omega, hsh.out, by simp only; omega⟩
    rw [hnb, Bool.true_and]
  have hm2 := hm.out
  rw [marksB_ref, hl.len] at hm2
  clear ht hsh c4 c6 hm
  by_cases c7 : 17 < n
  · have d7 : decide (17 < n) = true := decide_eq_true c7
    obtain rfl : false = t := by rw [← hm2]; have : decide (n ≤ 17) = false := by simp; omega
                                 rw [this]; rfl
    clear hm2
    go_enter Try.func22, Try.ntmps22
    go_wp2_with fail
    refine (ref_Shape h2 h3 h4 _ HQ).mono ?_
    rintro e w2 ⟨rfl, hx2⟩
    have b0 : w2.cell? ⟨w.heap.size, 0, none⟩ = some (.int .i64 h1) := hx2.cell (cell_new w #[.int .i64 h1, .int .i64 h2, .int .i64 h3, .int .i64 h4, .int .i64 nx, .int .i64 h6, .slice A n c] THd 0)
    have b1 : w2.cell? ⟨w.heap.size, 1, none⟩ = some (.int .i64 h2) := hx2.cell (cell_new w #[.int .i64 h1, .int .i64 h2, .int .i64 h3, .int .i64 h4, .int .i64 nx, .int .i64 h6, .slice A n c] THd 1)
    have b2 : w2.cell? ⟨w.heap.size, 2, none⟩ = some (.int .i64 h3) := hx2.cell (cell_new w #[.int .i64 h1, .int .i64 h2, .int .i64 h3, .int .i64 h4, .int .i64 nx, .int .i64 h6, .slice A n c] THd 2)
    have b3 : w2.cell? ⟨w.heap.size, 3, none⟩ = some (.int .i64 h4) := hx2.cell (cell_new w #[.int .i64 h1, .int .i64 h2, .int .i64 h3, .int .i64 h4, .int .i64 nx, .int .i64 h6, .slice A n c] THd 3)
    have b4 : w2.cell? ⟨w.heap.size, 4, none⟩ = some (.int .i64 nx) := hx2.cell (cell_new w #[.int .i64 h1, .int .i64 h2, .int .i64 h3, .int .i64 h4, .int .i64 nx, .int .i64 h6, .slice A n c] THd 4)
    have b5 : w2.cell? ⟨w.heap.size, 5, none⟩ = some (.int .i64 h6) := hx2.cell (cell_new w #[.int .i64 h1, .int .i64 h2, .int .i64 h3, .int .i64 h4, .int .i64 nx, .int .i64 h6, .slice A n c] THd 5)
    have b6 : w2.cell? ⟨w.heap.size, 6, none⟩ = some (.slice A n c) := hx2.cell (cell_new w #[.int .i64 h1, .int .i64 h2, .int .i64 h3, .int .i64 h4, .int .i64 nx, .int .i64 h6, .slice A n c] THd 6)
    have gx2 : Ext w w2 := (Ext.alloc _ _).trans hx2
    clear hx2
    go_wp2_with fail
    go_ret
    exact ⟨rfl, gx2⟩
  have d7 : decide (17 < n) = false := decide_eq_false c7
  have d7i : decide ((17 : Int) < (n : Int)) = false := by simp; omega
  obtain ⟨g, hg⟩ : ∃ g, okF nx [] xs = g := ⟨_, rfl⟩
  obtain ⟨g2, hg2⟩ : ∃ g, distF [] (seenL xs) = g := ⟨_, rfl⟩
  obtain ⟨R, hR⟩ : ∃ R, seenL xs = R := ⟨_, rfl⟩
  have HT : Hid ((g && (g2 && (decide (R.length ≤ 8) && decide (holdsN xs ≤ 1)))) = t) := by
    unfold Hid
    rw [← hm2, hg, hg2, hR]
    have : decide (n ≤ 17) = true := by simp; omega
    rw [this, Bool.true_and]
  have HG0 : Hid (okF nx (xs.take 0) (xs.drop 0) = g) := by unfold Hid; rw [← hg]; rfl
  have HG20 : Hid (distF (R.take 0) (R.drop 0) = g2) := by unfold Hid; rw [← hg2, hR]; rfl
  have HR := Lib.hid hR
  clear hg hg2 hR hm2
  go_enter Try.func22, Try.ntmps22
  go_wp2_with fail
  refine (ref_Shape h2 h3 h4 _ HQ).mono ?_
  rintro e w2 ⟨rfl, hx2⟩
  have b0 : w2.cell? ⟨w.heap.size, 0, none⟩ = some (.int .i64 h1) := hx2.cell (cell_new w #[.int .i64 h1, .int .i64 h2, .int .i64 h3, .int .i64 h4, .int .i64 nx, .int .i64 h6, .slice A n c] THd 0)
  have b1 : w2.cell? ⟨w.heap.size, 1, none⟩ = some (.int .i64 h2) := hx2.cell (cell_new w #[.int .i64 h1, .int .i64 h2, .int .i64 h3, .int .i64 h4, .int .i64 nx, .int .i64 h6, .slice A n c] THd 1)
  have b2 : w2.cell? ⟨w.heap.size, 2, none⟩ = some (.int .i64 h3) := hx2.cell (cell_new w #[.int .i64 h1, .int .i64 h2, .int .i64 h3, .int .i64 h4, .int .i64 nx, .int .i64 h6, .slice A n c] THd 2)
  have b3 : w2.cell? ⟨w.heap.size, 3, none⟩ = some (.int .i64 h4) := hx2.cell (cell_new w #[.int .i64 h1, .int .i64 h2, .int .i64 h3, .int .i64 h4, .int .i64 nx, .int .i64 h6, .slice A n c] THd 3)
  have b4 : w2.cell? ⟨w.heap.size, 4, none⟩ = some (.int .i64 nx) := hx2.cell (cell_new w #[.int .i64 h1, .int .i64 h2, .int .i64 h3, .int .i64 h4, .int .i64 nx, .int .i64 h6, .slice A n c] THd 4)
  have b5 : w2.cell? ⟨w.heap.size, 5, none⟩ = some (.int .i64 h6) := hx2.cell (cell_new w #[.int .i64 h1, .int .i64 h2, .int .i64 h3, .int .i64 h4, .int .i64 nx, .int .i64 h6, .slice A n c] THd 5)
  have b6 : w2.cell? ⟨w.heap.size, 6, none⟩ = some (.slice A n c) := hx2.cell (cell_new w #[.int .i64 h1, .int .i64 h2, .int .i64 h3, .int .i64 h4, .int .i64 nx, .int .i64 h6, .slice A n c] THd 6)
  have gx2 : Ext w w2 := (Ext.alloc _ _).trans hx2
  clear hx2
  go_wp2_with fail
  go_loopw [3, 4] (fun v i wr => ∃ (k : Nat) (d : Int) (hn : Nat), k ≤ n ∧ hn ≤ k ∧ 0 ≤ d ∧ v = .int .i64 hn ∧ i = .int .i64 k ∧ Hid (lastI (xs.take k) = d) ∧ Hid (holdsN (xs.take k) = hn) ∧ Hid (okF nx (xs.take k) (xs.drop k) = g) ∧ Ext w2 wr) (fun _ i _ => n - (intOf i).toNat)
  case atStart => exact ⟨0, 0, 0, by omega, by omega, by omega, rfl, rfl, rfl, rfl, HG0, Ext.refl _⟩
  case round =>
    obtain ⟨k, d, hn, hk, hnk, hd0, rfl, rfl, hd, hh, HG, hxr⟩ := hrel
    clear HG0
    have gxr := gx2.trans hxr
    replace b0 := hxr.cell b0
    replace b1 := hxr.cell b1
    replace b2 := hxr.cell b2
    replace b3 := hxr.cell b3
    replace b4 := hxr.cell b4
    replace b5 := hxr.cell b5
    replace b6 := hxr.cell b6
    by_cases hlt : k < n
    · obtain ⟨ga, oa, x, cs, rfl, hx, rfl, hcl⟩ := hl.at2 mk_rep (by omega) hlt
      have a0 : wr.cell? ⟨ga, oa + k * 4, none⟩ = _ := gxr.cell (hcl 0 _ rfl)
      have a1 := gxr.cell (hcl 1 _ rfl)
      have a2 := gxr.cell (hcl 2 _ rfl)
      have a3 := gxr.cell (hcl 3 _ rfl)
      clear hcl
      have hst := okF_step (nx := nx) hx
      have hhn := holds_next hx
      rw [hh.out] at hhn
      have HDN := Lib.hid (last_next hx)
      have hsz := hs.out.at_ hx
      obtain ⟨nb, hb⟩ : ∃ q, nameM x.nm = q := ⟨_, rfl⟩
      obtain ⟨q2, hq2⟩ : ∃ q, tildeB x.nm = q := ⟨_, rfl⟩
      rw [hq2] at hhn
      have HNM := Lib.hid hb
      have HQN := Lib.hid hq2
      have HHN := Lib.hid hhn
      clear hhn hh hb hq2
      obtain ⟨x1, x2, x3, x4⟩ := x
      simp only at a0 a1 a2 a3 hsz HDN HNM HQN
      obtain ⟨w3, hw3⟩ : ∃ q, q = wr.alloc (.cells #[.int .i64 x1, .string x2, .int .i64 x3, .bool x4] TMk) := ⟨_, rfl⟩
      have hx3 : Ext w2 w3 := by rw [hw3]; exact hxr.allocs _
      have gx3 := gx2.trans hx3
      have p0 : w3.cell? ⟨wr.heap.size, 0, none⟩ = some (.int .i64 x1) := by rw [hw3]; exact cell_new _ _ _ 0
      have p1 : w3.cell? ⟨wr.heap.size, 1, none⟩ = some (.string x2) := by rw [hw3]; exact cell_new _ _ _ 1
      have p2 : w3.cell? ⟨wr.heap.size, 2, none⟩ = some (.int .i64 x3) := by rw [hw3]; exact cell_new _ _ _ 2
      have p3 : w3.cell? ⟨wr.heap.size, 3, none⟩ = some (.bool x4) := by rw [hw3]; exact cell_new _ _ _ 3
      have b43 : w3.cell? ⟨w.heap.size, 4, none⟩ = some (.int .i64 nx) := by rw [hw3]; exact (Ext.alloc _ _).cell b4
      have b63 : w3.cell? ⟨w.heap.size, 6, none⟩ = some (.slice (some ⟨ga, oa, none⟩) n c) := by rw [hw3]; exact (Ext.alloc _ _).cell b6
      by_cases e1 : x1 < 1
      · have e1d : decide (x1 < 1) = true := decide_eq_true e1
        have hok : okM nx (xs.take k) ⟨x1, x2, x3, x4⟩ = false := by
          unfold okM namedM
          rw [hd.out]
          simp only
          rw [HNM.out, HQN.out]
          simp
          intros; omega
        rw [hok] at hst
        obtain rfl : false = g := by rw [← HG.out, hst]; rfl
        obtain rfl : false = t := by rw [← HT.out]; rfl
        clear hst hok HG hd HT hx
        go_wp2_with fail
        rw [← hw3]
        clear hw3
        go_quiet (first | (go_at_call 58; exact quiet_leftH (ref_MarkName x2 _ (by omega) HNM)) | (go_at_call 59; exact quiet_leftH (ref_hidden x2 _ (by omega) HQN)))
        go_wp2_with fail
        go_ret
        exact ⟨rfl, gx3.drewNH _⟩
      have e1d : decide (x1 < 1) = false := decide_eq_false e1
      by_cases e2 : nx ≤ x1
      · have e2d : decide (nx ≤ x1) = true := decide_eq_true e2
        have hok : okM nx (xs.take k) ⟨x1, x2, x3, x4⟩ = false := by
          unfold okM namedM
          rw [hd.out]
          simp only
          rw [HNM.out, HQN.out]
          simp
          intros; omega
        rw [hok] at hst
        obtain rfl : false = g := by rw [← HG.out, hst]; rfl
        obtain rfl : false = t := by rw [← HT.out]; rfl
        clear hst hok HG hd HT hx
        go_wp2_with fail
        rw [← hw3]
        clear hw3
        go_quiet (first | (go_at_call 58; exact quiet_leftH (ref_MarkName x2 _ (by omega) HNM)) | (go_at_call 59; exact quiet_leftH (ref_hidden x2 _ (by omega) HQN)))
        go_wp2_with fail
        go_ret
        exact ⟨rfl, gx3.drewNH _⟩
      have e2d : decide (nx ≤ x1) = false := decide_eq_false e2
      by_cases hk0 : k = 0
      · have dk : decide ((0 : Int) < (k : Int)) = false := decide_eq_false (by omega)
        have dkn : decide (0 < k) = false := decide_eq_false (by omega)
        have hdz : d = 0 := by rw [← hd.out, hk0]; rfl
        have hdx : d < x1 := by omega
        clear hdz hk0
        by_cases c4 : x3 < 0
        · skip
          have hok : okM nx (xs.take k) ⟨x1, x2, x3, x4⟩ = false := by
            unfold okM namedM
            rw [hd.out]
            simp only
            rw [HNM.out, HQN.out]
            simp
            omega
          rw [hok] at hst
          obtain rfl : false = g := by rw [← HG.out, hst]; rfl
          obtain rfl : false = t := by rw [← HT.out]; rfl
          clear hst hok HG hd HT hx
          go_wp2_with fail
          rw [← hw3]
          clear hw3
          go_quiet (first | (go_at_call 58; exact quiet_leftH (ref_MarkName x2 _ (by omega) HNM)) | (go_at_call 59; exact quiet_leftH (ref_hidden x2 _ (by omega) HQN)))
          go_wp2_with fail
          go_ret
          exact ⟨rfl, gx3.drewNH _⟩
        have d4 : decide (x3 < 0) = false := decide_eq_false c4
        by_cases c5 : 512 < x3
        · skip
          have hok : okM nx (xs.take k) ⟨x1, x2, x3, x4⟩ = false := by
            unfold okM namedM
            rw [hd.out]
            simp only
            rw [HNM.out, HQN.out]
            simp
            omega
          rw [hok] at hst
          obtain rfl : false = g := by rw [← HG.out, hst]; rfl
          obtain rfl : false = t := by rw [← HT.out]; rfl
          clear hst hok HG hd HT hx
          go_wp2_with fail
          rw [← hw3]
          clear hw3
          go_quiet (first | (go_at_call 58; exact quiet_leftH (ref_MarkName x2 _ (by omega) HNM)) | (go_at_call 59; exact quiet_leftH (ref_hidden x2 _ (by omega) HQN)))
          go_wp2_with fail
          go_ret
          exact ⟨rfl, gx3.drewNH _⟩
        have d5 : decide (512 < x3) = false := decide_eq_false c5
        cases nb with
        | false =>
          skip
          have hok : okM nx (xs.take k) ⟨x1, x2, x3, x4⟩ = false := by
            unfold okM namedM
            rw [hd.out]
            simp only
            rw [HNM.out, HQN.out]
            simp
            skip
          rw [hok] at hst
          obtain rfl : false = g := by rw [← HG.out, hst]; rfl
          obtain rfl : false = t := by rw [← HT.out]; rfl
          clear hst hok HG hd HT hx
          go_wp2_with fail
          rw [← hw3]
          clear hw3
          go_quiet (first | (go_at_call 58; exact quiet_leftH (ref_MarkName x2 _ (by omega) HNM)) | (go_at_call 59; exact quiet_leftH (ref_hidden x2 _ (by omega) HQN)))
          go_wp2_with fail
          go_ret
          exact ⟨rfl, gx3.drewNH _⟩
        | true =>
          have hok : okM nx (xs.take k) ⟨x1, x2, x3, x4⟩ = !(q2 && x4) := by
            unfold okM namedM
            rw [hd.out]
            simp only
            rw [HNM.out, HQN.out, Bool.true_and]
            have : decide (d < x1 ∧ x1 < nx ∧ 0 ≤ x3 ∧ x3 ≤ 512) = true := by simp; omega
            rw [this, Bool.true_and]
          rw [hok] at hst
          have hr0 := hd.out
          clear hok hr0
          cases q2 with
          | true =>
            cases x4 with
            | true =>
              obtain rfl : false = g := by rw [← HG.out, hst]; rfl
              obtain rfl : false = t := by rw [← HT.out]; rfl
              clear hst HG hd HT hx
              go_wp2_with fail
              rw [← hw3]
              clear hw3
              go_quiet (first | (go_at_call 58; exact quiet_leftH (ref_MarkName x2 _ (by omega) HNM)) | (go_at_call 59; exact quiet_leftH (ref_hidden x2 _ (by omega) HQN)))
              go_wp2_with fail
              go_ret
              exact ⟨rfl, gx3.drewNH _⟩
            | false =>
              have HN : Hid (okF nx (xs.take (k + 1)) (xs.drop (k + 1)) = g) := by unfold Hid; rw [← HG.out, hst]; rfl
              have HH : Hid (holdsN (xs.take (k + 1)) = hn + 1) := by unfold Hid; rw [HHN.out]; rfl
              clear hst HG hd hx HHN
              go_wp2_with fail
              rw [← hw3]
              clear hw3
              go_quiet (first | (go_at_call 58; exact quiet_leftH (ref_MarkName x2 _ (by omega) HNM)) | (go_at_call 59; exact quiet_leftH (ref_hidden x2 _ (by omega) HQN)))
              go_wp2_with fail
              refine (ref_hidden x2 _ (by omega) HQN).mono ?_
              rintro e _ ⟨rfl, rfl⟩
              go_wp2_with fail
              go_roundw
              case rel => exact ⟨k + 1, x1, hn + 1, by omega, by omega, by omega, by go_num, by go_num, HDN, HH, HN, hx3.drewNH _⟩
              case measure => simp [intOf]; omega
          | false =>
            have HN : Hid (okF nx (xs.take (k + 1)) (xs.drop (k + 1)) = g) := by unfold Hid; rw [← HG.out, hst]; rfl
            have HH : Hid (holdsN (xs.take (k + 1)) = hn) := by unfold Hid; rw [HHN.out]; rfl
            clear hst HG hd hx HHN
            go_wp2_with fail
            rw [← hw3]
            clear hw3
            go_quiet (first | (go_at_call 58; exact quiet_leftH (ref_MarkName x2 _ (by omega) HNM)) | (go_at_call 59; exact quiet_leftH (ref_hidden x2 _ (by omega) HQN)))
            go_wp2_with fail
            refine (ref_hidden x2 _ (by omega) HQN).mono ?_
            rintro e _ ⟨rfl, rfl⟩
            go_wp2_with fail
            go_roundw
            case rel => exact ⟨k + 1, x1, hn, by omega, by omega, by omega, rfl, by go_num, HDN, HH, HN, hx3.drewNH _⟩
            case measure => simp [intOf]; omega
      · obtain ⟨j, rfl⟩ : ∃ j, k = j + 1 := ⟨k - 1, by omega⟩
        have dk : decide ((0 : Int) < ((j + 1 : Nat) : Int)) = true := decide_eq_true (by omega)
        obtain ⟨gy, oy, y, cy, hA, hy, rfl, hay⟩ := hl.at2 mk_rep (by omega) (show j < n by omega)
        injection hA with hA
        injection hA with hA1 hA2
        subst hA1 hA2
        have s0 : w3.cell? ⟨ga, oa + j * 4, none⟩ = some (.int .i64 y.id) := gx3.cell (hay 0 _ rfl)
        have hly := last_next hy
        rw [hd.out] at hly
        obtain ⟨y1, y2, y3, y4⟩ := y
        simp only at s0 hly
        clear hay hy
        subst hly
        by_cases e3 : x1 ≤ d
        · have e3d : decide (x1 ≤ d) = true := decide_eq_true e3
          have hok : okM nx (xs.take (j + 1)) ⟨x1, x2, x3, x4⟩ = false := by
            unfold okM namedM
            rw [hd.out]
            simp only
            rw [HNM.out, HQN.out]
            simp
            omega
          rw [hok] at hst
          obtain rfl : false = g := by rw [← HG.out, hst]; rfl
          obtain rfl : false = t := by rw [← HT.out]; rfl
          clear hst hok HG hd HT hx
          go_wp2_with fail
          rw [← hw3]
          clear hw3
          go_quiet (first | (go_at_call 58; exact quiet_leftH (ref_MarkName x2 _ (by omega) HNM)) | (go_at_call 59; exact quiet_leftH (ref_hidden x2 _ (by omega) HQN)))
          go_wp2_with fail
          go_ret
          exact ⟨rfl, gx3.drewNH _⟩
        have e3d : decide (x1 ≤ d) = false := decide_eq_false e3
        have hdx : d < x1 := by omega
        by_cases c4 : x3 < 0
        · skip
          have hok : okM nx (xs.take (j + 1)) ⟨x1, x2, x3, x4⟩ = false := by
            unfold okM namedM
            rw [hd.out]
            simp only
            rw [HNM.out, HQN.out]
            simp
            omega
          rw [hok] at hst
          obtain rfl : false = g := by rw [← HG.out, hst]; rfl
          obtain rfl : false = t := by rw [← HT.out]; rfl
          clear hst hok HG hd HT hx
          go_wp2_with fail
          rw [← hw3]
          clear hw3
          go_quiet (first | (go_at_call 58; exact quiet_leftH (ref_MarkName x2 _ (by omega) HNM)) | (go_at_call 59; exact quiet_leftH (ref_hidden x2 _ (by omega) HQN)))
          go_wp2_with fail
          go_ret
          exact ⟨rfl, gx3.drewNH _⟩
        have d4 : decide (x3 < 0) = false := decide_eq_false c4
        by_cases c5 : 512 < x3
        · skip
          have hok : okM nx (xs.take (j + 1)) ⟨x1, x2, x3, x4⟩ = false := by
            unfold okM namedM
            rw [hd.out]
            simp only
            rw [HNM.out, HQN.out]
            simp
            omega
          rw [hok] at hst
          obtain rfl : false = g := by rw [← HG.out, hst]; rfl
          obtain rfl : false = t := by rw [← HT.out]; rfl
          clear hst hok HG hd HT hx
          go_wp2_with fail
          rw [← hw3]
          clear hw3
          go_quiet (first | (go_at_call 58; exact quiet_leftH (ref_MarkName x2 _ (by omega) HNM)) | (go_at_call 59; exact quiet_leftH (ref_hidden x2 _ (by omega) HQN)))
          go_wp2_with fail
          go_ret
          exact ⟨rfl, gx3.drewNH _⟩
        have d5 : decide (512 < x3) = false := decide_eq_false c5
        cases nb with
        | false =>
          skip
          have hok : okM nx (xs.take (j + 1)) ⟨x1, x2, x3, x4⟩ = false := by
            unfold okM namedM
            rw [hd.out]
            simp only
            rw [HNM.out, HQN.out]
            simp
            skip
          rw [hok] at hst
          obtain rfl : false = g := by rw [← HG.out, hst]; rfl
          obtain rfl : false = t := by rw [← HT.out]; rfl
          clear hst hok HG hd HT hx
          go_wp2_with fail
          rw [← hw3]
          clear hw3
          go_quiet (first | (go_at_call 58; exact quiet_leftH (ref_MarkName x2 _ (by omega) HNM)) | (go_at_call 59; exact quiet_leftH (ref_hidden x2 _ (by omega) HQN)))
          go_wp2_with fail
          go_ret
          exact ⟨rfl, gx3.drewNH _⟩
        | true =>
          have hok : okM nx (xs.take (j + 1)) ⟨x1, x2, x3, x4⟩ = !(q2 && x4) := by
            unfold okM namedM
            rw [hd.out]
            simp only
            rw [HNM.out, HQN.out, Bool.true_and]
            have : decide (d < x1 ∧ x1 < nx ∧ 0 ≤ x3 ∧ x3 ≤ 512) = true := by simp; omega
            rw [this, Bool.true_and]
          rw [hok] at hst
          have hr0 := hd.out
          clear hok hr0
          cases q2 with
          | true =>
            cases x4 with
            | true =>
              obtain rfl : false = g := by rw [← HG.out, hst]; rfl
              obtain rfl : false = t := by rw [← HT.out]; rfl
              clear hst HG hd HT hx
              go_wp2_with fail
              rw [← hw3]
              clear hw3
              go_quiet (first | (go_at_call 58; exact quiet_leftH (ref_MarkName x2 _ (by omega) HNM)) | (go_at_call 59; exact quiet_leftH (ref_hidden x2 _ (by omega) HQN)))
              go_wp2_with fail
              go_ret
              exact ⟨rfl, gx3.drewNH _⟩
            | false =>
              have HN : Hid (okF nx (xs.take ((j + 1) + 1)) (xs.drop ((j + 1) + 1)) = g) := by unfold Hid; rw [← HG.out, hst]; rfl
              have HH : Hid (holdsN (xs.take ((j + 1) + 1)) = hn + 1) := by unfold Hid; rw [HHN.out]; rfl
              clear hst HG hd hx HHN
              go_wp2_with fail
              rw [← hw3]
              clear hw3
              go_quiet (first | (go_at_call 58; exact quiet_leftH (ref_MarkName x2 _ (by omega) HNM)) | (go_at_call 59; exact quiet_leftH (ref_hidden x2 _ (by omega) HQN)))
              go_wp2_with fail
              refine (ref_hidden x2 _ (by omega) HQN).mono ?_
              rintro e _ ⟨rfl, rfl⟩
              go_wp2_with fail
              go_roundw
              case rel => exact ⟨(j + 1) + 1, x1, hn + 1, by omega, by omega, by omega, by go_num, by go_num, HDN, HH, HN, hx3.drewNH _⟩
              case measure => simp [intOf]; omega
          | false =>
            have HN : Hid (okF nx (xs.take ((j + 1) + 1)) (xs.drop ((j + 1) + 1)) = g) := by unfold Hid; rw [← HG.out, hst]; rfl
            have HH : Hid (holdsN (xs.take ((j + 1) + 1)) = hn) := by unfold Hid; rw [HHN.out]; rfl
            clear hst HG hd hx HHN
            go_wp2_with fail
            rw [← hw3]
            clear hw3
            go_quiet (first | (go_at_call 58; exact quiet_leftH (ref_MarkName x2 _ (by omega) HNM)) | (go_at_call 59; exact quiet_leftH (ref_hidden x2 _ (by omega) HQN)))
            go_wp2_with fail
            refine (ref_hidden x2 _ (by omega) HQN).mono ?_
            rintro e _ ⟨rfl, rfl⟩
            go_wp2_with fail
            go_roundw
            case rel => exact ⟨(j + 1) + 1, x1, hn, by omega, by omega, by omega, rfl, by go_num, HDN, HH, HN, hx3.drewNH _⟩
            case measure => simp [intOf]; omega
    · obtain rfl : k = n := by omega
      have e1 := hh.out
      have e3 := HG.out
      rw [List.take_of_length_le (by rw [hl.len]; exact Nat.le_refl _)] at e1
      rw [List.drop_of_length_le (by rw [hl.len]; exact Nat.le_refl _)] at e3
      obtain rfl : true = g := by rw [← e3]; rfl
      have e4 := HT.out
      rw [e1, Bool.true_and] at e4
      have HT2 := Lib.hid e4
      clear hh HG HT e1 e3 e4 hd
      go_wp2_with fail
      refine (ref_Seen ⟨h1, h2, h3, h4, nx, h6, xs⟩ (hl.ext mk_rep gxr) hs hn1 HR).mono ?_
      rintro e w4 ⟨A4, n4, c4, rfl, h4', hx4⟩
      have l4 := h4'.lst
      have hRl := l4.len
      have e5 := HT2.out
      rw [hRl] at e5
      have HT3 := Lib.hid e5
      have hl4 : n4 ≤ k := by
        rw [← hRl, ← HR.out, ← hl.len]
        exact List.length_filter_le _ _
      have gw4 := gxr.trans hx4
      have h463 := l4.n63
      clear HT2 e5 h4' hx4 b0 b1 b2 b3 b4 b5 b6 hs HR hxr gxr gx2 hRl
      go_wp2_with fail
      go_loopw [7] (fun iv wr => ∃ (i : Nat), i ≤ n4 ∧ iv = .int .i64 i ∧ Hid (distF (R.take i) (R.drop i) = g2) ∧ Ext w4 wr) (fun iv _ => n4 - (intOf iv).toNat)
      case atStart => exact ⟨0, by omega, rfl, HG20, Ext.refl _⟩
      case round =>
        clear HG20
        obtain ⟨i, hi, rfl, hdi, hxr⟩ := hrel
        by_cases hlti : i < n4
        · obtain ⟨gb, ob, x, cs, rfl, hx, rfl, hcl⟩ := l4.at2 mk_rep (by omega) hlti
          have a1 := hcl 1 _ rfl
          have hst := dist_step hx
          rw [hdi.out] at hst
          obtain ⟨x1, x2, x3, x4⟩ := x
          simp only at a1 hst
          have HST := Lib.hid hst
          clear hst hx hcl hdi
          obtain ⟨wo, rfl⟩ : ∃ q, q = wr := ⟨_, rfl⟩
          go_wp2_with fail
          go_loopw [8] (fun jv wr => ∃ (j : Nat), j ≤ i ∧ jv = .int .i64 j ∧ Hid ((R.take j).any (namesB x2) = false) ∧ Ext w4 wr) (fun jv _ => i - (intOf jv).toNat)
          case atStart => exact ⟨0, by omega, rfl, rfl, hxr⟩
          case round =>
            obtain ⟨j, hj, rfl, hany, hxq⟩ := hrel
            by_cases hlt2 : j < i
            · obtain ⟨gz, oz, y, cz, hA, hy, rfl, hcz⟩ := l4.at2 mk_rep (by omega) (show j < n4 by omega)
              injection hA with hA
              injection hA with hA1 hA2
              subst hA1 hA2
              have s1 := hxq.cell (hcz 1 _ rfl)
              have t1 := hxq.cell a1
              have hlk := names_next hy hany.out
              unfold namesB at hlk
              obtain ⟨y1, y2, y3, y4⟩ := y
              simp only at s1 hlk
              have HLK := Lib.hid hlk
              clear hcz hy hlk
              by_cases he : y2 = x2
              · subst he
                have h1 : (R.take (j + 1)).any (namesB y2) = true := by have := HLK.out; rw [show decide (y2 = y2) = true by simp] at this; exact this
                obtain rfl : g2 = false := by rw [HST.out, names_up h1 (show j + 1 ≤ i by omega)]; rfl
                obtain rfl : false = t := by rw [← HT3.out]; rfl
                clear HLK hany HST HT3 h1
                go_wp2_with fail
                go_quiet (fail)
                go_wp2_with fail
                go_ret
                exact ⟨rfl, (gw4.trans hxq).drewNH _⟩
              · have heb : (y2.toList == x2.toList) = false := by
                  rw [beq_eq_false_iff_ne]
                  exact fun h => he (bytes_inj h)
                have HN : Hid ((R.take (j + 1)).any (namesB x2) = false) := by unfold Hid; have := HLK.out; rw [show decide (y2 = x2) = false by simp [he]] at this; exact this
                clear HLK hany he
                go_wp2_with fail
                go_quiet (fail)
                go_wp2_with fail
                go_roundw
                case rel => exact ⟨j + 1, by omega, by go_num, HN, hxq.drewNH _⟩
                case measure => simp [intOf]; omega
            · obtain rfl : j = i := by omega
              have HN : Hid (distF (R.take (j + 1)) (R.drop (j + 1)) = g2) := by unfold Hid; rw [HST.out, hany.out]; rfl
              clear HST hany
              go_wp2_with fail
              go_roundw
              case rel => exact ⟨j + 1, by omega, by go_num, HN, hxq⟩
              case measure => simp [intOf]; omega
        · obtain rfl : i = n4 := by omega
          have e3 := hdi.out
          rw [List.drop_of_length_le (by rw [l4.len]; exact Nat.le_refl _)] at e3
          obtain rfl : true = g2 := by rw [← e3]; rfl
          have HR2 : Hid (t = (true && (decide (i ≤ 8) && decide (hn ≤ 1)))) := HT3.out.symm
          clear HT3 hdi e3
          go_wp2_with fail
          all_goals (
            go_ret
            refine ⟨congrArg (fun z => Ending.returned (.bool z)) ?_, gw4.trans hxr⟩
            rw [HR2.out, Bool.eq_iff_iff]
            simp_all
            try omega)
end Go.Proofs.Ytoeknbogaclfdaa
