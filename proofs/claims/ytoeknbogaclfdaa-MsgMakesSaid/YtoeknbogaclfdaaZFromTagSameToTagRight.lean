/-
  Chains: contract of the reference's SameTags.
-/
/-
  Messages: their shape in memory.
-/
/-
  Chains: contracts of the reference's Begins, Compare.
-/
/-
  Chains: which may be: contracts of the program's tag and Right, of the reference RightChain.
-/
import Derived.Test.YtoeknbogaclfdaaZFromNmToTag
import Derived.Test.YtoeknbogaclfdaaZFromFrameTakeToInts
import Derived.Test.YtoeknbogaclfdaaZFromFlatToMkSame
import Derived.Test.YtoeknbogaclfdaaZSameEn
import Derived.Test.YtoeknbogaclfdaaZFromChainPlainToGet
import Derived.Test.YtoeknbogaclfdaaZCore
namespace Go.Proofs.Ytoeknbogaclfdaa
open Go.RowKit
set_option linter.unusedVariables false
set_option linter.unusedSimpArgs false
set_option linter.unnecessarySimpa false
set_option maxRecDepth 100000
def sameT (xs ys : List Tg) : Bool := decide (xs = ys)
theorem sameT_no {xs ys : List Tg} {k : Nat} {x y : Tg} (hx : xs[k]? = some x) (hy : ys[k]? = some y) (e : x ≠ y) : sameT xs ys = false := by
  unfold sameT
  rw [decide_eq_false_iff_not]
  rintro rfl
  rw [hx] at hy
  injection hy with hy
  exact e hy
theorem takeT_next {xs ys : List Tg} {k : Nat} {x : Tg} (h : xs.take k = ys.take k) (hx : xs[k]? = some x) (hy : ys[k]? = some x) : xs.take (k + 1) = ys.take (k + 1) := by
  rw [List.take_add_one, List.take_add_one, h, hx, hy]
set_option maxHeartbeats 1000000 in
theorem ref_SameTags {A : Option Addr} {n c : Nat} {xs : List Tg} {A' : Option Addr} {n' c' : Nat} {ys : List Tg} {w : World} (l1 : Lst 4 tgR w A n c xs) (l2 : Lst 4 tgR w A' n' c' ys) {b : Bool} (hb : Hid (sameT xs ys = b)) :
    Calls Try.prog 51 #[.slice A n c, .slice A' n' c'] w fun e w' => e = .returned (.bool b) ∧ Ext w w' := by
  have h63 := l1.n63
  have h63' := l2.n63
  by_cases hn : n = n'
  case neg =>
    have hne : b = false := by
      rw [← hb.out]
      unfold sameT
      rw [decide_eq_false_iff_not]
      rintro rfl
      exact hn (l1.len.symm.trans l2.len)
    subst hne
    have hnn : ((n : Int) != (n' : Int)) = true := by simp; omega
    clear hn hb
    go_enter Try.func51, Try.ntmps51
    go_wp2_with fail
    go_ret
    exact ⟨rfl, Ext.refl _⟩
  subst hn
  go_enter Try.func51, Try.ntmps51
  go_wp2_with fail
  go_loopw [5] (fun i wr => ∃ k : Nat, k ≤ n ∧ i = .int .i64 k ∧ Hid (xs.take k = ys.take k) ∧ Ext w wr) (fun i _ => n - (intOf i).toNat)
  case atStart => exact ⟨0, by omega, rfl, rfl, Ext.refl _⟩
  case round =>
    obtain ⟨k, hk, rfl, hrk, hxr⟩ := hrel
    by_cases hlt : k < n
    · obtain ⟨ga, oa, x, cs, rfl, hx, rfl, ha⟩ := l1.at2 tg_rep (by omega) hlt
      obtain ⟨gb, ob, y, ds, rfl, hy, rfl, hd⟩ := l2.at2 tg_rep (by omega) hlt
      have a0 : wr.cell? ⟨ga, oa + k * 4, none⟩ = _ := hxr.cell (ha 0 _ rfl)
      have a1 := hxr.cell (ha 1 _ rfl)
      have a2 := hxr.cell (ha 2 _ rfl)
      have a3 := hxr.cell (ha 3 _ rfl)
      have b0 : wr.cell? ⟨gb, ob + k * 4, none⟩ = _ := hxr.cell (hd 0 _ rfl)
      have b1 := hxr.cell (hd 1 _ rfl)
      have b2 := hxr.cell (hd 2 _ rfl)
      have b3 := hxr.cell (hd 3 _ rfl)
      clear ha hd
      by_cases e : x = y
      · subst e
        have hn := Lib.hid (takeT_next hrk.out hx hy)
        obtain ⟨x1, x2, x3, x4⟩ := x
        clear hx hy hrk
        go_wp2_with fail
        refine wp_region_typed Ext.steady rfl 26 rfl (by kernel_rfl) ?_
        apply Stage.step (Is _) [] (Is.keeps _) (by kernel_rfl)
        · intro w1 h1
          simp only [Given]
          go_wp2_with fail
          exact Post.isv (Ext.refl _) rfl rfl rfl
        apply Stage.step (Is _) [] (Is.keeps _) (by kernel_rfl)
        · intro w1 h1
          simp only [Given]
          go_wp2_with fail
          exact Post.isv (Ext.refl _) rfl rfl rfl
        apply Stage.step (Is _) [true, true] (Is.keeps _) (by kernel_rfl)
        · intro w1 h1
          simp only [List.nil_append, List.cons_append, Given]
          rintro _ rfl
          rintro _ rfl
          go_wp2_with fail
          exact Post.isv (Ext.refl _) rfl rfl rfl
        apply Stage.step (Is _) [false, false, true] (Is.keeps _) (by kernel_rfl)
        · intro w1 h1
          simp only [List.nil_append, List.cons_append, Given]
          rintro _ rfl
          have q0 := h1.cell a0
          have q1 := h1.cell a1
          have q2 := h1.cell a2
          have q3 := h1.cell a3
          go_wp2_with fail
          exact Post.isv (Ext.refl _) rfl rfl rfl
        apply Stage.step (Is _) [] (Is.keeps _) (by kernel_rfl)
        · intro w1 h1
          simp only [Given]
          go_wp2_with fail
          exact Post.isv (Ext.refl _) rfl rfl rfl
        apply Stage.step (Is _) [] (Is.keeps _) (by kernel_rfl)
        · intro w1 h1
          simp only [Given]
          go_wp2_with fail
          exact Post.isv (Ext.refl _) rfl rfl rfl
        apply Stage.step (Is _) [false, false, false, false, true, true] (Is.keeps _) (by kernel_rfl)
        · intro w1 h1
          simp only [List.nil_append, List.cons_append, Given]
          rintro _ rfl
          rintro _ rfl
          go_wp2_with fail
          exact Post.isv (Ext.refl _) rfl rfl rfl
        apply Stage.step (Is _) [false, false, false, false, false, false, true] (Is.keeps _) (by kernel_rfl)
        · intro w1 h1
          simp only [List.nil_append, List.cons_append, Given]
          rintro _ rfl
          have q0 := h1.cell b0
          have q1 := h1.cell b1
          have q2 := h1.cell b2
          have q3 := h1.cell b3
          go_wp2_with fail
          exact Post.isv (Ext.refl _) rfl rfl rfl
        apply Stage.step (Is (.bool false)) [false, false, false, true, false, false, false, true] (Is.keeps _) (by kernel_rfl)
        · intro w1 h1
          simp only [List.nil_append, List.cons_append, Given]
          rintro _ rfl
          rintro _ rfl
          go_wp2_with fail
          all_goals first | exact Post.isv (Ext.refl _) rfl rfl rfl | (exfalso; apply e; simp_all)
        apply Stage.nil
        intro w1 h1
        simp only [List.nil_append, List.cons_append]
        refine Fin.is_ ?_
        refine Fin.is_ ?_
        refine Fin.is_ ?_
        refine Fin.is_ ?_
        refine Fin.is_ ?_
        refine Fin.is_ ?_
        refine Fin.is_ ?_
        refine Fin.is_ ?_
        refine Fin.is_ ?_
        refine Fin.nil_ ?_
        go_simp
        go_wp2_with fail
        go_roundw
        case rel => exact ⟨k + 1, by omega, by go_num, hn, hxr.trans h1⟩
        case measure => simp [intOf]; omega
      · have hn := sameT_no hx hy e
        rw [hb.out] at hn
        subst hn
        obtain ⟨x1, x2, x3, x4⟩ := x
        obtain ⟨y1, y2, y3, y4⟩ := y
        clear hx hy hrk hb
        go_wp2_with fail
        refine wp_region_typed Ext.steady rfl 26 rfl (by kernel_rfl) ?_
        apply Stage.step (Is _) [] (Is.keeps _) (by kernel_rfl)
        · intro w1 h1
          simp only [Given]
          go_wp2_with fail
          exact Post.isv (Ext.refl _) rfl rfl rfl
        apply Stage.step (Is _) [] (Is.keeps _) (by kernel_rfl)
        · intro w1 h1
          simp only [Given]
          go_wp2_with fail
          exact Post.isv (Ext.refl _) rfl rfl rfl
        apply Stage.step (Is _) [true, true] (Is.keeps _) (by kernel_rfl)
        · intro w1 h1
          simp only [List.nil_append, List.cons_append, Given]
          rintro _ rfl
          rintro _ rfl
          go_wp2_with fail
          exact Post.isv (Ext.refl _) rfl rfl rfl
        apply Stage.step (Is _) [false, false, true] (Is.keeps _) (by kernel_rfl)
        · intro w1 h1
          simp only [List.nil_append, List.cons_append, Given]
          rintro _ rfl
          have q0 := h1.cell a0
          have q1 := h1.cell a1
          have q2 := h1.cell a2
          have q3 := h1.cell a3
          go_wp2_with fail
          exact Post.isv (Ext.refl _) rfl rfl rfl
        apply Stage.step (Is _) [] (Is.keeps _) (by kernel_rfl)
        · intro w1 h1
          simp only [Given]
          go_wp2_with fail
          exact Post.isv (Ext.refl _) rfl rfl rfl
        apply Stage.step (Is _) [] (Is.keeps _) (by kernel_rfl)
        · intro w1 h1
          simp only [Given]
          go_wp2_with fail
          exact Post.isv (Ext.refl _) rfl rfl rfl
        apply Stage.step (Is _) [false, false, false, false, true, true] (Is.keeps _) (by kernel_rfl)
        · intro w1 h1
          simp only [List.nil_append, List.cons_append, Given]
          rintro _ rfl
          rintro _ rfl
          go_wp2_with fail
          exact Post.isv (Ext.refl _) rfl rfl rfl
        apply Stage.step (Is _) [false, false, false, false, false, false, true] (Is.keeps _) (by kernel_rfl)
        · intro w1 h1
          simp only [List.nil_append, List.cons_append, Given]
          rintro _ rfl
          have q0 := h1.cell b0
          have q1 := h1.cell b1
          have q2 := h1.cell b2
          have q3 := h1.cell b3
          go_wp2_with fail
          exact Post.isv (Ext.refl _) rfl rfl rfl
        apply Stage.step (Is (.bool true)) [false, false, false, true, false, false, false, true] (Is.keeps _) (by kernel_rfl)
        · intro w1 h1
          simp only [List.nil_append, List.cons_append, Given]
          rintro _ rfl
          rintro _ rfl
          go_wp2_with fail
          all_goals first | exact Post.isv (Ext.refl _) rfl rfl rfl | (exfalso; apply e; simp_all)
        apply Stage.nil
        intro w1 h1
        simp only [List.nil_append, List.cons_append]
        refine Fin.is_ ?_
        refine Fin.is_ ?_
        refine Fin.is_ ?_
        refine Fin.is_ ?_
        refine Fin.is_ ?_
        refine Fin.is_ ?_
        refine Fin.is_ ?_
        refine Fin.is_ ?_
        refine Fin.is_ ?_
        refine Fin.nil_ ?_
        go_simp
        go_wp2_with fail
        go_ret
        exact ⟨rfl, hxr.trans h1⟩
    · have hn : b = true := by
        rw [← hb.out]
        unfold sameT
        rw [decide_eq_true_eq]
        have := hrk.out
        rwa [List.take_of_length_le (by rw [l1.len]; omega), List.take_of_length_le (by rw [l2.len]; omega)] at this
      subst hn
      clear hrk hb
      go_wp2_with fail
      go_ret
      exact ⟨rfl, hxr⟩
end Go.Proofs.Ytoeknbogaclfdaa

namespace Go.Proofs.Ytoeknbogaclfdaa
open Go.RowKit
set_option linter.unusedVariables false
set_option linter.unusedSimpArgs false
set_option linter.unnecessarySimpa false
set_option maxRecDepth 100000
abbrev TMs : TypeId := 29
abbrev msC (m : Ms) (A1 : Option Addr) (An1 Ac1 : Nat) (A2 : Option Addr) (An2 Ac2 : Nat) (A3 : Option Addr) (An3 Ac3 : Nat) (A4 : Option Addr) (An4 Ac4 : Nat) : Array Value := #[.int .i64 m.kind, .int .i64 m.nonce, .int .i64 m.pos, .int .i64 m.en, .int .i64 m.stage, .int .i64 m.num, .slice A1 An1 Ac1, .slice A2 An2 Ac2, .slice A3 An3 Ac3, .slice A4 An4 Ac4]
abbrev msV (m : Ms) (A1 : Option Addr) (An1 Ac1 : Nat) (A2 : Option Addr) (An2 Ac2 : Nat) (A3 : Option Addr) (An3 Ac3 : Nat) (A4 : Option Addr) (An4 Ac4 : Nat) : Value := .agg (msC m A1 An1 Ac1 A2 An2 Ac2 A3 An3 Ac3 A4 An4 Ac4)
structure MsR (w : World) (m : Ms) (A1 : Option Addr) (An1 Ac1 : Nat) (A2 : Option Addr) (An2 Ac2 : Nat) (A3 : Option Addr) (An3 Ac3 : Nat) (A4 : Option Addr) (An4 Ac4 : Nat) : Prop where
  ch : Lst 4 tgR w A1 An1 Ac1 m.chain
  en : Lst 3 enR w A2 An2 Ac2 m.ents
  ms : Lst 4 mkR w A3 An3 Ac3 m.marks
  da : Sl w A4 An4 Ac4 m.data
theorem MsR.ext {w w' : World} {m : Ms} {A1 : Option Addr} {An1 Ac1 : Nat} {A2 : Option Addr} {An2 Ac2 : Nat} {A3 : Option Addr} {An3 Ac3 : Nat} {A4 : Option Addr} {An4 Ac4 : Nat} (h : MsR w m A1 An1 Ac1 A2 An2 Ac2 A3 An3 Ac3 A4 An4 Ac4) (hx : Ext w w') : MsR w' m A1 An1 Ac1 A2 An2 Ac2 A3 An3 Ac3 A4 An4 Ac4 := ⟨h.ch.ext tg_rep hx, h.en.ext en_rep hx, h.ms.ext mk_rep hx, h.da.ext hx⟩
def ms0 : Ms := ⟨0, 0, 0, 0, 0, 0, [], [], [], []⟩
theorem MsR.nil (w : World) (k n p e s q : Int) : MsR w ⟨k, n, p, e, s, q, [], [], [], []⟩ none 0 0 none 0 0 none 0 0 none 0 0 := ⟨Lst.nil w, Lst.nil w, Lst.nil w, Sl.nil w⟩
theorem MsR.n63 {w : World} {m : Ms} {A1 : Option Addr} {An1 Ac1 : Nat} {A2 : Option Addr} {An2 Ac2 : Nat} {A3 : Option Addr} {An3 Ac3 : Nat} {A4 : Option Addr} {An4 Ac4 : Nat} (h : MsR w m A1 An1 Ac1 A2 An2 Ac2 A3 An3 Ac3 A4 An4 Ac4) : (An1 ≤ 9223372036854775807 ∧ Ac1 ≤ 9223372036854775807) ∧ (An2 ≤ 9223372036854775807 ∧ Ac2 ≤ 9223372036854775807) ∧ (An3 ≤ 9223372036854775807 ∧ Ac3 ≤ 9223372036854775807) ∧ (An4 ≤ 9223372036854775807 ∧ Ac4 ≤ 9223372036854775807) := ⟨h.ch.n63, h.en.n63, h.ms.n63, h.da.n63⟩
def sameMs (a b : Ms) : Bool := decide (a = b)
def Hi (B : Nat) (P : World → Prop) (w : World) : Prop := ∀ w', (∀ k, B ≤ k → k < w.heap.size → w'.heap[k]? = w.heap[k]?) → w.heap.size ≤ w'.heap.size → P w'
theorem Hi.out {B : Nat} {P : World → Prop} {w : World} (h : Hi B P w) : P w := h w (fun _ _ _ => rfl) (Nat.le_refl _)
theorem Hi.ext {B : Nat} {P : World → Prop} {w w' : World} (h : Hi B P w) (hx : Ext w w') : Hi B P w' := fun u hu hs => h u (fun k hk hl => (hu k hk (Nat.lt_of_lt_of_le hl hx.size)).trans (Below.block hx k hl)) (Nat.le_trans hx.size hs)
theorem Hi.set {B : Nat} {P : World → Prop} {w : World} (h : Hi B P w) {p : Addr} (hp : p.block < B) (u : Value) : Hi B P (w.setCell p u) := fun v hv hs => h v (fun k hk hl => (hv k hk (by simpa using hl)).trans (Below.heap_setCell _ _ _ _ (by omega))) (by simpa using hs)
theorem Hi.low {B B' : Nat} {P : World → Prop} {w : World} (h : Hi B P w) (hB : B' ≤ B) : Hi B' P w := fun u hu hs => h u (fun k hk hl => hu k (by omega) hl) hs
theorem Hi.mono {B : Nat} {P Q : World → Prop} {w : World} (h : Hi B P w) (hk : ∀ u, P u → Q u) : Hi B Q w := fun u hu hs => hk u (h u hu hs)
theorem Hi.and {B : Nat} {P Q : World → Prop} {w : World} (h : Hi B P w) (k : Hi B Q w) : Hi B (fun u => P u ∧ Q u) w := fun u hu hs => ⟨h u hu hs, k u hu hs⟩
theorem Hi.all {B : Nat} {P : World → Prop} {w : World} (h : ∀ u, P u) : Hi B P w := fun u _ _ => h u
theorem rd_hi {size n : Nat} {B : Nat} {A : Option Addr} {xs : List Value} {w : World} (h : Rd w size A n xs) (hA : ∀ ad, A = some ad → 0 < n → B ≤ ad.block ∧ ad.block < w.heap.size) : Hi B (fun u => Rd u size A n xs) w :=
  fun u hu hs => h.keepBlk fun ad e hn => hu _ (hA ad e hn).1 (hA ad e hn).2
theorem Fsl.hi {w : World} {B : Nat} {A : Option Addr} {n c : Nat} {l : List UInt8} (h : Fsl w B A n c l) : Hi B (fun u => Sl u A n c l) w :=
  fun u hu hs => h.sl.keepBlk fun ad e hn => hu _ (h.fr ad e hn) (h.sl.blk ad e hn)
theorem own_at {w : World} {e : TypeId} {size B : Nat} {A : Option Addr} {n c : Nat} {xs : List Value} (h : Own w B e size A n c xs) (hn : 0 < n) {ad : Addr} (hA : A = some ad) : B ≤ ad.block ∧ ad.block < w.heap.size := by
  rcases h with ⟨rfl, rfl, rfl⟩ | ⟨g, cur, rfl, hBg, hg, h1, _⟩
  · omega
  · injection hA with hA
    subst hA
    exact ⟨hBg, (Array.getElem?_eq_some_iff.1 hg).1⟩
theorem OwnL.hiFlat {α : Type} {size : Nat} {R : α → List Value → World → Prop} (hR : Rep size R) (hnp : ∀ (x : α) (cs : List Value) (w : World), R x cs w → ∀ k, ¬ Pts cs k) {e : TypeId} {w : World} {B : Nat} {A : Option Addr} {n c : Nat} {xs : List α} (h : OwnL e size R w B A n c xs) : Hi B (fun u => Lst size R u A n c xs) w := by
  obtain ⟨css, h1, h2, h3⟩ := h.own
  intro u hu hs
  refine ⟨h.len, h2.caps.1, h2.caps.2, css, h1.mono fun x cs hcs hr => hR.keep _ _ _ _ hr fun k hk => absurd hk (hnp _ _ _ hr k), ?_⟩
  exact rd_hi h2.rd (fun ad e hn => own_at h2 hn e) u hu hs
theorem Byt.hi {E : TypeId} {w : World} {B : Nat} {A : Option Addr} {n c : Nat} {l : List UInt8} (h : Byt E w B A n c l) : Hi B (fun u => Sl u A n c l) w := h.fsl.hi
def enRB (B : Nat) (x : En) (cs : List Value) (w : World) : Prop := enR x cs w ∧ ∀ k, Pts cs k → B ≤ k
theorem enRB_rep (B : Nat) : Rep 3 (enRB B) where
  len := fun x cs w h => en_rep.len x cs w h.1
  one := fun x cs w h => en_rep.one x cs w h.1
  keep := fun x cs w w' h hk => ⟨en_rep.keep x cs w w' h.1 hk, h.2⟩
  lt := fun x cs w h => en_rep.lt x cs w h.1
theorem OwnL.hiEn {B : Nat} {w : World} {A : Option Addr} {n c : Nat} {xs : List En} (h : OwnL TEn 3 (enRB B) w B A n c xs) : Hi B (fun u => Lst 3 enR u A n c xs) w := by
  obtain ⟨css, h1, h2, h3⟩ := h.own
  intro u hu hs
  have h4 : ∀ {zs : List En} {ess : List (List Value)}, All2 (enRB B) w zs ess → All2 enR u zs ess := by
    intro zs ess hz
    induction hz with
    | nil => exact .nil
    | cons hx t ih => exact .cons (en_rep.keep _ _ _ _ hx.1 fun k hk => hu k (hx.2 k hk) (en_rep.lt _ _ _ hx.1 k hk)) ih
  refine ⟨h.len, h2.caps.1, h2.caps.2, css, h4 h1, ?_⟩
  exact rd_hi h2.rd (fun ad e hn => own_at h2 hn e) u hu hs
end Go.Proofs.Ytoeknbogaclfdaa

namespace Go.Proofs.Ytoeknbogaclfdaa
open Go.RowKit
set_option linter.unusedVariables false
set_option linter.unusedSimpArgs false
set_option linter.unnecessarySimpa false
set_option maxRecDepth 100000
abbrev TTg : TypeId := 104
theorem info_tg : (Try.prog.info? TTg).map (fun i => (i.zero, i.size, i.bytes)) = some (some (.agg #[.int .i64 0, .int .i64 0, .int .i64 0, .int .i64 0]), 4, 32) := by kernel_rfl
theorem under_tgs : Try.prog.underlying 25 = some (.slice TTg) := by kernel_rfl
theorem cut_tg {w : World} {A : Option Addr} {n c : Nat} {l : List Tg} (h : Lst 4 tgR w A n c l) (m : Nat) (y : Int) (hy : y = (m : Int)) (hm : m ≤ n) :
    (∀ w', (Instr.slice 25 (.slice A n c) none (some (.int .i64 y)) none).run Try.prog w' = .ok (.slice A m c) w') := by
  subst hy
  have hcap := h.cap
  obtain ⟨i0, hi0, hz0, hz1, hz2⟩ := info_parts info_tg
  intro w'
  have e1 : ((m : Nat) : Int) ≤ (c : Int) := by omega
  have e5 : m ≤ c := by omega
  by_cases hc : c = 0
  · have e6 : m = 0 := by omega
    subst hc e6
    cases A <;> simp [Instr.slice, run_underlying under_tgs, Instr.sliceBounds, run_sliceBound, sizeOf, typeInfo, hi0, hz1]
  · cases A <;> simp [Instr.slice, run_underlying under_tgs, Instr.sliceBounds, run_sliceBound, sizeOf, typeInfo, hi0, hz1, e1, e5, hc, Ne.symm hc, Addr.add]
end Go.Proofs.Ytoeknbogaclfdaa

namespace Go.Proofs.Ytoeknbogaclfdaa
open Go.RowKit
set_option linter.unusedVariables false
set_option linter.unusedSimpArgs false
set_option linter.unnecessarySimpa false
set_option maxRecDepth 100000
abbrev tgV (x : Tg) : Value := .agg #[.int .i64 x.id, .int .i64 x.ow, .int .i64 x.he, .int .i64 x.pt]
theorem ids_next {xs : List Tg} {k : Nat} {x y : Tg} (hx : xs[k]? = some x) (h : ∀ z ∈ xs.take k, z.id ≠ y.id) (hne : x.id ≠ y.id) : ∀ z ∈ xs.take (k + 1), z.id ≠ y.id := by
  intro z hz
  rw [List.take_add_one, hx] at hz
  rcases List.mem_append.1 hz with hz | hz
  · exact h z hz
  · simp at hz
    exact hz ▸ hne
def tagP (x : Tg) (n : Nat) (d : Int) : Prop := d ≤ x.pt ∧ (n = 0 → x.pt = 0) ∧ 1 ≤ x.id ∧ x.id ≤ 1073741824 ∧ 0 ≤ x.ow ∧ x.ow ≤ 2 ∧ 0 ≤ x.he ∧ x.he ≤ 2 ∧ (x.ow = 0 ↔ 0 < x.he) ∧ x.pt ≤ 1099511627776
instance (x : Tg) (n : Nat) (d : Int) : Decidable (tagP x n d) := by unfold tagP; infer_instance
theorem tagB_of {x : Tg} {xs : List Tg} (h : ∀ z ∈ xs, z.id ≠ x.id) : tagB x xs = decide (tagP x xs.length (lastPt xs 0)) := by
  unfold tagB
  rw [decide_eq_decide]
  unfold tagP
  simp only [tgOk, decide_eq_true_eq]
  constructor
  · rintro ⟨_, h2, h3, h4⟩
    exact ⟨h2, h3, h4⟩
  · rintro ⟨h2, h3, h4⟩
    exact ⟨h, h2, h3, h4⟩
theorem tagB_no {x z : Tg} {xs : List Tg} (hz : z ∈ xs) (h : z.id = x.id) : tagB x xs = false := by
  unfold tagB
  simp only [decide_eq_false_iff_not]
  rintro ⟨h1, _⟩
  exact h1 z hz h
set_option maxHeartbeats 1000000 in
theorem chain_tag {x : Tg} {A : Option Addr} {n c : Nat} {xs : List Tg} {w : World} (l1 : Lst 4 tgR w A n c xs) {r : Bool} (hr : Hid (tagB x xs = r)) :
    Calls Try.prog 102 #[tgV x, .slice A n c] w fun e w' => e = .returned (.bool r) ∧ Ext w w' := by
  have h63 := l1.n63
  obtain ⟨x1, x2, x3, x4⟩ := x
  go_enter Try.func102, Try.ntmps102
  go_wp2_with fail
  obtain ⟨w1, hw1⟩ : ∃ q, q = w.alloc (.cells #[.int .i64 x1, .int .i64 x2, .int .i64 x3, .int .i64 x4] 104) := ⟨_, rfl⟩
  have hx1 : Ext w w1 := by rw [hw1]; exact Ext.alloc _ _
  have c0 : w1.cell? ⟨w.heap.size, 0, none⟩ = some (.int .i64 x1) := by rw [hw1]; exact cell_new _ _ _ 0
  have c1 : w1.cell? ⟨w.heap.size, 1, none⟩ = some (.int .i64 x2) := by rw [hw1]; exact cell_new _ _ _ 1
  have c2 : w1.cell? ⟨w.heap.size, 2, none⟩ = some (.int .i64 x3) := by rw [hw1]; exact cell_new _ _ _ 2
  have c3 : w1.cell? ⟨w.heap.size, 3, none⟩ = some (.int .i64 x4) := by rw [hw1]; exact cell_new _ _ _ 3
  rw [← hw1]
  clear hw1
  go_loopw [5, 10] (fun v i wr => ∃ (k : Nat) (d : Int), k ≤ n ∧ v = .int .i64 d ∧ i = .int .i64 k ∧ Hid (lastPt (xs.take k) 0 = d) ∧ Hid (∀ z ∈ xs.take k, z.id ≠ x1) ∧ Ext w1 wr) (fun _ i _ => n - (intOf i).toNat)
  case atStart => exact ⟨0, 0, by omega, rfl, rfl, rfl, by simp [Hid], Ext.refl _⟩
  case round =>
    obtain ⟨k, d, hk, rfl, rfl, hd, hids, hxr⟩ := hrel
    by_cases hlt : k < n
    · obtain ⟨ga, oa, y, cs, rfl, hx, rfl, ha⟩ := l1.at2 tg_rep (by omega) hlt
      have hn := lastPt_next hx 0
      have a0 : wr.cell? ⟨ga, oa + k * 4, none⟩ = _ := (hx1.trans hxr).cell (ha 0 _ rfl)
      have a1 := (hx1.trans hxr).cell (ha 1 _ rfl)
      have a2 := (hx1.trans hxr).cell (ha 2 _ rfl)
      have a3 := (hx1.trans hxr).cell (ha 3 _ rfl)
      have b0 : (wr.alloc (.cells #[.int .i64 y.id, .int .i64 y.ow, .int .i64 y.he, .int .i64 y.pt] 104)).cell? ⟨w.heap.size, 0, none⟩ = some (.int .i64 x1) := (hxr.allocs _).cell c0
      clear ha
      by_cases hne : y.id = x1
      · have hf := tagB_no (x := ⟨x1, x2, x3, x4⟩) (List.mem_of_getElem? hx) hne
        rw [hr.out] at hf
        subst hf
        obtain ⟨y1, y2, y3, y4⟩ := y
        simp only at hne a0 a1 a2 a3 b0
        subst hne
        clear hx hn hd hids
        go_wp2_with fail
        go_ret
        exact ⟨rfl, (hx1.trans hxr).allocs _⟩
      · have HI := Lib.hid (ids_next (y := ⟨x1, x2, x3, x4⟩) hx hids.out hne)
        have hnb : (y.id == x1) = false := by simpa using hne
        obtain ⟨y1, y2, y3, y4⟩ := y
        simp only at hnb a0 a1 a2 a3 b0 hn
        have HN := Lib.hid hn
        clear hx hn hd hids hne
        go_wp2_with fail
        go_roundw
        case rel => exact ⟨k + 1, y4, by omega, rfl, by go_num, HN, HI, hxr.allocs _⟩
        case measure => simp [intOf]; omega
    · obtain rfl : k = n := by omega
      have hd1 := hd.out
      have hi1 := hids.out
      rw [List.take_of_length_le (by rw [l1.len]; exact Nat.le_refl _)] at hd1 hi1
      have hr1 := hr.out
      rw [tagB_of (x := ⟨x1, x2, x3, x4⟩) hi1, hd1, l1.len] at hr1
      have HR := Lib.hid hr1.symm
      have d0 := hxr.cell c0
      have d1 := hxr.cell c1
      have d2 := hxr.cell c2
      have d3 := hxr.cell c3
      clear hd hids hd1 hi1 hr1 hr c0 c1 c2 c3
      go_wp2_with fail
      all_goals (
        go_ret
        refine ⟨congrArg (fun z => Ending.returned (.bool z)) ?_, hx1.trans hxr⟩
        rw [HR.out, Bool.eq_iff_iff]
        unfold tagP
        simp_all
        try omega)
theorem ok_next {xs : List Tg} {k : Nat} {x : Tg} (hx : xs[k]? = some x) : okAt xs k = tagB x (xs.take k) := by
  unfold okAt
  rw [getD_some hx]
theorem right_no {xs : List Tg} {k : Nat} {r : Bool} (hr : rightL xs = r) (hk : k < xs.length) (h : okAt xs k = false) : r = false := by
  rw [← hr]
  refine rightL_no fun hh => ?_
  have := hh.2.2 k hk
  rw [h] at this
  cases this
theorem right_yes {xs : List Tg} {r : Bool} (hr : rightL xs = r) (h1 : 1 ≤ xs.length) (h2 : xs.length ≤ 32) (h : ∀ i, i < xs.length → okAt xs i = true) : r = true := by
  rw [← hr]
  exact rightL_iff.2 ⟨h1, h2, h⟩
set_option maxHeartbeats 1000000 in
theorem chain_Right {A : Option Addr} {n c : Nat} {xs : List Tg} {w : World} (l1 : Lst 4 tgR w A n c xs) {r : Bool} (hr : Hid (rightL xs = r)) :
    Calls Try.prog 70 #[.slice A n c] w fun e w' => e = .returned (.bool r) ∧ Ext w w' := by
  have h63 := l1.n63
  have hlen := l1.len
  by_cases h0 : n < 1
  · obtain rfl : r = false := by rw [← hr.out]; exact rightL_no fun h => by have := h.1; omega
    go_enter Try.func70, Try.ntmps70
    go_wp2_with fail
    go_ret
    exact ⟨rfl, Ext.refl _⟩
  by_cases h32 : 32 < n
  · obtain rfl : r = false := by rw [← hr.out]; exact rightL_no fun h => by have := h.2.1; omega
    go_enter Try.func70, Try.ntmps70
    go_wp2_with fail
    go_ret
    exact ⟨rfl, Ext.refl _⟩
  have HLEN := Lib.hid hlen
  clear hlen
  go_enter Try.func70, Try.ntmps70
  go_wp2_with fail
  go_loopw [15] (fun i wr => ∃ k : Nat, k ≤ n ∧ i = .int .i64 k ∧ Hid (∀ i, i < k → okAt xs i = true) ∧ Ext w wr) (fun i _ => n - (intOf i).toNat)
  case atStart => exact ⟨0, by omega, rfl, fun i hi => by omega, Ext.refl _⟩
  case round =>
    obtain ⟨k, hk, rfl, hok, hxr⟩ := hrel
    by_cases hlt : k < n
    · have lk := l1.upto tg_rep (m := k) hk
      have hcut := cut_tg l1 k (k : Int) rfl hk
      obtain ⟨ga, oa, x, cs, rfl, hx, rfl, ha⟩ := l1.at2 tg_rep (by omega) hlt
      have a0 : wr.cell? ⟨ga, oa + k * 4, none⟩ = _ := hxr.cell (ha 0 _ rfl)
      have a1 := hxr.cell (ha 1 _ rfl)
      have a2 := hxr.cell (ha 2 _ rfl)
      have a3 := hxr.cell (ha 3 _ rfl)
      have hon := ok_next hx
      obtain ⟨o, ho⟩ : ∃ o, tagB x (xs.take k) = o := ⟨_, rfl⟩
      have HO := Lib.hid ho
      rw [ho] at hon
      obtain ⟨w2, hw2⟩ : ∃ q, q = wr.alloc (.cells #[.int .i64 x.id, .int .i64 x.ow, .int .i64 x.he, .int .i64 x.pt] 104) := ⟨_, rfl⟩
      obtain ⟨x1, x2, x3, x4⟩ := x
      simp only at a0 a1 a2 a3 hw2
      cases o with
      | false =>
        obtain rfl := right_no hr.out (by rw [HLEN.out]; exact hlt) hon
        clear hx ha ho hon hok hr
        go_wp2_with fail
        have b0 : w2.cell? ⟨wr.heap.size, 0, none⟩ = some (.int .i64 x1) := by rw [hw2]; exact cell_new _ _ _ 0
        have b1 : w2.cell? ⟨wr.heap.size, 1, none⟩ = some (.int .i64 x2) := by rw [hw2]; exact cell_new _ _ _ 1
        have b2 : w2.cell? ⟨wr.heap.size, 2, none⟩ = some (.int .i64 x3) := by rw [hw2]; exact cell_new _ _ _ 2
        have b3 : w2.cell? ⟨wr.heap.size, 3, none⟩ = some (.int .i64 x4) := by rw [hw2]; exact cell_new _ _ _ 3
        have hx2 : Ext w w2 := by rw [hw2]; exact hxr.allocs _
        rw [← hw2]
        clear hw2
        refine wp_region_typed Ext.steady rfl 27 rfl (by kernel_rfl) ?_
        apply Stage.step (Is (tgV ⟨x1, x2, x3, x4⟩)) [] (Is.keeps _) (by kernel_rfl)
        · intro w1 h1
          simp only [Given]
          have q0 := h1.cell b0
          have q1 := h1.cell b1
          have q2 := h1.cell b2
          have q3 := h1.cell b3
          go_wp2_with fail
          exact Post.isv (Ext.refl _) rfl rfl rfl
        apply Stage.step (Is _) [] (Is.keeps _) (by kernel_rfl)
        · intro w1 h1
          simp only [Given]
          go_wp2_with fail
          exact Post.isv (Ext.refl _) rfl rfl rfl
        apply Stage.step (Is _) [] (Is.keeps _) (by kernel_rfl)
        · intro w1 h1
          simp only [Given]
          go_wp2_with fail
          exact Post.isv (Ext.refl _) rfl rfl rfl
        apply Stage.step (Is (.slice (some ⟨ga, oa, none⟩) k c)) [false, true, true] (Is.keeps _) (by kernel_rfl)
        · intro w1 h1
          simp only [List.nil_append, List.cons_append, Given]
          rintro _ rfl
          rintro _ rfl
          go_wp2_with fail
          exact Post.isv (Ext.refl _) rfl rfl rfl
        apply Stage.step (Is (.bool false)) [true, false, false, true] (Is.keeps _) (by kernel_rfl)
        · intro w1 h1
          simp only [List.nil_append, List.cons_append, Given]
          rintro _ rfl
          rintro _ rfl
          go_wp2_with fail
          refine (chain_tag ((lk.ext tg_rep hx2).ext tg_rep h1) HO).mono ?_
          rintro e w2 ⟨rfl, hx3⟩
          go_wp2_with fail
          exact Post.isv hx3 rfl rfl rfl
        apply Stage.step (Is _) [false, false, false, false, true] (Is.keeps _) (by kernel_rfl)
        · intro w1 h1
          simp only [List.nil_append, List.cons_append, Given]
          rintro _ rfl
          go_wp2_with fail
          exact Post.isv (Ext.refl _) rfl rfl rfl
        apply Stage.nil
        intro w1 h1
        simp only [List.nil_append, List.cons_append]
        refine Fin.is_ ?_
        refine Fin.is_ ?_
        refine Fin.is_ ?_
        refine Fin.is_ ?_
        refine Fin.is_ ?_
        refine Fin.is_ ?_
        refine Fin.nil_ ?_
        go_simp
        go_wp2_with fail
        go_ret
        exact ⟨rfl, hx2.trans h1⟩
      | true =>
        have HN : Hid (∀ i, i < k + 1 → okAt xs i = true) := fun i hi => by
          by_cases e : i = k
          · rw [e, hon]
          · exact hok.out i (by omega)
        clear hx ha ho hon hok
        go_wp2_with fail
        have b0 : w2.cell? ⟨wr.heap.size, 0, none⟩ = some (.int .i64 x1) := by rw [hw2]; exact cell_new _ _ _ 0
        have b1 : w2.cell? ⟨wr.heap.size, 1, none⟩ = some (.int .i64 x2) := by rw [hw2]; exact cell_new _ _ _ 1
        have b2 : w2.cell? ⟨wr.heap.size, 2, none⟩ = some (.int .i64 x3) := by rw [hw2]; exact cell_new _ _ _ 2
        have b3 : w2.cell? ⟨wr.heap.size, 3, none⟩ = some (.int .i64 x4) := by rw [hw2]; exact cell_new _ _ _ 3
        have hx2 : Ext w w2 := by rw [hw2]; exact hxr.allocs _
        rw [← hw2]
        clear hw2
        refine wp_region_typed Ext.steady rfl 27 rfl (by kernel_rfl) ?_
        apply Stage.step (Is (tgV ⟨x1, x2, x3, x4⟩)) [] (Is.keeps _) (by kernel_rfl)
        · intro w1 h1
          simp only [Given]
          have q0 := h1.cell b0
          have q1 := h1.cell b1
          have q2 := h1.cell b2
          have q3 := h1.cell b3
          go_wp2_with fail
          exact Post.isv (Ext.refl _) rfl rfl rfl
        apply Stage.step (Is _) [] (Is.keeps _) (by kernel_rfl)
        · intro w1 h1
          simp only [Given]
          go_wp2_with fail
          exact Post.isv (Ext.refl _) rfl rfl rfl
        apply Stage.step (Is _) [] (Is.keeps _) (by kernel_rfl)
        · intro w1 h1
          simp only [Given]
          go_wp2_with fail
          exact Post.isv (Ext.refl _) rfl rfl rfl
        apply Stage.step (Is (.slice (some ⟨ga, oa, none⟩) k c)) [false, true, true] (Is.keeps _) (by kernel_rfl)
        · intro w1 h1
          simp only [List.nil_append, List.cons_append, Given]
          rintro _ rfl
          rintro _ rfl
          go_wp2_with fail
          exact Post.isv (Ext.refl _) rfl rfl rfl
        apply Stage.step (Is (.bool true)) [true, false, false, true] (Is.keeps _) (by kernel_rfl)
        · intro w1 h1
          simp only [List.nil_append, List.cons_append, Given]
          rintro _ rfl
          rintro _ rfl
          go_wp2_with fail
          refine (chain_tag ((lk.ext tg_rep hx2).ext tg_rep h1) HO).mono ?_
          rintro e w2 ⟨rfl, hx3⟩
          go_wp2_with fail
          exact Post.isv hx3 rfl rfl rfl
        apply Stage.step (Is _) [false, false, false, false, true] (Is.keeps _) (by kernel_rfl)
        · intro w1 h1
          simp only [List.nil_append, List.cons_append, Given]
          rintro _ rfl
          go_wp2_with fail
          exact Post.isv (Ext.refl _) rfl rfl rfl
        apply Stage.nil
        intro w1 h1
        simp only [List.nil_append, List.cons_append]
        refine Fin.is_ ?_
        refine Fin.is_ ?_
        refine Fin.is_ ?_
        refine Fin.is_ ?_
        refine Fin.is_ ?_
        refine Fin.is_ ?_
        refine Fin.nil_ ?_
        go_simp
        go_wp2_with fail
        go_roundw
        case rel => exact ⟨k + 1, by omega, by go_num, HN, hx2.trans h1⟩
        case measure => simp [intOf]; omega
    · obtain rfl : k = n := by omega
      obtain rfl := right_yes hr.out (by rw [HLEN.out]; omega) (by rw [HLEN.out]; omega) (by rw [HLEN.out]; exact hok.out)
      clear hok hr
      go_wp2_with fail
      go_ret
      exact ⟨rfl, hxr⟩
end Go.Proofs.Ytoeknbogaclfdaa
