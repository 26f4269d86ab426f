/-
  Slices of bytes in memory that a call made: they read as a list, and lie at or behind a heap bound. Nothing here names a program.
-/
import Derived.Test.YtcchlkialgjamaaBut
namespace Go.Proofs.Ytcchlkialgjamaa
open Go.RowKit
set_option linter.unusedVariables false

theorem Rd.keepBlk {w w' : World} {size n : Nat} {A : Option Addr} {xs : List Value} (h : Rd w size A n xs) (hk : ∀ ad, A = some ad → 0 < n → w'.heap[ad.block]? = w.heap[ad.block]?) : Rd w' size A n xs :=
  ⟨h.1, fun hn => by
    obtain ⟨ad, e, hc⟩ := h.2 hn
    refine ⟨ad, e, fun j u hu => ?_⟩
    rw [← hc j u hu]
    exact World.cell?_of_block (by rw [block_of_add]; exact hk ad e hn)⟩
theorem Sl.keepBlk {w w' : World} {A : Option Addr} {n c : Nat} {l : List UInt8} (h : Sl w A n c l) (hk : ∀ ad, A = some ad → 0 < n → w'.heap[ad.block]? = w.heap[ad.block]?) : Sl w' A n c l := ⟨h.len, h.cap, h.max, h.rd.keepBlk hk⟩
theorem Sl.blk {w : World} {A : Option Addr} {n c : Nat} {l : List UInt8} (h : Sl w A n c l) : ∀ ad, A = some ad → 0 < n → ad.block < w.heap.size := by
  intro ad e hn
  obtain ⟨ad', e', hc⟩ := h.at_ (k := 0) hn
  rw [e] at e'
  injection e' with e'
  subst e'
  have := World.block_lt_of_cell? _ _ hc
  rwa [block_of_add] at this
structure Fsl (w : World) (B : Nat) (A : Option Addr) (n c : Nat) (l : List UInt8) : Prop where
  sl : Sl w A n c l
  fr : ∀ ad, A = some ad → 0 < n → B ≤ ad.block
theorem Fsl.ext {w w' : World} {B : Nat} {A : Option Addr} {n c : Nat} {l : List UInt8} (h : Fsl w B A n c l) (hk : Ext w w') : Fsl w' B A n c l := ⟨h.sl.ext hk, h.fr⟩
theorem Fsl.low {w : World} {B B' : Nat} {A : Option Addr} {n c : Nat} {l : List UInt8} (h : Fsl w B A n c l) (hB : B' ≤ B) : Fsl w B' A n c l := ⟨h.sl, fun ad e hn => Nat.le_trans hB (h.fr ad e hn)⟩
theorem Fsl.nil (w : World) (B : Nat) : Fsl w B none 0 0 [] := ⟨Sl.nil w, fun _ e => by cases e⟩
theorem Fsl.sets {w : World} {B : Nat} {A : Option Addr} {n c : Nat} {l : List UInt8} (h : Fsl w B A n c l) {p : Addr} (hp : p.block < B) (u : Value) : Fsl (w.setCell p u) B A n c l :=
  ⟨h.sl.keepBlk fun ad e hn => Below.heap_setCell _ _ _ _ (by have := h.fr ad e hn; omega), h.fr⟩
theorem Byt.fsl {E : TypeId} {w : World} {B : Nat} {A : Option Addr} {n c : Nat} {l : List UInt8} (h : Byt E w B A n c l) : Fsl w B A n c l := by
  refine ⟨h.sl, fun ad e hn => ?_⟩
  obtain ⟨g, hA, hB, _⟩ := h.open_ hn
  rw [e] at hA
  injection hA with hA
  subst hA
  exact hB
theorem Fsl.cut {w : World} {B : Nat} {A : Option Addr} {n c : Nat} {l : List UInt8} (h : Fsl w B A n c l) {A1 : Option Addr} {m c1 : Nat} {l1 : List UInt8} (h1 : Sl w A1 m c1 l1) (hA : ∀ ad, A1 = some ad → 0 < m → ∃ ad', A = some ad' ∧ 0 < n ∧ ad'.block = ad.block) : Fsl w B A1 m c1 l1 :=
  ⟨h1, fun ad e hm => by obtain ⟨ad', e', hn, hb⟩ := hA ad e hm; rw [← hb]; exact h.fr ad' e' hn⟩
end Go.Proofs.Ytcchlkialgjamaa
