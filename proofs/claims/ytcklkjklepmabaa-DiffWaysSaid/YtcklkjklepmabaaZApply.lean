/-
  Images with snapshots: contract of the program's Apply.
-/
import Derived.Test.YtcklkjklepmabaaZCheck
import Derived.Test.YtcklkjklepmabaaZOwnSt
import Derived.Test.YtcklkjklepmabaaZCore
import Derived.Test.YtcklkjklepmabaaZSized
import Derived.Test.YtcklkjklepmabaaZDiffPlain
import Derived.Test.YtcklkjklepmabaaZStNew
namespace Go.Proofs.Ytcklkjklepmabaa
open Go.RowKit
set_option linter.unusedVariables false
set_option maxRecDepth 100000

/-- elements that lead into blocks from B on, but not into one -/
def atR (B G : Nat) (x : Ol) (cs : List Value) (w : World) : Prop := olR x cs w ∧ ∀ k, Pts cs k → B ≤ k ∧ k ≠ G
theorem at_rep (B G : Nat) : Rep 2 (atR B G) where
  len := fun x cs w h => ol_rep.len x cs w h.1
  one := fun x cs w h => ol_rep.one x cs w h.1
  keep := fun x cs w w' h hk => ⟨ol_rep.keep x cs w w' h.1 hk, h.2⟩
  lt := fun x cs w h => ol_rep.lt x cs w h.1
theorem OwnL.weak {α : Type} {size : Nat} {R R' : α → List Value → World → Prop} {e : TypeId} {w : World} {B : Nat} {A : Option Addr} {n c : Nat} {xs : List α} (h : OwnL e size R w B A n c xs) (hk : ∀ x cs, R x cs w → R' x cs w) : OwnL e size R' w B A n c xs := by
  obtain ⟨css, h1, h2, h3⟩ := h.own
  exact ⟨h.len, css, h1.weak hk, h2, h3⟩
theorem own_at {w : World} {B G : Nat} {A : Option Addr} {n c : Nat} {xs : List Ol} (h : OwnL TOl 2 (fromR olR B) w B A n c xs) (hG : w.heap.size ≤ G) : OwnL TOl 2 (atR B G) w B A n c xs :=
  h.weak fun x cs hr => ⟨hr.1, fun k hk => ⟨hr.2 k hk, by have := ol_rep.lt x cs w hr.1 k hk; omega⟩⟩
theorem findF_in : ∀ (xs : List Ol) (s : ByteArray) (k : Nat), findF xs s k = -1 ∨ ((k : Int) ≤ findF xs s k ∧ findF xs s k < k + xs.length)
  | [], s, k => .inl rfl
  | x :: xs, s, k => by
    rw [findF]
    simp only [List.length_cons]
    split
    · exact .inr ⟨Int.le_refl _, by omega⟩
    · rcases findF_in xs s (k + 1) with h | h
      · exact .inl h
      · exact .inr (by omega)
theorem find_at {st : St} {s : ByteArray} (h : ¬ findI st.sn s < 0) : ∃ p : Nat, findI st.sn s = (p : Int) ∧ p < st.sn.length := by
  unfold findI at h ⊢
  rcases findF_in st.sn s 0 with h1 | h1
  · omega
  · exact ⟨(findF st.sn s 0).toNat, by omega, by omega⟩
theorem frozen_but {H : Nat} {S : Nat → Prop} {a b : World} (h : But H S a b) {p : Addr} (hp : p.block < a.heap.size) (hH : p.block < H) (hS : ¬ S p.block) (hf : a.frozen? p = false) : b.frozen? p = false := by
  have e := h.block p.block hH hS hp
  unfold World.frozen? at hf ⊢
  rw [e]
  exact hf
theorem OwnL.keepBut {α : Type} {size : Nat} {R : α → List Value → World → Prop} {e : TypeId} {w w' : World} {B : Nat} {A : Option Addr} {n c : Nat} {xs : List α} (hR : Rep size R) (h : OwnL e size R w B A n c xs) {H : Nat} {S : Nat → Prop} (hb : But H S w w') (hH : w.heap.size ≤ H) (hrow : ∀ g, rowOf A c = some g → ¬ S g) (hp : ∀ x cs, R x cs w → ∀ k, Pts cs k → ¬ S k) : OwnL e size R w' B A n c xs := by
  have hlt := h.row_lt
  obtain ⟨css, h1, h2, h3⟩ := h.own
  exact ⟨h.len, css, h1.mono fun x cs _ hr => hR.keep _ _ _ _ hr fun k hk => by have := hR.lt _ _ _ hr k hk; exact hb.block k (by omega) (hp x cs hr k hk) this, h2.but hb fun g hg => ⟨by have := (hlt g hg).2; omega, hrow g hg⟩, h3⟩
theorem but_of_ext {wb w6 w7 : World} {S : Nat → Prop} (h16 : Ext wb w6) (h17 : Ext wb w7) (hs : w7.heap.size = w6.heap.size) (hk : ∀ k, ¬ S k → w7.heap[k]? = w6.heap[k]?) : But w6.heap.size S w6 w7 :=
  ⟨(Below.os h17).trans (Below.os h16).symm, (Below.tape h17).trans (Below.tape h16).symm, (Below.output h17).trans (Below.output h16).symm, by omega, fun k _ hS _ => hk k hS⟩
def ByT1 (B : Nat) (A : Option Addr) (n c : Nat) (l : List UInt8) : Ty := fun _ w => Byt U8 w B A n c l
theorem ByT1.keeps (B : Nat) (A : Option Addr) (n c : Nat) (l : List UInt8) : Keeps Ext (ByT1 B A n c l) := fun _ _ _ hx h => Byt.ext h hx
theorem feed_at {P : Program} {tx e' : TypeId} {w : World} {B G Bn Bo : Nat} {R' : Ol → List Value → World → Prop} {A : Option Addr} {n c : Nat} {xs : List Ol} (ho : OwnL TOl 2 R' w Bo A n c xs) (hrow : ∀ g, rowOf A c = some g → g < Bn) (hB : B ≤ Bn) (hG : G < Bn)
    {A2 : Option Addr} {m c2 : Nat} {ys : List Ol} (h : Lst 2 (fromR olR Bn) w A2 m c2 ys) (hk : P.underlying tx = some (.slice e')) : Feed P 2 (atR B G) w tx A c (.slice A2 m c2) m ys := by
  obtain ⟨h0, dss, h1, h2, h3⟩ := Feed.from (P := P) (tx := tx) (B0 := Bn) ol_rep ho hrow (Nat.le_refl _) h hk
  exact ⟨h0, dss, h1.weak fun x cs q => ⟨q.1, fun k hk => by have := q.2 k hk; omega⟩, h2, h3⟩
def OAq (B G m : Nat) (v0 v1 : Value) (xs : List Ol) : Ty := fun v w => ∃ A c, v = .slice A m c ∧ OwnL TOl 2 (atR B G) w B A m c xs ∧ rowOf A c ≠ some G ∧ w.cell? ⟨G, 0, none⟩ = some v0 ∧ w.cell? ⟨G, 1, none⟩ = some v1 ∧ (∀ q, w.frozen? ⟨G, q, none⟩ = false) ∧ G < w.heap.size
def OEq (B G m : Nat) (v0 : Value) (xs : List Ol) : Ty := fun _ w => ∃ A c, OwnL TOl 2 (atR B G) w B A m c xs ∧ w.cell? ⟨G, 0, none⟩ = some v0 ∧ w.cell? ⟨G, 1, none⟩ = some (.slice A m c)
theorem OAq.keeps (B G m : Nat) (v0 v1 : Value) (xs : List Ol) : Keeps Ext (OAq B G m v0 v1 xs) := fun _ _ _ hx ⟨A, c, e, h, hr, h0, h1, hf, hs⟩ => ⟨A, c, e, h.ext (at_rep _ _) hx, hr, hx.cell h0, hx.cell h1, fun q => frozen_ext hx hs (hf q), Nat.lt_of_lt_of_le hs hx.size⟩
theorem OEq.keeps (B G m : Nat) (v0 : Value) (xs : List Ol) : Keeps Ext (OEq B G m v0 xs) := fun _ _ _ hx ⟨A, c, h, h0, h1⟩ => ⟨A, c, h.ext (at_rep _ _) hx, hx.cell h0, hx.cell h1⟩
/-- an image in memory of its own, from a block on -/
structure StF (w : World) (B : Nat) (A : Option Addr) (n c : Nat) (A2 : Option Addr) (n2 c2 : Nat) (s : St) : Prop where
  data : Fsl w B A n c s.d
  snaps : Lst 2 (fromR olR B) w A2 n2 c2 s.sn
  row : ∀ ad, A2 = some ad → 0 < n2 → B ≤ ad.block
theorem StF.st {w : World} {B : Nat} {A : Option Addr} {n c : Nat} {A2 : Option Addr} {n2 c2 : Nat} {s : St} (h : StF w B A n c A2 n2 c2 s) : StR w A n c A2 n2 c2 s := ⟨h.data.sl, h.snaps.weak fun x cs q => q.1⟩
theorem StF.nil (w : World) (B : Nat) : StF w B none 0 0 none 0 0 ⟨[], []⟩ := ⟨Fsl.nil _ _, Lst.nil _, fun _ e => by cases e⟩
theorem OwnL.blockF {α : Type} {size : Nat} {R : α → List Value → World → Prop} {e : TypeId} {w : World} {B : Nat} {A : Option Addr} {n c : Nat} {xs : List α} (h : OwnL e size R w B A n c xs) (hn : 0 < n) : ∀ ad, A = some ad → B ≤ ad.block := by
  obtain ⟨css, _, h2, _⟩ := h.own
  intro ad e
  rcases h2 with ⟨_, h0, _⟩ | ⟨g, cur, hA, hB, _⟩
  · omega
  · rw [hA] at e
    injection e with e
    rw [← e]
    exact hB
def findN (st : St) (s : ByteArray) : Nat := (findI st.sn s).toNat
def applyS (st : St) (k o m : Int) (l : List UInt8) (s : ByteArray) : St :=
  if k = 1 then ⟨over st.d o.toNat l, st.sn⟩
  else if k = 2 ∨ k = 3 then ⟨over st.d o.toNat (List.replicate m.toNat 0), st.sn⟩
  else if k = 4 then ⟨sizedL st.d m.toNat, st.sn⟩
  else if k = 5 then ⟨st.d, st.sn ++ [⟨s, st.d⟩]⟩
  else if k = 6 then ⟨st.d, st.sn.take (findN st s) ++ st.sn.drop (findN st s + 1)⟩
  else if k = 7 then ⟨(st.sn.getD (findN st s) ⟨s, []⟩).d, st.sn⟩
  else st
def appliedS (r : Nat) (st : St) (k o m : Int) (l : List UInt8) (s : ByteArray) : St := if r = 0 then applyS st k o m l s else ⟨[], []⟩
theorem check_right {st : St} {k o m : Int} {n : Nat} {s : ByteArray} (h : checkN st k o m n s = 0) : rightE k o m n s = true := by
  cases hr : rightE k o m n s with
  | true => rfl
  | false => rw [check_wrong hr] at h; cases h
end Go.Proofs.Ytcklkjklepmabaa
