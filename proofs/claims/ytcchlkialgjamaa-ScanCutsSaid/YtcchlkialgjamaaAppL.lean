/-
  Rows of elements that may lead somewhere (entries, events, rows of bytes): append onto a row of the call's own; an entry in a box as a row of one.
-/
import Derived.Test.YtcchlkialgjamaaLst
import Derived.Test.YtcchlkialgjamaaCell
import Derived.Laws.MakeOwn
namespace Go.Proofs.Ytcchlkialgjamaa
open Go.RowKit
set_option linter.unusedVariables false
set_option linter.unusedSimpArgs false
set_option linter.unnecessarySimpa false
set_option maxRecDepth 100000

/-- what an append takes: elements that don't lead into the row that grows -/
def Feed (P : Program) {α : Type} (size : Nat) (R : α → List Value → World → Prop) (w : World) (tx : TypeId) (A : Option Addr) (c : Nat) (Y : Value) (m : Nat) (ys : List α) : Prop :=
  ys.length = m ∧ ∃ dss, All2 R w ys dss ∧ Src P size tx Y m dss.flatten w ∧ ∀ cs ∈ dss, ∀ k, Pts cs k → rowOf A c ≠ some k
theorem Feed.old {P : Program} {α : Type} {size : Nat} {R : α → List Value → World → Prop} (hR : Rep size R) {w0 w : World} {e tx e' : TypeId} {A : Option Addr} {n c : Nat} {xs : List α} (ho : OwnL e size R w w0.heap.size A n c xs)
    {A2 : Option Addr} {m c2 : Nat} {ys : List α} (h : Lst size R w0 A2 m c2 ys) (hx : Ext w0 w) (hk : P.underlying tx = some (.slice e')) : Feed P size R w tx A c (.slice A2 m c2) m ys := by
  refine ⟨h.len, ?_⟩
  obtain ⟨dss, h1, h2⟩ := h.rd
  have h1' := h1.mono (w' := w) fun x cs _ hr => hR.keep _ _ _ _ hr fun k hp => Below.block hx k (hR.lt _ _ _ hr k hp)
  refine ⟨dss, h1', (h2.ext hx).src c2 hk (h1.one hR), fun cs hcs k hk e => ?_⟩
  have hlt : ∀ {zs : List α} {ess : List (List Value)}, All2 R w0 zs ess → ∀ cs ∈ ess, ∀ k, Pts cs k → k < w0.heap.size := by
    intro zs ess hz
    induction hz with
    | nil => intro cs hc; simp at hc
    | cons h t ih =>
      intro cs hc k hk
      rcases List.mem_cons.1 hc with rfl | hc
      · exact hR.lt _ _ _ h k hk
      · exact ih cs hc k hk
  have h3 := hlt h1 cs hcs k hk
  have h4 := (ho.row_lt k e).1
  omega
theorem wpList_append_lst2 {P : Program} {α : Type} {size : Nat} {R : α → List Value → World → Prop} (hR : Rep size R)
    {ops : Array Oper} {rest : List Oper} {o : Oper} {a : Act} {Q : Exit → Act → World → Prop} {w w0 : World} (hgd : o.guard = none) (s y : Operand) (t tx : TypeId)
    (ho : o.op = .call { callee := .builtin .append, args := #[s, y], argTypes := #[t, tx] })
    (e : TypeId) (i : TypeInfo) (z : Value) (bytes : Nat) (ht : P.underlying t = some (.slice e)) (hi : P.info? e = some i) (hz : i.zero = some z)
    (hsize : i.size = size) (hby : i.bytes = bytes) (hzs : z.cells.size = size)
    (A : Option Addr) (n c : Nat) (xs : List α) (hsv : a.eval s = .slice A n c) (hown : OwnL e size R w w0.heap.size A n c xs) (Y : Value) (m : Nat) (ys : List α) (hy : a.eval y = Y) (hl : Feed P size R w tx A c Y m ys)
    (N : Nat) (hN : n + m = N) (zs : List α) (hzs' : xs ++ ys = zs) (h63 : N ≤ maxLen) (hbytes : N * bytes ≤ 140737488355328) (hx : Ext w0 w)
    (h : ∀ A' c' w', OwnL e size R w' w0.heap.size A' N c' zs → Ext w0 w' → w.grownBy w' (rowOf A c) → wpList P ops Q rest (a.put o.dst (.slice A' N c')) w') : wpList P ops Q (o :: rest) a w := by
  subst hN hzs'
  obtain ⟨css, ha, ho1, hp⟩ := hown.own
  obtain ⟨hlen, dss, hb, hsrc, hk⟩ := hl
  refine wpList_append_mine _ hgd s y t tx ho w0.heap.size e i z size bytes ht hi hz hsize hby hzs A n c _ hsv ho1 _ hy m _ hsrc h63 hbytes hx.size ?_
  intro A3 c3 w3 hown3 hg3 hr3
  exact h A3 c3 w3 (OwnL.more hR hown.len hlen ha hp hb hk hown3 hg3 hr3) (below_grown hx ho1 hg3 hx.size) hg3
theorem wpList_append_lst {P : Program} {α : Type} {size : Nat} {R : α → List Value → World → Prop} (hR : Rep size R)
    {ops : Array Oper} {rest : List Oper} {o : Oper} {a : Act} {Q : Exit → Act → World → Prop} {w w0 : World} (hgd : o.guard = none) (s y : Operand) (t tx : TypeId)
    (ho : o.op = .call { callee := .builtin .append, args := #[s, y], argTypes := #[t, tx] })
    (e : TypeId) (i : TypeInfo) (z : Value) (bytes : Nat) (ht : P.underlying t = some (.slice e)) (hi : P.info? e = some i) (hz : i.zero = some z)
    (hsize : i.size = size) (hby : i.bytes = bytes) (hzs : z.cells.size = size)
    (A : Option Addr) (n c : Nat) (xs : List α) (hsv : a.eval s = .slice A n c) (hown : OwnL e size R w w0.heap.size A n c xs) (Y : Value) (m : Nat) (ys : List α) (hy : a.eval y = Y) (hl : Feed P size R w tx A c Y m ys)
    (N : Nat) (hN : n + m = N) (zs : List α) (hzs' : xs ++ ys = zs) (h63 : N ≤ maxLen) (hbytes : N * bytes ≤ 140737488355328) (hx : Ext w0 w)
    (h : ∀ A' c' w', OwnL e size R w' w0.heap.size A' N c' zs → Ext w0 w' → wpList P ops Q rest (a.put o.dst (.slice A' N c')) w') : wpList P ops Q (o :: rest) a w :=
  wpList_append_lst2 hR hgd s y t tx ho e i z bytes ht hi hz hsize hby hzs A n c xs hsv hown Y m ys hy hl N hN zs hzs' h63 hbytes hx fun A' c' w' h1 h2 _ => h A' c' w' h1 h2
/-- a literal of one element in a new block -/
theorem Feed.lit {P : Program} {α : Type} {size : Nat} {R : α → List Value → World → Prop} (hR : Rep size R) {w : World} {e tx e' : TypeId} {A : Option Addr} {c : Nat} (C : Array Value) (x : α)
    (hr : R x C.toList w) (hk : P.underlying tx = some (.slice e')) (hp : ∀ k, Pts C.toList k → rowOf A c ≠ some k) {g : Nat} (hg : g = w.heap.size) : Feed P size R (w.alloc (.cells C e)) tx A c (.slice (some ⟨g, 0, none⟩) 1 1) 1 [x] := by
  subst hg
  refine ⟨rfl, [C.toList], .cons (hR.keep _ _ _ _ hr fun k hk => Below.block (Ext.alloc w _) k (hR.lt _ _ _ hr k hk)) .nil, ?_, fun cs hcs k hk => ?_⟩
  · have := src_cells (P := P) (w := w) (e := e) hk C (by have := hR.len _ _ _ hr; simpa using this) (by intro u hu; exact hR.one _ _ _ hr u hu)
    simpa using this
  · simp at hcs; subst hcs; exact hp k hk
theorem pts_enA {t s : Int} {A : Option Addr} {n c k : Nat} (h : Pts [.int .i64 t, .int .i64 s, .slice A n c] k) : ∃ ad, A = some ad ∧ 0 < n ∧ ad.block = k :=
  pts_slice h (by intro ad m c' hm; simp at hm; exact ⟨hm.1.symm, hm.2.1⟩)
end Go.Proofs.Ytcchlkialgjamaa
