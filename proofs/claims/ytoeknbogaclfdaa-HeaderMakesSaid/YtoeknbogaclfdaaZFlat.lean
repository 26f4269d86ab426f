/-
  Rows of elements that lead nowhere (integers, tags): append onto a row of the call's own.
-/
import Derived.Test.YtoeknbogaclfdaaZInts
import Derived.Test.YtoeknbogaclfdaaZCore
namespace Go.Proofs.Ytoeknbogaclfdaa
open Go.RowKit
set_option linter.unusedVariables false
set_option linter.unusedSimpArgs false
set_option linter.unnecessarySimpa false
set_option maxRecDepth 100000

theorem int_no_pts {x : Int} {cs : List Value} {w : World} (h : intR x cs w) : ∀ k, ¬ Pts cs k := by
  rintro k ⟨ad, m, c', hm, _⟩
  rw [h] at hm
  simp at hm
theorem All2.mem {α : Type} {R : α → List Value → World → Prop} {w : World} : ∀ {xs : List α} {css : List (List Value)}, All2 R w xs css → ∀ cs ∈ css, ∃ x, R x cs w
  | _, _, .nil, cs, h => by simp at h
  | _, _, @All2.cons _ _ _ y ds ys dss h t, cs, hm => by
    rcases List.mem_cons.1 hm with rfl | hm
    · exact ⟨_, h⟩
    · exact t.mem cs hm
theorem wpList_append_flat2 {P : Program} {α : Type} {size : Nat} {R : α → List Value → World → Prop} (hR : Rep size R) (hnp : ∀ (x : α) (cs : List Value) (w : World), R x cs w → ∀ k, ¬ Pts cs k)
    {ops : Array Oper} {rest : List Oper} {o : Oper} {a : Act} {Q : Exit → Act → World → Prop} {w w0 : World} (hgd : o.guard = none) (s y : Operand) (t tx : TypeId)
    (ho : o.op = .call { callee := .builtin .append, args := #[s, y], argTypes := #[t, tx] })
    (e e' : TypeId) (i : TypeInfo) (z : Value) (bytes : Nat) (ht : P.underlying t = some (.slice e)) (htx : P.underlying tx = some (.slice e')) (hi : P.info? e = some i) (hz : i.zero = some z)
    (hsize : i.size = size) (hby : i.bytes = bytes) (hzs : z.cells.size = size)
    (A : Option Addr) (n c : Nat) (xs : List α) (hsv : a.eval s = .slice A n c) (hown : OwnL e size R w w0.heap.size A n c xs) (A2 : Option Addr) (m c2 : Nat) (ys : List α) (hy : a.eval y = .slice A2 m c2) (hl : Lst size R w A2 m c2 ys)
    (N : Nat) (hN : n + m = N) (zs : List α) (hzs' : xs ++ ys = zs) (h63 : N ≤ maxLen) (hbytes : N * bytes ≤ 140737488355328) (hx : Ext w0 w)
    (h : ∀ A' c' w', OwnL e size R w' w0.heap.size A' N c' zs → Ext w0 w' → w.grownBy w' (rowOf A c) → wpList P ops Q rest (a.put o.dst (.slice A' N c')) w') : wpList P ops Q (o :: rest) a w := by
  subst hN hzs'
  obtain ⟨css, ha, ho1, hp⟩ := hown.own
  obtain ⟨dss, hb, hsrc⟩ := hl.src (P := P) hR htx
  refine wpList_append_mine _ hgd s y t tx ho w0.heap.size e i z size bytes ht hi hz hsize hby hzs A n c _ hsv ho1 _ hy m _ hsrc h63 hbytes hx.size ?_
  intro A3 c3 w3 hown3 hg3 hr3
  refine h A3 c3 w3 ?_ (below_grown hx ho1 hg3 hx.size) hg3
  refine OwnL.more hR hown.len hl.len ha hp hb (fun cs hcs k hk => ?_) hown3 hg3 hr3
  obtain ⟨x, hr⟩ := hb.mem cs hcs
  exact absurd hk (hnp _ _ _ hr k)
theorem wpList_append_flat {P : Program} {α : Type} {size : Nat} {R : α → List Value → World → Prop} (hR : Rep size R) (hnp : ∀ (x : α) (cs : List Value) (w : World), R x cs w → ∀ k, ¬ Pts cs k)
    {ops : Array Oper} {rest : List Oper} {o : Oper} {a : Act} {Q : Exit → Act → World → Prop} {w w0 : World} (hgd : o.guard = none) (s y : Operand) (t tx : TypeId)
    (ho : o.op = .call { callee := .builtin .append, args := #[s, y], argTypes := #[t, tx] })
    (e e' : TypeId) (i : TypeInfo) (z : Value) (bytes : Nat) (ht : P.underlying t = some (.slice e)) (htx : P.underlying tx = some (.slice e')) (hi : P.info? e = some i) (hz : i.zero = some z)
    (hsize : i.size = size) (hby : i.bytes = bytes) (hzs : z.cells.size = size)
    (A : Option Addr) (n c : Nat) (xs : List α) (hsv : a.eval s = .slice A n c) (hown : OwnL e size R w w0.heap.size A n c xs) (A2 : Option Addr) (m c2 : Nat) (ys : List α) (hy : a.eval y = .slice A2 m c2) (hl : Lst size R w A2 m c2 ys)
    (N : Nat) (hN : n + m = N) (zs : List α) (hzs' : xs ++ ys = zs) (h63 : N ≤ maxLen) (hbytes : N * bytes ≤ 140737488355328) (hx : Ext w0 w)
    (h : ∀ A' c' w', OwnL e size R w' w0.heap.size A' N c' zs → Ext w0 w' → wpList P ops Q rest (a.put o.dst (.slice A' N c')) w') : wpList P ops Q (o :: rest) a w :=
  wpList_append_flat2 hR hnp hgd s y t tx ho e e' i z bytes ht htx hi hz hsize hby hzs A n c xs hsv hown A2 m c2 ys hy hl N hN zs hzs' h63 hbytes hx fun A' c' w' h1 h2 _ => h A' c' w' h1 h2
end Go.Proofs.Ytoeknbogaclfdaa
