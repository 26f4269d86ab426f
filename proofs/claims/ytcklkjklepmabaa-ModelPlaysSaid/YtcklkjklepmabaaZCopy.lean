/-
  copy into a row of bytes of the call's own. Nothing here names a program.
-/
import Derived.Test.YtcklkjklepmabaaZCore
import Derived.Laws.CopyOwn
namespace Go.Proofs.Ytcklkjklepmabaa
open Go.RowKit
set_option linter.unusedVariables false

/-- bytes laid over others from a place on -/
def over (l : List UInt8) (off : Nat) (r : List UInt8) : List UInt8 := l.take off ++ (r ++ l.drop (off + r.length))
theorem over_length {l r : List UInt8} {off : Nat} (h : off + r.length ≤ l.length) : (over l off r).length = l.length := by simp [over]; omega
theorem splice_append {α : Type} (M N : List α) (off : Nat) (cs : List α) (h : off + cs.length ≤ M.length) : splice (M ++ N) off cs = splice M off cs ++ N := by
  unfold splice
  rw [List.take_append_of_le_length (by omega), List.drop_append_of_le_length h, List.append_assoc, List.append_assoc]
theorem splice_take {α : Type} (L : List α) (n off : Nat) (cs : List α) (h : off + cs.length ≤ n) (hn : n ≤ L.length) : (splice L off cs).take n = splice (L.take n) off cs := by
  conv => lhs; rw [← List.take_append_drop n L, splice_append _ _ _ _ (by rw [List.length_take]; omega)]
  rw [List.take_append_of_le_length (by rw [length_splice _ _ _ (by rw [List.length_take]; omega), List.length_take]; omega)]
  exact List.take_of_length_le (by rw [length_splice _ _ _ (by rw [List.length_take]; omega), List.length_take]; omega)
theorem splice_map (l : List UInt8) (off : Nat) (r : List UInt8) : splice (l.map bv) off (r.map bv) = (over l off r).map bv := by
  unfold splice over
  simp
theorem wpList_copy_byt {P : Program} {w w0 : World} {ops : Array Oper} {rest : List Oper} {o : Oper} {a : Act} {Q : Exit → Act → World → Prop} (hgd : o.guard = none) (d s : Operand) (dT sT : TypeId)
    (ho : o.op = .call { callee := .builtin .copy, args := #[d, s], argTypes := #[dT, sT] }) (elem : TypeId) (hu : P.underlying dT = some (.slice elem)) (hsz : (P.info? elem).map (·.size) = some 1)
    (A : Option Addr) (n c : Nat) (l : List UInt8) (off : Nat) (dp : Option Addr) (dLen dCap : Nat) (hd : a.eval d = .slice dp dLen dCap) (hown : Byt elem w w0.heap.size A n c l) (hoff : off + dLen = n) (hdp : 0 < dLen → dp = A.map (·.add off))
    (A2 : Option Addr) (n2 c2 : Nat) (l2 : List UInt8) (hs : a.eval s = .slice A2 n2 c2) (hsl : Sl w A2 n2 c2 l2) (hx : Ext w0 w)
    (h : ∀ w', Byt elem w' w0.heap.size A n c (over l off (l2.take dLen)) → Ext w0 w' → w'.heap.size = w.heap.size → (∀ k, rowOf A c ≠ some k → w'.heap[k]? = w.heap[k]?) → wpList P ops Q rest (a.put o.dst (goInt (Nat.min n2 dLen))) w') : wpList P ops Q (o :: rest) a w := by
  have hl := hown.len
  have hl2 := hsl.len
  have hz : ∀ {m : Nat}, m = 0 → l2.take m = [] := fun h => by rw [h]; rfl
  by_cases h0 : Nat.min n2 dLen = 0
  · have hno : l2.take dLen = [] := by
      apply List.eq_nil_of_length_eq_zero
      rw [List.length_take, hl2, Nat.min_comm]
      exact h0
    refine wpList_copy_nothing hgd d s dT sT ho elem hu hsz dp A2 dLen dCap n2 c2 hd hs h0 ?_
    have := h w (by rw [hno]; simpa [over] using hown) hx rfl (fun _ _ => rfl)
    rw [h0] at this
    exact this
  · have hnd : 0 < n2 ∧ 0 < dLen := by
      have : 0 < Nat.min n2 dLen := Nat.pos_of_ne_zero h0
      exact ⟨Nat.lt_of_lt_of_le this (Nat.min_le_left _ _), Nat.lt_of_lt_of_le this (Nat.min_le_right _ _)⟩
    have hml : (l2.take dLen).length = Nat.min n2 dLen := by rw [List.length_take, hl2, Nat.min_comm]
    have hmle : Nat.min n2 dLen ≤ dLen := Nat.min_le_right _ _
    rcases hown.own with ⟨_, hn0, _⟩ | ⟨g, cur, hA, hB, hg, hnc, hc, hcs, hlen, htk⟩
    · omega
    obtain ⟨ad, rfl, hc2⟩ := hsl.rd.2 hnd.1
    have hcl : cur.toList.length = c := by rw [Array.length_toList, hcs, Nat.mul_one]
    rw [Nat.mul_one] at htk
    have hcur : cur.toList.toArray = cur := Array.toArray_toList
    refine wpList_copy_own hgd d s dT sT ho elem hu hsz g off dLen dCap ad n2 c2 ?_ hs cur elem hg ((l2.take dLen).map bv) (by rw [List.length_map]; exact hml) (fun j v hj => hc2 j v ?_) (by rw [List.length_map, hml, ← Array.length_toList, hcl]; omega) (fun v hv => ?_) ?_
    · rw [hd, hdp hnd.2, hA]
      simp only [Option.map_some, Addr.add]
      split
      · rename_i e; rw [e]
      · simp
    · rw [List.getElem?_map, List.getElem?_take] at hj
      rw [List.getElem?_map]
      split at hj
      · exact hj
      · simp at hj
    · obtain ⟨b, _, rfl⟩ := List.mem_map.1 hv
      rfl
    · have hsp : cur.toList.take off ++ ((l2.take dLen).map bv ++ cur.toList.drop (off + ((l2.take dLen).map bv).length)) = splice cur.toList off ((l2.take dLen).map bv) := rfl
      rw [hsp, List.length_map, hml]
      have hsl2 : (splice cur.toList off ((l2.take dLen).map bv)).length = cur.toList.length := length_splice _ _ _ (by rw [List.length_map, hml, hcl]; omega)
      refine h _ ?_ (below_setRow hx hB _) (by simp [World.setRow]) (fun k hk => setRow_other w g k _ (fun e => hk ?_))
      · refine ⟨by rw [over_length (by rw [hml, hl]; omega)]; exact hl, .inr ⟨g, _, hA, hB, setRow_heap w g _ _ _ _ hg, hnc, hc, by rw [List.size_toArray, hsl2, hcl, Nat.mul_one], ?_, ?_⟩⟩
        · rw [List.length_map, over_length (by rw [hml, hl]; omega), hl, Nat.mul_one]
        · rw [Nat.mul_one, List.toList_toArray, splice_take _ _ _ _ (by rw [List.length_map, hml]; omega) (by rw [hcl]; exact hnc), htk, splice_map]
      · subst e
        unfold rowOf
        rw [if_neg (by omega), hA]
        rfl
end Go.Proofs.Ytcklkjklepmabaa
