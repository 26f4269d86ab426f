/-
  A map of strings to bool that the call made: a set of names.
-/
import Derived.Test.YtcklkjklepmabaaZRightPlain
import Derived.Maps.Own
import Derived.Maps.Views
namespace Go.Proofs.Ytcklkjklepmabaa
open Go.RowKit Go.Maps Go.WideMaps
set_option linter.unusedVariables false

abbrev TStr : TypeId := 9
abbrev TBool : TypeId := 4
abbrev TSet : TypeId := 82
theorem under_strS : Try.prog.underlying TStr = some .string := by kernel_rfl
theorem under_bool : Try.prog.underlying TBool = some .bool := by kernel_rfl
theorem under_set : Try.prog.underlying TSet = some (.map TStr TBool) := by kernel_rfl
theorem zero_bool (w : World) : (zeroValue TBool).run Try.prog w = .ok (.bool false) w := by kernel_rfl
theorem set_keyed : Keyed Try.prog TStr := string_keyed under_str
/-- the block reads as the names of which p is true -/
def SetB (w : World) (b n : Nat) (p : ByteArray → Bool) : Prop := ∃ D : DataW Unit, w.ownsMap Try.prog TStr (plainElem Try.prog TBool) b n D ∧ IsMap D ∧ ∀ s : ByteArray, s.size ≤ maxLen → D.atKey (.string s.data.toList) (.lit (.bool false)) = .lit (.bool (p s))
theorem SetB.made (w : World) : SetB (w.alloc (.map #[] 0)) w.heap.size 0 (fun _ => false) := ⟨.map [], World.ownsMap_made _ _ _ _, isMap_empty, fun s _ => rfl⟩
theorem SetB.look {w : World} {b n : Nat} {p : ByteArray → Bool} (h : SetB w b n p) {s : ByteArray} (hs : s.size ≤ maxLen) : (Instr.lookup TSet (.map (some b)) (.string s) false).run Try.prog w = .ok (.bool (p s)) w := by
  obtain ⟨D, h1, _, h3⟩ := h
  obtain ⟨v, ps, hrun, hv⟩ := h1.lookup set_keyed under_set (zero_bool w) (plainElem_bool under_bool false) (keyOf_string_mk under_strS hs)
  rw [h3 s hs] at hv
  rw [hrun]
  unfold plainElem at hv
  rw [under_bool] at hv
  cases v <;> simp_all
theorem SetB.put {w' : World} {b n : Nat} {s : ByteArray} (hs : s.size ≤ maxLen) {D : DataW Unit} {p : ByteArray → Bool} (hm : IsMap D) (hp : ∀ t : ByteArray, t.size ≤ maxLen → D.atKey (.string t.data.toList) (.lit (.bool false)) = .lit (.bool (p t)))
    (h : w'.ownsMap Try.prog TStr (plainElem Try.prog TBool) b (n + 1) (D.put (.string s.data.toList) (.lit (.bool true)))) : SetB w' b (n + 1) (fun t => decide (t = s) || p t) := by
  refine ⟨_, h, hm.put _ _, fun t ht => ?_⟩
  by_cases e : t = s
  · subst e
    rw [atKey_put_same hm (by trivial)]
    simp
  · rw [atKey_put_other, hp t ht]
    · simp [e]
    · intro hh
      apply e
      injection hh with hh
      obtain ⟨⟨t⟩⟩ := t
      obtain ⟨⟨s⟩⟩ := s
      simp_all
theorem SetB.grown {w w' : World} {b n : Nat} {p : ByteArray → Bool} (h : SetB w b n p) {row : Option Nat} (hg : w.grownBy w' row) (hne : some b ≠ row) : SetB w' b n p := by
  obtain ⟨D, h1, h2, h3⟩ := h
  exact ⟨D, h1.kept hg hne, h2, h3⟩
theorem SetB.lt {w : World} {b n : Nat} {p : ByteArray → Bool} (h : SetB w b n p) : b < w.heap.size := by
  obtain ⟨D, h1, _⟩ := h
  exact h1.lt
theorem wpList_set_put {ops : Array Oper} {rest : List Oper} {o : Oper} {a : Act} {Q : Exit → Act → World → Prop} {w : World} (hg : o.guard = none) (m x v : Operand) (hop : o.op = Op.mapUpdate TSet m x v) (b n : Nat) (p : ByteArray → Bool)
    (hm : a.eval m = .map (some b)) (h : SetB w b n p) (hn : n < maxLen) (s : ByteArray) (hs : s.size ≤ maxLen) (hx : a.eval x = .string s) (hv : a.eval v = .bool true)
    (hK : ∀ w', SetB w' b (n + 1) (fun t => decide (t = s) || p t) → w.grownBy w' (some b) → wpList Try.prog ops Q rest (a.put o.dst undef) w') : wpList Try.prog ops Q (o :: rest) a w := by
  obtain ⟨D, h1, h2, h3⟩ := h
  exact wpList_mapUpdate_own w hg m x v TSet hop TStr TBool set_keyed under_set _ b n D hm h1 hn _ _ _ hx hv (keyOf_string_mk under_strS hs) _ [] (plainElem_bool under_bool true) fun w' q1 q2 => hK w' (SetB.put hs h2 h3 q1) q2
end Go.Proofs.Ytcklkjklepmabaa
