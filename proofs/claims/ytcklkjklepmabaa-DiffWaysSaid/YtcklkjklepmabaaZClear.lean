/-
  clear of a part of a row of bytes of the call's own. Nothing here names a program.
-/
import Derived.Test.YtcklkjklepmabaaZCore
namespace Go.Proofs.Ytcklkjklepmabaa
open Go.RowKit
set_option linter.unusedVariables false

theorem run_clear {P : Program} {w : World} {t ty e e2 : TypeId} {i : TypeInfo} {z : Value} (ht : P.underlying t = some (.slice e)) (hi : P.info? e = some i) (hz : i.zero = some z) (g o n c : Nat) (hn : 0 < n) (cur : Array Value) (hg : w.heap[g]? = some (.cells cur e2 (0, 0)))
    (hfit : o + (Builtin.zeroCells z.cells n).toList.length ≤ cur.size) (hone : ∀ v ∈ (Builtin.zeroCells z.cells n).toList, v.oneCell' = true) :
    (Builtin.clear_ #[t] ty #[.slice (some ⟨g, o, none⟩) n c]).run P w = .ok (.tuple #[]) (w.setRow g (cur.toList.take o ++ (Builtin.zeroCells z.cells n).toList ++ cur.toList.drop (o + (Builtin.zeroCells z.cells n).toList.length)).toArray) := by
  have hs := run_storeCells_at P g o e2 (Builtin.zeroCells z.cells n).toList 0 cur w hg (by simpa using hfit) hone
  obtain ⟨m, rfl⟩ : ∃ m, n = m + 1 := ⟨n - 1, by omega⟩
  simp [Builtin.clear_, run_underlying ht, zeroValue, typeInfo, hi, hz, Result.andThen]
  rw [hs]
  simp
theorem zero_bytes (n : Nat) : (Builtin.zeroCells (Value.int .u8 0).cells n).toList = (List.replicate n (0 : UInt8)).map bv := by
  unfold Builtin.zeroCells
  rw [List.map_replicate]
  refine List.eq_replicate_iff.2 ⟨by simp [Value.cells], fun b hb => ?_⟩
  simp only [Array.toList_map, List.mem_map] at hb
  obtain ⟨j, _, rfl⟩ := hb
  simp [Value.cells, Nat.mod_one]
theorem run_clear_none {P : Program} {w : World} {t ty e : TypeId} (ht : P.underlying t = some (.slice e)) (dp : Option Addr) (c : Nat) : (Builtin.clear_ #[t] ty #[.slice dp 0 c]).run P w = .ok (.tuple #[]) w := by
  cases dp <;> simp [Builtin.clear_, run_underlying ht, Result.andThen]
theorem wpList_clear_byt {P : Program} {w w0 : World} {ops : Array Oper} {rest : List Oper} {o : Oper} {a : Act} {Q : Exit → Act → World → Prop} (hgd : o.guard = none) (d : Operand) (dT : TypeId)
    (ho : o.op = .call { callee := .builtin .clear, args := #[d], argTypes := #[dT] }) (elem : TypeId) (hu : P.underlying dT = some (.slice elem)) (i : TypeInfo) (hi : P.info? elem = some i) (hz : i.zero = some (.int .u8 0))
    (A : Option Addr) (n c : Nat) (l : List UInt8) (off : Nat) (dp : Option Addr) (dLen dCap : Nat) (hd : a.eval d = .slice dp dLen dCap) (hown : Byt elem w w0.heap.size A n c l) (hoff : off + dLen ≤ n) (hdp : 0 < dLen → dp = A.map (·.add off)) (hx : Ext w0 w)
    (h : ∀ w', Byt elem w' w0.heap.size A n c (over l off (List.replicate dLen 0)) → Ext w0 w' → w'.heap.size = w.heap.size → (∀ k, rowOf A c ≠ some k → w'.heap[k]? = w.heap[k]?) → wpList P ops Q rest (a.put o.dst (.tuple #[])) w') : wpList P ops Q (o :: rest) a w := by
  have hl := hown.len
  refine wpList_plain hgd fun K hK => ?_
  by_cases h0 : dLen = 0
  · subst h0
    have hrun := run_clear_none (P := P) (w := w) (ty := o.type) hu dp dCap
    unfold Oper.wp
    simp [execOp, ho, resolve, invoke, builtin, hd, hrun, Result.andThen]
    refine hK _ _ (h w ?_ hx rfl (fun _ _ => rfl))
    simpa [over] using hown
  · rcases hown.own with ⟨_, hn0, _⟩ | ⟨g, cur, hA, hB, hg, hnc, hc, hcs, hlen, htk⟩
    · omega
    have hcl : cur.toList.length = c := by rw [Array.length_toList, hcs, Nat.mul_one]
    rw [Nat.mul_one] at htk
    have hzb := zero_bytes dLen
    have hzl : (Builtin.zeroCells (Value.int .u8 0).cells dLen).toList.length = dLen := by rw [hzb]; simp
    have hdv : dp = some ⟨g, off, none⟩ := by
      rw [hdp (by omega), hA]
      simp only [Option.map_some, Addr.add]
      split
      · rename_i e; rw [e]
      · simp
    have hrun := run_clear (P := P) (w := w) (t := dT) (ty := o.type) hu hi hz g off dLen dCap (by omega) cur hg (by rw [hzl, ← Array.length_toList, hcl]; omega) (by rw [hzb]; exact bv_one _)
    rw [hzb] at hrun
    rw [hdv] at hd
    have hsp : cur.toList.take off ++ (List.replicate dLen (0 : UInt8)).map bv ++ cur.toList.drop (off + ((List.replicate dLen (0 : UInt8)).map bv).length) = splice cur.toList off ((List.replicate dLen (0 : UInt8)).map bv) := by unfold splice; rw [List.append_assoc]
    rw [hsp] at hrun
    have hsl2 : (splice cur.toList off ((List.replicate dLen (0 : UInt8)).map bv)).length = cur.toList.length := length_splice _ _ _ (by simp; omega)
    have hfin := hK _ _ (h (w.setRow g (splice cur.toList off ((List.replicate dLen (0 : UInt8)).map bv)).toArray) ?_ (below_setRow hx hB _) (by simp [World.setRow]) (fun k hk => setRow_other w g k _ (fun e => hk ?_)))
    · obtain ⟨Z, hZ⟩ : ∃ Z, (splice cur.toList off ((List.replicate dLen (0 : UInt8)).map bv)).toArray = Z := ⟨_, rfl⟩
      rw [hZ] at hrun hfin
      unfold Oper.wp
      simp only [execOp, ho, resolve, invoke, builtin]
      simp [hd, hrun, Result.andThen]
      exact hfin
    · refine ⟨by rw [over_length (by simp; omega)]; exact hl, .inr ⟨g, _, hA, hB, setRow_heap w g _ _ _ _ hg, hnc, hc, by rw [List.size_toArray, hsl2, hcl, Nat.mul_one], ?_, ?_⟩⟩
      · rw [List.length_map, over_length (by simp; omega), hl, Nat.mul_one]
      · rw [Nat.mul_one, List.toList_toArray, splice_take _ _ _ _ (by simp; omega) (by rw [hcl]; exact hnc), htk, splice_map]
    · subst e
      unfold rowOf
      rw [if_neg (by omega), hA]
      rfl
end Go.Proofs.Ytcklkjklepmabaa
