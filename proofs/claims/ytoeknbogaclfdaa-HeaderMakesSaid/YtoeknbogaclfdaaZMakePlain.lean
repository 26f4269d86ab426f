/-
  Chapter 8: records that are made of numbers: they may be. No program in sight.
-/
import Derived.Test.YtoeknbogaclfdaaZMkPlain
import Derived.Test.YtoeknbogaclfdaaZMask
namespace Go.Proofs.Ytoeknbogaclfdaa
open Go.RowKit
set_option linter.unusedVariables false
set_option linter.unusedSimpArgs false

structure Mst where
  ms : List Mk
  nx : Int
  sn : Nat
  hd : Bool
def nmI (i : Nat) : ByteArray := ⟨#[115, UInt8.ofNat (97 + i)]⟩
def nmT : ByteArray := ⟨#[126, 110]⟩
def szI (v : Int) : Int := bits BinOp.and IntKind.i64 v 511
def gnB (v : Int) : Bool := bits BinOp.and IntKind.i64 v 1024 != 0
def hlB (v : Int) : Bool := bits BinOp.and IntKind.i64 v 14336 == 0
def stI (v : Int) : Int := bits BinOp.and IntKind.i64 (v / 16384) 1
def markS (i : Nat) (v : Int) (st : Mst) : Mk := if (hlB v && !st.hd) = true then ⟨st.nx, nmT, szI v, false⟩ else if (!gnB v && decide (st.sn = 8)) = true then ⟨st.nx, nmI i, szI v, true⟩ else ⟨st.nx, nmI i, szI v, gnB v⟩
def seenS (v : Int) (st : Mst) : Nat := if (hlB v && !st.hd) = true then st.sn else if (!gnB v && decide (st.sn = 8)) = true then st.sn else if gnB v = true then st.sn else st.sn + 1
def stepM (i : Nat) (v : Int) (st : Mst) : Mst := ⟨st.ms ++ [markS i v st], st.nx + 1 + stI v, seenS v st, st.hd || hlB v⟩
def mkF : List Int → Nat → Mst → Mst
  | [], _, st => st
  | v :: vs, i, st => mkF vs (i + 1) (stepM i v st)
def st0 : Mst := ⟨[], 1, 0, false⟩
theorem mkF_snoc : ∀ (vs : List Int) (i : Nat) (v : Int) (st : Mst), mkF (vs ++ [v]) i st = stepM (i + vs.length) v (mkF vs i st)
  | [], i, v, st => rfl
  | u :: vs, i, v, st => by
    rw [List.cons_append, mkF, mkF_snoc vs (i + 1) v, mkF, List.length_cons]
    congr 1
    omega
theorem mkF_next {l : List Int} {k : Nat} {v : Int} (h : l[k]? = some v) : mkF (l.take (k + 1)) 0 st0 = stepM k v (mkF (l.take k) 0 st0) := by
  rw [List.take_add_one, h]
  show mkF (l.take k ++ [v]) 0 st0 = _
  rw [mkF_snoc, List.length_take, Nat.zero_add]
  have := (List.getElem?_eq_some_iff.1 h).1
  rw [Nat.min_eq_left (by omega)]
theorem szI_bd (v : Int) : 0 ≤ szI v ∧ szI v ≤ 511 := by unfold szI; rw [and511]; omega
theorem stI_bd (v : Int) : 0 ≤ stI v ∧ stI v ≤ 1 := by unfold stI; rw [and1]; omega
theorem tilde_nmI (i : Nat) : tildeB (nmI i) = false := by unfold tildeB nmI; rfl
theorem tilde_nmT : tildeB nmT = true := by decide
theorem name_nmI : ∀ i, i < 16 → nameB (nmI i) = true := by decide
theorem nmI_inj : ∀ i, i < 16 → ∀ j, j < 16 → nmI i = nmI j → i = j := by decide
theorem nmT_name : nameM nmT = true := by decide
theorem nmI_name {i : Nat} (h : i < 16) : nameM (nmI i) = true := by
  unfold nameM
  rw [tilde_nmI]
  exact name_nmI i h
theorem okM_mono {nx nx' : Int} {pre : List Mk} {x : Mk} (h : nx ≤ nx') (hx : okM nx pre x = true) : okM nx' pre x = true := by
  unfold okM at hx ⊢
  simp only [Bool.and_eq_true, decide_eq_true_eq] at hx ⊢
  exact ⟨by omega, hx.2⟩
theorem okF_mono {nx nx' : Int} (h : nx ≤ nx') : ∀ {l pre : List Mk}, okF nx pre l = true → okF nx' pre l = true
  | [], _, _ => rfl
  | x :: xs, pre, hx => by
    rw [okF, Bool.and_eq_true] at hx ⊢
    exact ⟨okM_mono h hx.1, okF_mono h hx.2⟩
theorem okF_snoc (nx : Int) (x : Mk) : ∀ (l pre : List Mk), okF nx pre (l ++ [x]) = (okF nx pre l && okM nx (pre ++ l) x)
  | [], pre => by simp [okF]
  | y :: ys, pre => by
    rw [List.cons_append, okF, okF_snoc nx x ys, okF, List.append_assoc, Bool.and_assoc]
    rfl
theorem distF_snoc (x : Mk) : ∀ (l pre : List Mk), distF pre (l ++ [x]) = (distF pre l && !((pre ++ l).any fun y => decide (y.nm = x.nm)))
  | [], pre => by simp [distF]
  | y :: ys, pre => by
    rw [List.cons_append, distF, distF_snoc x ys, distF, List.append_assoc, Bool.and_assoc]
    rfl
/-- what holds of the marks that were made -/
structure MInv (k : Nat) (st : Mst) : Prop where
  len : st.ms.length = k
  nx : 1 ≤ st.nx ∧ st.nx ≤ 1 + 2 * (k : Int)
  last : lastI st.ms < st.nx
  ids : okF st.nx [] st.ms = true
  holds : holdsN st.ms = if st.hd = true then 1 else 0
  seen : (seenL st.ms).length = st.sn ∧ st.sn ≤ 8
  names : ∀ (j : Nat) (x : Mk), st.ms[j]? = some x → x.nm = nmT ∨ x.nm = nmI j
  dist : distF [] (seenL st.ms) = true
theorem minv_zero : MInv 0 st0 := ⟨rfl, ⟨by simp [st0], by simp [st0]⟩, by simp [st0, lastI], rfl, rfl, ⟨rfl, by simp [st0]⟩, by intro j x h; simp [st0] at h, rfl⟩
theorem seen_nm {k : Nat} {st : Mst} (h : MInv k st) {x : Mk} (hx : x ∈ seenL st.ms) : ∃ j, j < k ∧ x.nm = nmI j := by
  obtain ⟨h1, h2⟩ := List.mem_filter.1 hx
  obtain ⟨j, hj⟩ := List.getElem?_of_mem h1
  refine ⟨j, by rw [← h.len]; exact (List.getElem?_eq_some_iff.1 hj).1, ?_⟩
  rcases h.names j x hj with e | e
  · unfold seenM at h2
    rw [e, tilde_nmT] at h2
    simp at h2
  · exact e
theorem minv_next {k : Nat} {st : Mst} (h : MInv k st) (hk : k < 16) (v : Int) : MInv (k + 1) (stepM k v st) := by
  have hz := szI_bd v
  have ht := stI_bd v
  have hb := h.nx
  -- the new mark's numbers
  have key : ∀ (m : Mk), m.id = st.nx → m.sz = szI v → (m.nm = nmT ∧ m.gone = false ∨ m.nm = nmI k) → okF (st.nx + 1 + stI v) [] (st.ms ++ [m]) = true ∧ lastI (st.ms ++ [m]) < st.nx + 1 + stI v := by
    intro m h1 h2 h3
    rw [okF_snoc, okF_mono (by omega) h.ids, Bool.true_and, List.nil_append]
    refine ⟨?_, by unfold lastI; simp; omega⟩
    unfold okM namedM
    have hl := h.last
    have e1 : decide (lastI st.ms < m.id ∧ m.id < st.nx + 1 + stI v ∧ 0 ≤ m.sz ∧ m.sz ≤ 512) = true := by simp; omega
    rw [e1, Bool.true_and]
    rcases h3 with ⟨h3, h4⟩ | h3
    · rw [h3, h4, nmT_name]; simp
    · rw [h3, nmI_name hk, tilde_nmI]; simp
  have hnm : ∀ (m : Mk), (m.nm = nmT ∨ m.nm = nmI k) → ∀ (j : Nat) (x : Mk), (st.ms ++ [m])[j]? = some x → x.nm = nmT ∨ x.nm = nmI j := by
    intro m hm j x hx
    rw [List.getElem?_append] at hx
    split at hx
    · exact h.names j x hx
    · rename_i hj
      have hl := h.len
      have hj2 : j - st.ms.length = 0 := by
        have := (List.getElem?_eq_some_iff.1 hx).1
        simp at this
        omega
      rw [hj2] at hx
      simp at hx
      subst hx
      have : j = k := by omega
      rw [this]
      exact hm
  have hld : ∀ (m : Mk), holdsN (st.ms ++ [m]) = holdsN st.ms + (if tildeB m.nm = true then 1 else 0) := by
    intro m
    unfold holdsN
    rw [List.filter_append, List.length_append]
    congr 1
    simp only [List.filter_cons, List.filter_nil]
    split <;> rfl
  have hln : ∀ (m : Mk), (st.ms ++ [m]).length = k + 1 := by intro m; rw [List.length_append, h.len]; rfl
  have hsu : ∀ (m : Mk), seenM m = false → seenL (st.ms ++ [m]) = seenL st.ms := by
    intro m hm
    rw [seenL_app]
    unfold seenL
    simp [hm]
  have hss : ∀ (m : Mk), seenM m = true → seenL (st.ms ++ [m]) = seenL st.ms ++ [m] := by
    intro m hm
    rw [seenL_app]
    unfold seenL
    simp [hm]
  unfold stepM markS seenS
  by_cases c1 : (hlB v && !st.hd) = true
  · rw [if_pos c1, if_pos c1]
    have c1' := c1
    simp only [Bool.and_eq_true, Bool.not_eq_true'] at c1'
    obtain ⟨k1, k2⟩ := key ⟨st.nx, nmT, szI v, false⟩ rfl rfl (.inl ⟨rfl, rfl⟩)
    refine ⟨hln _, ⟨by simp only; omega, by simp only; omega⟩, k2, k1, ?_, ?_, hnm _ (.inl rfl), ?_⟩
    · show holdsN (st.ms ++ [_]) = _
      rw [hld, h.holds, tilde_nmT, c1'.1, c1'.2]
      simp
    · simp only
      rw [hsu _ (by unfold seenM; rw [tilde_nmT]; rfl)]
      exact h.seen
    · simp only
      rw [hsu _ (by unfold seenM; rw [tilde_nmT]; rfl)]
      exact h.dist
  · rw [if_neg c1, if_neg c1]
    have hhd : (st.hd || hlB v) = st.hd := by
      cases e1 : st.hd
      · cases e2 : hlB v
        · rfl
        · rw [e1, e2] at c1; simp at c1
      · rfl
    rw [hhd]
    by_cases c2 : (!gnB v && decide (st.sn = 8)) = true
    · rw [if_pos c2, if_pos c2]
      obtain ⟨k1, k2⟩ := key ⟨st.nx, nmI k, szI v, true⟩ rfl rfl (.inr rfl)
      refine ⟨hln _, ⟨by simp only; omega, by simp only; omega⟩, k2, k1, ?_, ?_, hnm _ (.inr rfl), ?_⟩
      · show holdsN (st.ms ++ [_]) = _
        rw [hld, h.holds, tilde_nmI]
        simp
      · simp only
        rw [hsu _ rfl]
        exact h.seen
      · simp only
        rw [hsu _ rfl]
        exact h.dist
    · rw [if_neg c2, if_neg c2]
      obtain ⟨k1, k2⟩ := key ⟨st.nx, nmI k, szI v, gnB v⟩ rfl rfl (.inr rfl)
      have hho : holdsN (st.ms ++ [⟨st.nx, nmI k, szI v, gnB v⟩]) = if st.hd = true then 1 else 0 := by
        rw [hld, h.holds, tilde_nmI]
        simp
      cases hg : gnB v with
      | true =>
        rw [hg] at k1 k2 hho
        refine ⟨hln _, ⟨by simp only; omega, by simp only; omega⟩, k2, k1, hho, ?_, hnm _ (.inr rfl), ?_⟩
        · simp only
          rw [hsu _ rfl]
          simpa using h.seen
        · simp only
          rw [hsu _ rfl]
          exact h.dist
      | false =>
        rw [hg] at k1 k2 hho c2
        have hsn : st.sn ≠ 8 := by intro e; rw [e] at c2; simp at c2
        have hse := h.seen
        have hsm : seenM ⟨st.nx, nmI k, szI v, false⟩ = true := by unfold seenM; rw [tilde_nmI]; rfl
        refine ⟨hln _, ⟨by simp only; omega, by simp only; omega⟩, k2, k1, hho, ?_, hnm _ (.inr rfl), ?_⟩
        · simp only
          rw [hss _ hsm]
          simp
          omega
        · simp only
          rw [hss _ hsm, distF_snoc, h.dist, Bool.true_and, List.nil_append, Bool.not_eq_true', List.any_eq_false]
          intro x hx
          obtain ⟨j, hj, e⟩ := seen_nm h hx
          simp only [decide_eq_true_eq]
          rw [e]
          intro e2
          have := nmI_inj j (by omega) k hk e2
          omega
theorem minv_all (l : List Int) : ∀ k, k ≤ l.length → k ≤ 16 → MInv k (mkF (l.take k) 0 st0)
  | 0, _, _ => by rw [List.take_zero]; exact minv_zero
  | k + 1, h1, h2 => by
    rw [mkF_next (List.getElem?_eq_getElem (by omega))]
    exact minv_next (minv_all l k (by omega) (by omega)) (by omega) _
/-- a record made of numbers -/
def makeN (l : List Int) : Nat := min l.length 16
def makeH (size order unit count : Int) (l : List Int) : Hd :=
  ⟨bits BinOp.and IntKind.i64 size 511, 3 + bits BinOp.and IntKind.i64 order 3, 2 + bits BinOp.and IntKind.i64 unit 7 % (3 + bits BinOp.and IntKind.i64 order 3 - 1), 1 + bits BinOp.and IntKind.i64 count 3, (mkF (l.take (makeN l)) 0 st0).nx, bits BinOp.and IntKind.i64 size 255, (mkF (l.take (makeN l)) 0 st0).ms⟩
theorem and7 (n : Int) : bits .and .i64 n 7 = n % 8 := i64_low n 7 3 (by omega) (by decide)
theorem make_inv (l : List Int) : MInv (makeN l) (mkF (l.take (makeN l)) 0 st0) := minv_all l _ (by unfold makeN; omega) (by unfold makeN; omega)
theorem make_right (size order unit count : Int) (l : List Int) : rightH (makeH size order unit count l) = true := by
  have h := make_inv l
  have hn : makeN l ≤ 16 := by unfold makeN; omega
  unfold rightH
  rw [Bool.and_eq_true, numsB_iff]
  unfold makeH
  simp only
  rw [and511, and3, and7, and3, and255]
  have hb := h.nx
  refine ⟨⟨by omega, ⟨by omega, by omega, ?_, ?_, by omega, by omega⟩, by omega, by omega, by omega, by omega⟩, ?_⟩
  · have := Int.emod_nonneg (unit % 8) (show (3 + order % 4 - 1) ≠ 0 by omega); omega
  · have := Int.emod_lt_of_pos (unit % 8) (show (0 : Int) < 3 + order % 4 - 1 by omega); omega
  · rw [marksB_ref, h.ids, h.dist, h.holds, h.seen.1, h.len]
    have h1 : decide (makeN l ≤ 17) = true := by simp; omega
    have h2 : decide ((mkF (l.take (makeN l)) 0 st0).sn ≤ 8) = true := by simpa using h.seen.2
    rw [h1, h2]
    split <;> rfl
end Go.Proofs.Ytoeknbogaclfdaa
