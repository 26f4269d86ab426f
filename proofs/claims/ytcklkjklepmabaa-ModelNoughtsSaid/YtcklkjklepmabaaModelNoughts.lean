/-
  The walk of one statement of chapter 14: noughts, there and back.
-/
import Derived.Test.YtcklkjklepmabaaKnown14
import Derived.Test.YtcklkjklepmabaaFoldLaws
import Derived.Test.YtcklkjklepmabaaOpenEvs
import Derived.Laws.BitsLemmas
namespace Go.Proofs.Ytcklkjklepmabaa
open Go.RowKit
set_option linter.unusedVariables false
set_option linter.unusedSimpArgs false
set_option linter.unnecessarySimpa false
set_option maxRecDepth 100000


section
variable {P : Program} {N R : World → World → Prop} {Q : Exit → Act → World → Prop}

theorem fin_typed2 {ops : Array Oper} {full : List Sp} {M : List Nat} {W : Nat} {a0 : Act} {w0 : World} (hN : Steady N) (hR : Steady R) (hNR : ∀ w w', N w w' → R w w') (hops : ops = (full.map Sp.o).toArray)
    (hok : regionOk a0.tmps.size (full.map Sp.o) = true) (hM : maskOk (full.map Sp.o) M = true) (hW : W < 2 ^ full.length)
    (hfin : ∃ al : List Bool, aliveOk M W ops.size (full.map Sp.st) al = true ∧ ∀ w', Sel N R (W == 0) w0 w' → Fin2 w' (fun a => Q .normal a w') al (full.map Sp.pr) a0) :
    ∀ (listed : Array Bool) (a : Act) (w : World), Midway2 N R full M W a0 w0 listed a w → (∀ k, k < full.length → listed.getD k false = true) → Q .normal a w := by
  simp only [regionOk, Bool.and_eq_true] at hok
  obtain ⟨⟨hdist, hall⟩, hback⟩ := hok
  have hopsz : ops.size = full.length := by subst hops; simp
  have hWl : ∀ j, W.testBit j = true → j < full.length := by
    intro j hj
    by_cases h : j < full.length
    · exact h
    · have := Nat.testBit_lt_two_pow (Nat.lt_of_lt_of_le hW (Nat.pow_le_pow_right (by omega) (show full.length ≤ j by omega)))
      rw [this] at hj
      cases hj
  have hdst : ∀ (k j : Nat) (s s' : Sp) (d : Tmp), full[k]? = some s → full[j]? = some s' → s.o.dst = some d → s'.o.dst = some d → k = j := by
    intro k j s s' d hk hj hd hd'
    exact distinct_spec _ hdist k j s.o s'.o d (by simp [hk]) (by simp [hj]) hd hd'
  have hgood : ∀ (k : Nat) (s : Sp), full[k]? = some s → goodOp s.o = true ∧ ∀ d, s.o.dst = some d → d < a0.tmps.size := by
    intro k s hk
    have h1 := List.all_eq_true.1 hall s.o (List.mem_map.2 ⟨s, List.mem_of_getElem? hk, rfl⟩)
    simp only [Bool.and_eq_true] at h1
    refine ⟨h1.1, fun d hd => ?_⟩
    have h2 := h1.2
    rw [hd] at h2
    simpa using h2
  have hedge : ∀ (k : Nat) (s : Sp), full[k]? = some s → ∀ e ∈ s.o.after, Region.binds .any e = true → e.on < k := by
    intro k s hk e he hb
    have hm : (s.o, k) ∈ (full.map Sp.o).zipIdx := by
      rw [List.mem_zipIdx_iff_getElem?]
      simp [hk]
    have h1 := List.all_eq_true.1 hback (s.o, k) hm
    have h2 := Array.all_eq_true_iff_forall_mem.1 h1 e he
    simpa [hb] using h2
  have hopsk : ∀ (k : Nat) (s : Sp), full[k]? = some s → ops[k]? = some s.o := by
    intro k s hk
    subst hops
    simp [hk]
  have hopsk' : ∀ (k : Nat) (o : Oper), ops[k]? = some o → ∃ s, full[k]? = some s ∧ s.o = o := by
    intro k o hk
    subst hops
    simp only [List.getElem?_toArray, List.getElem?_map, Option.map_eq_some_iff] at hk
    exact hk
  have getl : ∀ {listed : Array Bool} {i : Nat}, i < listed.size → ∀ x y, listed.getD i x = listed.getD i y := fun h x y => getD_of_lt h x y
  intro listed a w hm hl
  obtain ⟨al, hal, hfin⟩ := hfin
  let g : Nat → Value := fun t => a.tmps.getD t undef
  have hrel : Sel N R (W == 0) w0 w := by
    cases h0 : (W == 0) with
    | true =>
      have hz : W = 0 := by simpa using h0
      exact hm.clean fun j hj => by rw [hz] at hj; simp at hj
    | false => exact hm.world
  have hT : ∀ (k : Nat) (p : Oper × Ty), (full.map Sp.pr)[k]? = some p → al.getD k false = true → p.2 ((p.1.dst.map g).getD undef) w := by
    intro k p hk hf
    rw [List.getElem?_map, Option.map_eq_some_iff] at hk
    obtain ⟨s, hk, rfl⟩ := hk
    have hlt : k < full.length := (List.getElem?_eq_some_iff.1 hk).1
    have hf' : al[k]? = some true := by
      cases hc : al[k]? with
      | none => simp [List.getD, hc] at hf
      | some b => simp only [List.getD, hc, Option.getD_some] at hf; rw [hf]
    have hmem : (true, k) ∈ al.zipIdx := by rw [List.mem_zipIdx_iff_getElem?]; exact hf'
    have h1 := List.all_eq_true.1 hal (true, k) hmem
    simp only [Bool.not_true, Bool.false_or, Bool.or_eq_true] at h1
    have := hm.done k s hk (hl k hlt) (by
      rcases h1 with h1 | h1
      · left
        simpa [List.getD, hk] using h1
      · right
        intro j hj hw _
        have h2 := List.all_eq_true.1 h1 j (List.mem_range.2 (by rw [hopsz]; exact hj))
        simp only [hw, Bool.not_true, Bool.false_or, Bool.or_eq_true, beq_iff_eq] at h2
        exact h2)
    unfold dstVal at this
    cases hd : s.o.dst with
    | none => simpa [hd] using this
    | some d => simpa [hd, g] using this
  have h1 := Fin2.at_ g al (full.map Sp.pr) a0 (hfin w hrel) hT
  have e : canon ((full.map Sp.pr).map fun _ => true) (full.map Sp.pr) g a0 = a := by
    have htm : (canon ((full.map Sp.pr).map fun _ => true) (full.map Sp.pr) g a0).tmps = a.tmps := by
      refine Array.ext_getElem? fun t => ?_
      by_cases hex : ∃ (k : Nat) (s : Sp), full[k]? = some s ∧ s.o.dst = some t
      · obtain ⟨k, s, hk, hd⟩ := hex
        have hlt := (hgood k s hk).2 t hd
        have hkl : k < full.length := (List.getElem?_eq_some_iff.1 hk).1
        rw [canon_at g t _ (full.map Sp.pr) a0 k s.o s.T hlt (by simp [hk]) (by simp [hk]) hd]
        have hlt' : t < a.tmps.size := by rw [hm.size]; exact hlt
        simp [g, Array.getD, hlt']
      · rw [canon_other g t _ (full.map Sp.pr) a0, hm.other t]
        · intro k s hk hd
          exact absurd ⟨k, s, hk, hd⟩ hex
        · intro p hp hd
          obtain ⟨s, hs, rfl⟩ := List.mem_map.1 hp
          obtain ⟨k, hk⟩ := List.mem_iff_getElem?.1 hs
          exact hex ⟨k, s, hk, hd⟩
    have hdf : (canon ((full.map Sp.pr).map fun _ => true) (full.map Sp.pr) g a0).defers = a.defers := by rw [canon_defers, hm.defers]
    generalize canon ((full.map Sp.pr).map fun _ => true) (full.map Sp.pr) g a0 = c at *
    cases c
    cases a
    simp only at htm hdf
    subst htm
    subst hdf
    rfl
  rw [e] at h1
  exact h1
theorem step_typed2 {ops : Array Oper} {full : List Sp} {M : List Nat} {W : Nat} {a0 : Act} {w0 : World} (hN : Steady N) (hR : Steady R) (hNR : ∀ w w', N w w' → R w w') (hops : ops = (full.map Sp.o).toArray)
    (hok : regionOk a0.tmps.size (full.map Sp.o) = true) (hM : maskOk (full.map Sp.o) M = true) (hW : W < 2 ^ full.length)
    (hkeep : ∀ p ∈ full, Keeps N p.T ∧ (p.st = true → Keeps R p.T)) (i : Nat)
    (hobl : ∀ sp, full[i]? = some sp → ∃ (fl : List Bool) (pu wr : Bool), (flagsOk2 ops M W ((full.take i).map Sp.st) i sp.o fl && (W.testBit i == wr) && (!pu || pureOk M W ops.size i)) = true ∧
        ∀ w1, Sel N R pu w0 w1 → Given w1 (fun a => wpList P ops (Post (Sel N R (!wr)) sp.T sp.o a w1) [sp.o] a w1) fl ((full.take i).map Sp.pr) a0) :
    ∀ (listed : Array Bool) (a : Act) (w : World) (K : Act → World → Prop), Midway2 N R full M W a0 w0 listed a w → i ∈ Region.ready .any ops listed →
      (∀ a' w', Midway2 N R full M W a0 w0 (listed.setIfInBounds i true) a' w' → K a' w') → wpOp P ops Q i K a w := by
  simp only [regionOk, Bool.and_eq_true] at hok
  obtain ⟨⟨hdist, hall⟩, hback⟩ := hok
  have hopsz : ops.size = full.length := by subst hops; simp
  have hWl : ∀ j, W.testBit j = true → j < full.length := by
    intro j hj
    by_cases h : j < full.length
    · exact h
    · have := Nat.testBit_lt_two_pow (Nat.lt_of_lt_of_le hW (Nat.pow_le_pow_right (by omega) (show full.length ≤ j by omega)))
      rw [this] at hj
      cases hj
  have hdst : ∀ (k j : Nat) (s s' : Sp) (d : Tmp), full[k]? = some s → full[j]? = some s' → s.o.dst = some d → s'.o.dst = some d → k = j := by
    intro k j s s' d hk hj hd hd'
    exact distinct_spec _ hdist k j s.o s'.o d (by simp [hk]) (by simp [hj]) hd hd'
  have hgood : ∀ (k : Nat) (s : Sp), full[k]? = some s → goodOp s.o = true ∧ ∀ d, s.o.dst = some d → d < a0.tmps.size := by
    intro k s hk
    have h1 := List.all_eq_true.1 hall s.o (List.mem_map.2 ⟨s, List.mem_of_getElem? hk, rfl⟩)
    simp only [Bool.and_eq_true] at h1
    refine ⟨h1.1, fun d hd => ?_⟩
    have h2 := h1.2
    rw [hd] at h2
    simpa using h2
  have hedge : ∀ (k : Nat) (s : Sp), full[k]? = some s → ∀ e ∈ s.o.after, Region.binds .any e = true → e.on < k := by
    intro k s hk e he hb
    have hm : (s.o, k) ∈ (full.map Sp.o).zipIdx := by
      rw [List.mem_zipIdx_iff_getElem?]
      simp [hk]
    have h1 := List.all_eq_true.1 hback (s.o, k) hm
    have h2 := Array.all_eq_true_iff_forall_mem.1 h1 e he
    simpa [hb] using h2
  have hopsk : ∀ (k : Nat) (s : Sp), full[k]? = some s → ops[k]? = some s.o := by
    intro k s hk
    subst hops
    simp [hk]
  have hopsk' : ∀ (k : Nat) (o : Oper), ops[k]? = some o → ∃ s, full[k]? = some s ∧ s.o = o := by
    intro k o hk
    subst hops
    simp only [List.getElem?_toArray, List.getElem?_map, Option.map_eq_some_iff] at hk
    exact hk
  have getl : ∀ {listed : Array Bool} {i : Nat}, i < listed.size → ∀ x y, listed.getD i x = listed.getD i y := fun h x y => getD_of_lt h x y
  intro listed a w K hm hi hK
  obtain ⟨hun, o, ho, hedges⟩ := mem_ready.1 hi
  obtain ⟨sp, hiT, rfl⟩ := hopsk' i o ho
  obtain ⟨fl, pu, wr, hchk, hob⟩ := hobl sp hiT
  have hil : i < full.length := (List.getElem?_eq_some_iff.1 hiT).1
  have hunf : listed.getD i false = false := by rw [getD_of_lt (by rw [hm.lsize]; exact hil) false true, hun]
  simp only [flagsOk2, Bool.and_eq_true, beq_iff_eq, Bool.or_eq_true, Bool.not_eq_true'] at hchk
  obtain ⟨⟨⟨hlooks, hflag⟩, hwr⟩, hpu⟩ := hchk
  have hreach : ∀ k, k < full.length → mbit M i k = true → listed.getD k false = true := fun k hk hb => mask_reach hM hm.closed i sp k hiT hedges hk hb
  have hreach2 : ∀ j k, j < full.length → k < full.length → listed.getD j false = true → mbit M j k = true → listed.getD k false = true := by
    intro j k hj hk hl hb
    obtain ⟨s, hs⟩ : ∃ s, full[j]? = some s := ⟨_, List.getElem?_eq_getElem hj⟩
    exact mask_reach hM hm.closed j s k hs (hm.closed j s hs hl) hk hb
  have hnoti : ∀ j, j < full.length → listed.getD j false = true → mbit M j i = true → False := by
    intro j hj hl hb
    have := hreach2 j i hj hil hl hb
    rw [hunf] at this
    cases this
  let g : Nat → Value := fun t => a.tmps.getD t undef
  have hflagk : ∀ k, fl.getD k false = true → mbit M i k = true ∧ (((full.take i).map Sp.st).getD k false = true ∨ noneBetween M W ops.size i k = true) := by
    intro k hk
    have hk' : fl[k]? = some true := by
      cases hc : fl[k]? with
      | none => simp [List.getD, hc] at hk
      | some b => simp only [List.getD, hc, Option.getD_some] at hk; rw [hk]
    have hmem : (true, k) ∈ fl.zipIdx := by rw [List.mem_zipIdx_iff_getElem?]; exact hk'
    have h1 := List.all_eq_true.1 hflag (true, k) hmem
    simpa only [Bool.not_true, Bool.false_or, Bool.and_eq_true, Bool.or_eq_true] using h1
  have hrel : Sel N R pu w0 w := by
    cases pu with
    | false => exact hm.world
    | true =>
      refine hm.clean fun j hj => ?_
      have hjl := hWl j hj
      rcases hpu with h | h
      · cases h
      · have h2 := List.all_eq_true.1 h j (List.mem_range.2 (by rw [hopsz]; exact hjl))
        simp only [hj, Bool.not_true, Bool.false_or, Bool.or_eq_true, beq_iff_eq] at h2
        cases hl : listed.getD j false with
        | false => rfl
        | true =>
          rcases h2 with h2 | h2
          · subst h2; rw [hunf] at hl; cases hl
          · exact absurd h2 (fun h => hnoti j hjl hl h)
  have hgiven := Given.at_ g fl ((full.take i).map Sp.pr) a0 (hob w hrel) (by
    intro k o' T' hk hl
    rw [List.getElem?_map, Option.map_eq_some_iff] at hl
    obtain ⟨s, hl, he⟩ := hl
    simp only [Sp.pr, Prod.mk.injEq] at he
    obtain ⟨rfl, rfl⟩ := he
    have hl' : full[k]? = some s := by
      rw [List.getElem?_take] at hl
      split at hl
      · exact hl
      · cases hl
    have hkl : k < full.length := (List.getElem?_eq_some_iff.1 hl').1
    obtain ⟨hb, hst⟩ := hflagk k hk
    have hlk := hreach k hkl hb
    have h1 := hm.done k s hl' hlk (by
      rcases hst with hst | hst
      · left
        have e : ((full.take i).map Sp.st)[k]? = some s.st := by rw [List.getElem?_map, hl]; rfl
        rw [List.getD_eq_getElem?_getD, e] at hst
        exact hst
      · right
        intro j hj hw hlj
        have h2 := List.all_eq_true.1 hst j (List.mem_range.2 (by rw [hopsz]; exact hj))
        simp only [hw, Bool.not_true, Bool.false_or, Bool.or_eq_true, beq_iff_eq] at h2
        rcases h2 with ((h2 | h2) | h2) | h2
        · exact .inl h2
        · subst h2; rw [hunf] at hlj; cases hlj
        · exact absurd h2 (fun h => hnoti j hj hlj h)
        · exact .inr h2)
    unfold dstVal at h1
    cases hd : s.o.dst with
    | none => simpa [hd] using h1
    | some d => simpa [hd, g] using h1)
  have hslot : ∀ t ∈ sp.o.looksAt ops, a.tmps[t]? = (canon fl ((full.take i).map Sp.pr) g a0).tmps[t]? := by
    intro t ht
    have h1 := List.all_eq_true.1 hlooks t ht
    by_cases hex : ∃ (k : Nat) (s : Sp), full[k]? = some s ∧ s.o.dst = some t
    · obtain ⟨k, s, hk, hd⟩ := hex
      have hmem : (s.o, k) ∈ ops.toList.zipIdx := by
        rw [List.mem_zipIdx_iff_getElem?]
        simpa using hopsk k s hk
      have h2 := List.all_eq_true.1 h1 (s.o, k) hmem
      simp only [hd, bne_self_eq_false, Bool.false_or, Bool.and_eq_true, Bool.or_eq_true, decide_eq_true_eq] at h2
      have hlt := (hgood k s hk).2 t hd
      have hkl0 : k < full.length := (List.getElem?_eq_some_iff.1 hk).1
      rcases h2 with h2 | h2
      case inr =>
        have hul : listed.getD k false = false := by
          cases hl : listed.getD k false with
          | false => rfl
          | true => exact absurd h2.1 (fun h => hnoti k hkl0 hl h)
        rw [canon_other g t fl ((full.take i).map Sp.pr) a0 (by
          intro p hp hdp
          obtain ⟨s', hs', rfl⟩ := List.mem_map.1 hp
          obtain ⟨k', hk'⟩ := List.mem_iff_getElem?.1 hs'
          rw [List.getElem?_take] at hk'
          split at hk'
          · have := hdst k' k s' s t hk' hk hdp hd
            omega
          · cases hk'), hm.other t (by
          intro k' s' hk' hd'
          have := hdst k' k s' s t hk' hk hd' hd
          rw [this]
          exact hul)]
      rw [canon_at g t fl ((full.take i).map Sp.pr) a0 k s.o s.T hlt h2.1 (by rw [List.getElem?_map, List.getElem?_take, if_pos h2.2, hk]; rfl) hd]
      have hlt' : t < a.tmps.size := by rw [hm.size]; exact hlt
      simp [g, Array.getD, hlt']
    · have hno : ∀ p ∈ full, p.o.dst ≠ some t := by
        intro s hp hd
        obtain ⟨k, hk⟩ := List.mem_iff_getElem?.1 hp
        exact hex ⟨k, s, hk, hd⟩
      rw [canon_other g t fl ((full.take i).map Sp.pr) a0 (by
        intro p hp
        obtain ⟨s, hs, rfl⟩ := List.mem_map.1 hp
        exact hno s (List.mem_of_mem_take hs)), hm.other t (fun k s hk hd => absurd hd (hno s (List.mem_of_getElem? hk)))]
  have hgo := hgood i sp hiT
  have hnosel : ∀ cs b, sp.o.op ≠ .select cs b := by
    intro cs b h
    have h1 := hgo.1
    simp [goodOp, h] at h1
  have hexec : execOp a.eval sp.o = execOp (canon fl ((full.take i).map Sp.pr) g a0).eval sp.o := by
    refine execOp_congr sp.o hnosel fun x hx => ?_
    cases x with
    | tmp t =>
      have ht : t ∈ sp.o.looksAt ops := List.mem_append_left _ (List.mem_filterMap.2 ⟨.tmp t, by simpa using hx, rfl⟩)
      have h1 := hslot t ht
      simp only [Act.eval]
      simp only [Array.getD_eq_getD_getElem?, h1]
    | const v => rfl
    | global v => rfl
    | func f => rfl
  have hwant : Region.wanted sp.o (yielded ops a.tmps) = Region.wanted sp.o (yielded ops (canon fl ((full.take i).map Sp.pr) g a0).tmps) := by
    unfold Region.wanted
    cases hg : sp.o.guard with
    | none => rfl
    | some gw =>
      obtain ⟨gi, want⟩ := gw
      have : yielded ops a.tmps gi = yielded ops (canon fl ((full.take i).map Sp.pr) g a0).tmps gi := by
        unfold yielded
        cases ht : (ops[gi]?).bind (·.dst) with
        | none => rfl
        | some t =>
          have hin : t ∈ sp.o.looksAt ops := List.mem_append_right _ (by simp [hg, ht])
          have h1 := hslot t hin
          simp [h1]
      simp only [this]
  unfold wpOp
  simp only [ho]
  refine upon_transfer (R := Sel N R (!wr)) hexec hwant (fun d hd => by rw [canon_size]; exact hgo.2 d hd) hgiven fun v w' hww hTv => hK _ _ ?_
  have hRww := sel_le hNR _ _ _ hww
  have hset : ∀ k, k < full.length → (listed.setIfInBounds i true).getD k false = true → k = i ∨ listed.getD k false = true := by
    intro k hk h
    by_cases hki : k = i
    · exact .inl hki
    · right
      rwa [getD_set_ne false (Ne.symm hki)] at h
  have hmono : ∀ k, listed.getD k false = true → (listed.setIfInBounds i true).getD k false = true := by
    intro k h
    by_cases hki : k = i
    · subst hki; rw [hunf] at h; cases h
    · rw [getD_set_ne false (Ne.symm hki)]; exact h
  have hseti : (listed.setIfInBounds i true).getD i false = true := by
    have : i < listed.size := by rw [hm.lsize]; exact hil
    simp [Array.getD, this]
  refine ⟨hR.trans _ _ _ hm.world hRww, ?_, ?_, ?_, by simpa using hm.lsize, ?_, ?_, ?_⟩
  · intro hno
    have hwi : W.testBit i = false := by
      cases h : W.testBit i with
      | false => rfl
      | true => have := hno i h; rw [hseti] at this; cases this
    rw [hwi] at hwr
    subst hwr
    refine hN.trans _ _ _ (hm.clean fun j hj => ?_) hww
    cases hl : listed.getD j false with
    | false => rfl
    | true => have := hno j hj; rw [hmono j hl] at this; cases this
  · rw [← hm.defers]; cases sp.o.dst <;> simp [Act.put]
  · rw [← hm.size]; cases sp.o.dst <;> simp [Act.put]
  · intro t hno
    rw [← hm.other t (fun k s hk hd => by
      have h1 := hno k s hk hd
      cases hl : listed.getD k false with
      | false => rfl
      | true => rw [hmono k hl] at h1; cases h1)]
    have h0 : sp.o.dst ≠ some t := fun hd => by
      have h1 := hno i sp hiT hd
      rw [hseti] at h1
      cases h1
    cases hd : sp.o.dst with
    | none => simp [Act.put]
    | some d =>
      have : d ≠ t := fun e => h0 (by simp [hd, e])
      simp [Act.put, Array.getElem?_setIfInBounds_ne this]
  · intro k s hk hlk e he hb
    have hkl : k < full.length := (List.getElem?_eq_some_iff.1 hk).1
    rcases hset k hkl hlk with rfl | hlk'
    · rw [hiT] at hk
      simp only [Option.some.injEq] at hk
      subst hk
      exact hmono _ (hedges e he hb)
    · exact hmono _ (hm.closed k s hk hlk' e he hb)
  · intro k s hk hlk hal
    have hkl : k < full.length := (List.getElem?_eq_some_iff.1 hk).1
    by_cases hki : k = i
    · subst hki
      rw [hiT] at hk
      simp only [Option.some.injEq] at hk
      subst hk
      unfold dstVal
      cases hd : sp.o.dst with
      | none => simpa [hd] using hTv
      | some d =>
        have hlt : d < a.tmps.size := by rw [hm.size]; exact hgo.2 d hd
        rw [hd] at hTv
        simpa [Act.put, hlt] using hTv
    · have hlk' : listed.getD k false = true := by rwa [getD_set_ne false (Ne.symm hki)] at hlk
      have e : dstVal s.o (a.put sp.o.dst v) = dstVal s.o a := by
        unfold dstVal
        cases hd' : s.o.dst with
        | none => rfl
        | some d' =>
          cases hd : sp.o.dst with
          | none => rfl
          | some d =>
            have hne : d ≠ d' := fun e => hki (hdst k i s sp d' hk hiT hd' (by rw [hd, e]))
            simp [Act.put, Array.getElem?_setIfInBounds_ne hne]
      rw [e]
      obtain ⟨hkN, hkR⟩ := hkeep s (List.mem_of_getElem? hk)
      rcases hal with hst | hal
      · exact hkR hst _ _ _ hRww (hm.done k s hk hlk' (.inl hst))
      · have hwi : W.testBit i = false := by
          cases h : W.testBit i with
          | false => rfl
          | true =>
            rcases hal i hil h hseti with h2 | h2
            · exact absurd h2.symm hki
            · have := hreach2 k i hkl hil hlk' h2
              rw [hunf] at this
              cases this
        rw [hwi] at hwr
        subst hwr
        exact hkN _ _ _ hww (hm.done k s hk hlk' (.inr fun j hj hw hlj => hal j hj hw (hmono j hlj)))

structure Sp3 where
  o : Oper
  T : Value → Ty
  st : Bool
abbrev Sp3.at (s : Sp3) (γ : Value) : Sp := ⟨s.o, s.T γ, s.st⟩
theorem Midway2.swap {full full' : List Sp} {M : List Nat} {W : Nat} {a0 : Act} {w0 : World} {listed : Array Bool} {a : Act} {w : World} (hm : Midway2 N R full M W a0 w0 listed a w) (hlen : full'.length = full.length)
    (h : ∀ (k : Nat) (s' : Sp), full'[k]? = some s' → ∃ s, full[k]? = some s ∧ s.o = s'.o ∧ s.st = s'.st ∧ (listed.getD k false = true → s.T (dstVal s.o a) w → s'.T (dstVal s'.o a) w)) : Midway2 N R full' M W a0 w0 listed a w := by
  have h' : ∀ (k : Nat) (s : Sp), full[k]? = some s → ∃ s', full'[k]? = some s' ∧ s.o = s'.o := by
    intro k s hk
    have hl : k < full'.length := by rw [hlen]; exact (List.getElem?_eq_some_iff.1 hk).1
    obtain ⟨s2, h2, h3, _⟩ := h k _ (List.getElem?_eq_getElem hl)
    rw [hk] at h2
    cases h2
    exact ⟨_, List.getElem?_eq_getElem hl, h3⟩
  refine ⟨hm.world, hm.clean, hm.defers, hm.size, by rw [hlen]; exact hm.lsize, ?_, ?_, ?_⟩
  · intro t ht
    refine hm.other t fun k s hk hd => ?_
    obtain ⟨s', h1, h2⟩ := h' k s hk
    exact ht k s' h1 (by rw [← h2]; exact hd)
  · intro k s' hk hl e he hb
    obtain ⟨s, h1, h2, _⟩ := h k s' hk
    exact hm.closed k s h1 hl e (by rw [h2]; exact he) hb
  · intro k s' hk hl hal
    obtain ⟨s, h1, h2, h3, h4⟩ := h k s' hk
    refine h4 hl (hm.done k s h1 hl ?_)
    rcases hal with h5 | h5
    · exact .inl (by rw [h3]; exact h5)
    · exact .inr fun j hj => h5 j (by rw [hlen]; exact hj)
theorem map_at (full : List Sp3) (γ : Value) : (full.map (Sp3.at · γ)).map Sp.o = full.map Sp3.o := by simp [List.map_map, Function.comp_def]
theorem map_st (full : List Sp3) (γ : Value) : (full.map (Sp3.at · γ)).map Sp.st = full.map Sp3.st := by simp [List.map_map, Function.comp_def]

theorem any_typed3 {ops : Array Oper} {full : List Sp3} {M : List Nat} {W : Nat} {a0 : Act} {w0 : World} {ia : Nat} (hN : Steady N) (hR : Steady R) (hNR : ∀ w w', N w w' → R w w') (hops : ops = (full.map Sp3.o).toArray)
    (hok : regionOk a0.tmps.size (full.map Sp3.o) = true) (hM : maskOk (full.map Sp3.o) M = true) (hW : W < 2 ^ full.length)
    (hkeep : ∀ p ∈ full, ∀ γ, Keeps N (p.T γ) ∧ (p.st = true → Keeps R (p.T γ)))
    (hcon : ∀ (k : Nat) (sp : Sp3), full[k]? = some sp → k ≠ ia → mbit M k ia = true ∨ ∀ γ γ' v w, sp.T γ v w → sp.T γ' v w)
    (hobl : ∀ i sp, full[i]? = some sp → ∃ (fl : List Bool) (pu wr : Bool), (flagsOk2 ops M W ((full.take i).map Sp3.st) i sp.o fl && (W.testBit i == wr) && (!pu || pureOk M W ops.size i)) = true ∧
        ∀ γ w1, Sel N R pu w0 w1 → Given w1 (fun a => wpList P ops (Post (Sel N R (!wr)) (if i = ia then fun v w => sp.T v v w else sp.T γ) sp.o a w1) [sp.o] a w1) fl ((full.take i).map fun s => (s.at γ).pr) a0)
    (hfin : ∃ al : List Bool, aliveOk M W ops.size (full.map Sp3.st) al = true ∧ ∀ γ w', Sel N R (W == 0) w0 w' → Fin2 w' (fun a => Q .normal a w') al (full.map fun s => (s.at γ).pr) a0) :
    ∀ (fuel : Nat) (listed : Array Bool) (a : Act) (w : World), (∃ γ, Midway2 N R (full.map (Sp3.at · γ)) M W a0 w0 listed a w) → full.length ≤ fuel + listed.toList.count true → wpAny P .any ops Q fuel listed a w := by
  have hopsz : ops.size = full.length := by subst hops; simp
  have hback : ∀ (k : Nat) (s : Sp3), full[k]? = some s → ∀ e ∈ s.o.after, Region.binds .any e = true → e.on < k := by
    intro k s hk e he hb
    have hok' := hok
    simp only [regionOk, Bool.and_eq_true] at hok'
    have hm : (s.o, k) ∈ (full.map Sp3.o).zipIdx := by
      rw [List.mem_zipIdx_iff_getElem?]
      simp [hk]
    have h1 := List.all_eq_true.1 hok'.2 (s.o, k) hm
    have h2 := Array.all_eq_true_iff_forall_mem.1 h1 e he
    simpa [hb] using h2
  have hopsk : ∀ (k : Nat) (s : Sp3), full[k]? = some s → ops[k]? = some s.o := by
    intro k s hk
    subst hops
    simp [hk]
  have hopsk' : ∀ (k : Nat) (o : Oper), ops[k]? = some o → ∃ s, full[k]? = some s ∧ s.o = o := by
    intro k o hk
    subst hops
    simp only [List.getElem?_toArray, List.getElem?_map, Option.map_eq_some_iff] at hk
    exact hk
  have fin : ∀ (listed : Array Bool) (a : Act) (w : World), (∃ γ, Midway2 N R (full.map (Sp3.at · γ)) M W a0 w0 listed a w) → (∀ k, k < full.length → listed.getD k false = true) → Q .normal a w := by
    rintro listed a w ⟨γ, hm⟩ hl
    refine fin_typed2 (ops := ops) (full := full.map (Sp3.at · γ)) hN hR hNR (by rw [map_at]; exact hops) (by rw [map_at]; exact hok) (by rw [map_at]; exact hM) (by simpa using hW) ?_ listed a w hm (by simpa using hl)
    obtain ⟨al, h1, h2⟩ := hfin
    refine ⟨al, by rw [map_st]; exact h1, fun w' hw' => ?_⟩
    have := h2 γ w' hw'
    simpa [List.map_map, Function.comp_def] using this
  have ready_nil : ∀ (listed : Array Bool), listed.size = full.length → Region.ready .any ops listed = [] → ∀ k, k < full.length → listed.getD k false = true := by
    intro listed hls hr k
    induction k using Nat.strongRecOn with
    | _ k ih =>
      intro hk
      cases hc : listed.getD k false with
      | true => rfl
      | false =>
        exfalso
        obtain ⟨s, hp⟩ : ∃ p, full[k]? = some p := ⟨_, List.getElem?_eq_getElem hk⟩
        have : k ∈ Region.ready .any ops listed := by
          rw [mem_ready]
          refine ⟨by rw [getD_of_lt (by omega) true false]; exact hc, s.o, hopsk k s hp, fun e he hb => ?_⟩
          have := hback k s hp e he hb
          exact ih e.on this (by omega)
        rw [hr] at this
        cases this
  have getm : ∀ (γ : Value) (k : Nat) (s : Sp), (full.map (Sp3.at · γ))[k]? = some s → ∃ s3, full[k]? = some s3 ∧ s = s3.at γ := by
    intro γ k s hk
    rw [List.getElem?_map, Option.map_eq_some_iff] at hk
    obtain ⟨s3, h1, h2⟩ := hk
    exact ⟨s3, h1, h2.symm⟩
  have ahead : ∀ (γ : Value) (listed : Array Bool) (a : Act) (w : World), Midway2 N R (full.map (Sp3.at · γ)) M W a0 w0 listed a w → listed.getD ia false = false → ia < full.length → ∀ k, k < full.length → listed.getD k false = true → mbit M k ia = false := by
    intro γ listed a w hm hun hia k hk hl
    cases hb : mbit M k ia with
    | false => rfl
    | true =>
      exfalso
      obtain ⟨s, hs⟩ : ∃ s, full[k]? = some s := ⟨_, List.getElem?_eq_getElem hk⟩
      have hs' : (full.map (Sp3.at · γ))[k]? = some (s.at γ) := by rw [List.getElem?_map, hs]; rfl
      have := mask_reach (full := full.map (Sp3.at · γ)) (by rw [map_at]; exact hM) hm.closed k _ ia hs' (hm.closed k _ hs' hl) (by simpa using hia) hb
      rw [hun] at this
      cases this
  have step : ∀ (listed : Array Bool) (a : Act) (w : World) (K : Act → World → Prop) (i : Nat), (∃ γ, Midway2 N R (full.map (Sp3.at · γ)) M W a0 w0 listed a w) → i ∈ Region.ready .any ops listed →
      (∀ a' w', (∃ γ, Midway2 N R (full.map (Sp3.at · γ)) M W a0 w0 (listed.setIfInBounds i true) a' w') → K a' w') → wpOp P ops Q i K a w := by
    rintro listed a w K i ⟨γ, hm⟩ hi hK
    obtain ⟨hun, o, ho, hedges⟩ := mem_ready.1 hi
    obtain ⟨sp, hiT, rfl⟩ := hopsk' i o ho
    have hil : i < full.length := (List.getElem?_eq_some_iff.1 hiT).1
    have hls : listed.size = full.length := by have := hm.lsize; simpa using this
    have hunf : listed.getD i false = false := by rw [getD_of_lt (by rw [hls]; exact hil) false true, hun]
    by_cases hia : i = ia
    · subst hia
      obtain ⟨full2, hf2⟩ : ∃ q, (full.map (Sp3.at · γ)).set i ⟨sp.o, fun v w => sp.T v v w, sp.st⟩ = q := ⟨_, rfl⟩
      have hlen2 : full2.length = full.length := by rw [← hf2]; simp
      have hget2 : ∀ (k : Nat) (s : Sp), full2[k]? = some s → (k = i ∧ s = ⟨sp.o, fun v w => sp.T v v w, sp.st⟩) ∨ (k ≠ i ∧ ∃ s3, full[k]? = some s3 ∧ s = s3.at γ) := by
        intro k s hk
        rw [← hf2, List.getElem?_set] at hk
        split at hk
        · rename_i e
          subst e
          rw [if_pos (by simpa using hil)] at hk
          cases hk
          exact .inl ⟨rfl, rfl⟩
        · rename_i e
          exact .inr ⟨fun e2 => e e2.symm, getm γ k s hk⟩
      have hso : full2.map Sp.o = full.map Sp3.o := by
        apply List.ext_getElem?
        intro k
        rw [List.getElem?_map, List.getElem?_map]
        cases hk : full2[k]? with
        | none =>
          have : full.length ≤ k := by rw [← hlen2]; exact List.getElem?_eq_none_iff.1 hk
          rw [List.getElem?_eq_none this]
          rfl
        | some s =>
          rcases hget2 k s hk with ⟨rfl, rfl⟩ | ⟨_, s3, h3, rfl⟩
          · rw [hiT]; rfl
          · rw [h3]; rfl
      have htake : full2.take i = (full.map (Sp3.at · γ)).take i := by
        rw [← hf2, List.take_set]
        exact List.set_eq_of_length_le (by rw [List.length_take]; omega)
      have hm2 : Midway2 N R full2 M W a0 w0 listed a w := by
        refine hm.swap (by simp [hlen2]) fun k s' hk => ?_
        rcases hget2 k s' hk with ⟨rfl, rfl⟩ | ⟨_, s3, h3, rfl⟩
        · exact ⟨sp.at γ, by rw [List.getElem?_map, hiT]; rfl, rfl, rfl, fun h => by rw [hunf] at h; cases h⟩
        · exact ⟨s3.at γ, by rw [List.getElem?_map, h3]; rfl, rfl, rfl, fun _ h => h⟩
      refine step_typed2 (ops := ops) (full := full2) hN hR hNR (by rw [hso]; exact hops) (by rw [hso]; exact hok) (by rw [hso]; exact hM) (by rw [hlen2]; exact hW) ?_ i ?_ listed a w K hm2 hi ?_
      · intro p hp
        obtain ⟨k, hk⟩ := List.mem_iff_getElem?.1 hp
        rcases hget2 k p hk with ⟨rfl, rfl⟩ | ⟨_, s3, h3, rfl⟩
        · have h4 := hkeep sp (List.mem_of_getElem? hiT)
          exact ⟨fun v w w' hw h => (h4 v).1 v w w' hw h, fun hst v w w' hw h => (h4 v).2 hst v w w' hw h⟩
        · exact hkeep s3 (List.mem_of_getElem? h3) γ
      · intro s hs
        rcases hget2 i s hs with ⟨_, rfl⟩ | ⟨h, _⟩
        · obtain ⟨fl, pu, wr, h1, h2⟩ := hobl i sp hiT
          refine ⟨fl, pu, wr, ?_, fun w1 hw1 => ?_⟩
          · rw [htake, ← List.map_take, map_st]
            exact h1
          · have h3 := h2 γ w1 hw1
            rw [if_pos rfl] at h3
            rw [htake, ← List.map_take, List.map_map]
            exact h3
        · exact absurd rfl h
      · intro a' w' hm'
        refine hK a' w' ⟨dstVal sp.o a', hm'.swap (by simp [hlen2]) fun k s' hk => ?_⟩
        obtain ⟨s3, h3, rfl⟩ := getm _ k s' hk
        by_cases hki : k = i
        · subst hki
          rw [hiT] at h3
          cases h3
          refine ⟨⟨sp.o, fun v w => sp.T v v w, sp.st⟩, ?_, rfl, rfl, fun _ h => h⟩
          rw [← hf2, List.getElem?_set, if_pos rfl, if_pos (by simpa using hil)]
        · refine ⟨s3.at γ, ?_, rfl, rfl, fun hl h => ?_⟩
          · rw [← hf2, List.getElem?_set, if_neg (fun e => hki e.symm), List.getElem?_map, h3]
            rfl
          · have hkl : k < full.length := (List.getElem?_eq_some_iff.1 h3).1
            have hl' : listed.getD k false = true := by rwa [getD_set_ne false (Ne.symm hki)] at hl
            rcases hcon k s3 h3 hki with h5 | h5
            · rw [ahead γ listed a w hm hunf hil k hkl hl'] at h5
              cases h5
            · exact h5 _ _ _ _ h
    · refine step_typed2 (ops := ops) (full := full.map (Sp3.at · γ)) hN hR hNR (by rw [map_at]; exact hops) (by rw [map_at]; exact hok) (by rw [map_at]; exact hM) (by simpa using hW) ?_ i ?_ listed a w K hm hi fun a' w' hm' => hK a' w' ⟨γ, hm'⟩
      · intro p hp
        obtain ⟨k, hk⟩ := List.mem_iff_getElem?.1 hp
        obtain ⟨s3, h3, rfl⟩ := getm _ k p hk
        exact hkeep s3 (List.mem_of_getElem? h3) γ
      · intro s hs
        obtain ⟨s3, h3, rfl⟩ := getm _ i s hs
        obtain ⟨fl, pu, wr, h1, h2⟩ := hobl i s3 h3
        refine ⟨fl, pu, wr, ?_, fun w1 hw1 => ?_⟩
        · rw [← List.map_take, map_st]
          exact h1
        · have h4 := h2 γ w1 hw1
          rw [if_neg hia] at h4
          rw [← List.map_take, List.map_map]
          exact h4
  intro fuel
  induction fuel with
  | zero =>
    intro listed a w hm hcount
    have hls : listed.size = full.length := by obtain ⟨γ, hm⟩ := hm; have := hm.lsize; simpa using this
    have hall' : ∀ k, k < full.length → listed.getD k false = true := by
      intro k hk
      have hlen : listed.toList.length = full.length := by obtain ⟨γ, hm⟩ := hm; have := hm.lsize; simpa using this
      have hc : listed.toList.count true = listed.toList.length := by
        have := List.count_le_length (a := true) (l := listed.toList)
        omega
      have := List.count_eq_length.1 hc
      have hk' : k < listed.size := by rw [hls]; exact hk
      have h2 := this listed[k] (by simp)
      simp [Array.getD, hk', ← h2]
    refine ⟨?_, fin listed a w hm hall'⟩
    rw [List.eq_nil_iff_forall_not_mem]
    intro i hi
    obtain ⟨hun, o, ho, _⟩ := mem_ready.1 hi
    obtain ⟨T, hiT, _⟩ := hopsk' i o ho
    have hil : i < full.length := (List.getElem?_eq_some_iff.1 hiT).1
    have h1 := hall' i hil
    rw [getD_of_lt (by rw [hls]; exact hil) false true, hun] at h1
    cases h1
  | succ fuel ih =>
    intro listed a w hm hcount
    have hls : listed.size = full.length := by obtain ⟨γ, hm⟩ := hm; have := hm.lsize; simpa using this
    refine ⟨fun h0 => fin listed a w hm (ready_nil listed hls h0), fun i hi => ?_⟩
    refine step listed a w _ i hm hi fun a' w' hm' => ih _ _ _ hm' ?_
    obtain ⟨hun, o, ho, _⟩ := mem_ready.1 hi
    obtain ⟨T, hiT, _⟩ := hopsk' i o ho
    have hil : i < full.length := (List.getElem?_eq_some_iff.1 hiT).1
    have hil' : i < listed.size := by rw [hls]; exact hil
    have hf : listed[i] = false := by simpa [Array.getD, hil'] using hun
    have hset : (listed.setIfInBounds i true).toList = listed.toList.set i true := by simp
    rw [hset, List.count_set (by simpa using hil')]
    have hf' : listed.toList[i]'(by simpa using hil') = false := by simpa using hf
    simp only [hf']
    simp
    have hc := hcount
    simp only [Array.count_toList] at hc
    omega


def Stage3 (P : Program) (ops : Array Oper) (N R : World → World → Prop) (M : List Nat) (W ia : Nat) (a0 : Act) (w0 : World) (K : Act → World → Prop) : List Sp3 → List Oper → Prop
  | done, [] => ∃ al : List Bool, aliveOk M W ops.size (done.map Sp3.st) al = true ∧ ∀ γ w', Sel N R (W == 0) w0 w' → Fin2 w' (fun a => K a w') al (done.map fun s => (s.at γ).pr) a0
  | done, o :: r => ∃ (T : Value → Ty) (st : Bool) (fl : List Bool) (pu wr : Bool), (∀ γ, Keeps N (T γ) ∧ (st = true → Keeps R (T γ))) ∧ (done.length ≠ ia → mbit M done.length ia = true ∨ ∀ γ γ' v w, T γ v w → T γ' v w) ∧ (flagsOk2 ops M W (done.map Sp3.st) done.length o fl && (W.testBit done.length == wr) && (!pu || pureOk M W ops.size done.length)) = true ∧
      (∀ γ w1, Sel N R pu w0 w1 → Given w1 (fun a => wpList P ops (Post (Sel N R (!wr)) (if done.length = ia then fun v w => T v v w else T γ) o a w1) [o] a w1) fl (done.map fun s => (s.at γ).pr) a0) ∧ Stage3 P ops N R M W ia a0 w0 K (done ++ [⟨o, T, st⟩]) r

theorem Stage3.all {ops : Array Oper} {M : List Nat} {W ia : Nat} {a0 : Act} {w0 : World} {K : Act → World → Prop} : ∀ (todo : List Oper) (done : List Sp3), Stage3 P ops N R M W ia a0 w0 K done todo →
    ∃ rest : List Sp3, rest.map Sp3.o = todo ∧ (∀ p ∈ rest, ∀ γ, Keeps N (p.T γ) ∧ (p.st = true → Keeps R (p.T γ))) ∧
      (∃ al : List Bool, aliveOk M W ops.size ((done ++ rest).map Sp3.st) al = true ∧ ∀ γ w', Sel N R (W == 0) w0 w' → Fin2 w' (fun a => K a w') al ((done ++ rest).map fun s => (s.at γ).pr) a0) ∧
      (∀ i sp, rest[i]? = some sp → done.length + i ≠ ia → mbit M (done.length + i) ia = true ∨ ∀ γ γ' v w, sp.T γ v w → sp.T γ' v w) ∧
      ∀ i sp, rest[i]? = some sp → ∃ (fl : List Bool) (pu wr : Bool), (flagsOk2 ops M W ((done ++ rest.take i).map Sp3.st) (done.length + i) sp.o fl && (W.testBit (done.length + i) == wr) && (!pu || pureOk M W ops.size (done.length + i))) = true ∧
        ∀ γ w1, Sel N R pu w0 w1 → Given w1 (fun a => wpList P ops (Post (Sel N R (!wr)) (if done.length + i = ia then fun v w => sp.T v v w else sp.T γ) sp.o a w1) [sp.o] a w1) fl ((done ++ rest.take i).map fun s => (s.at γ).pr) a0
  | [], done, h => ⟨[], rfl, by simp, by simpa [Stage3] using h, by simp, by simp⟩
  | o :: r, done, h => by
    obtain ⟨T, st, fl, pu, wr, hk, hc, hf, ho, hs⟩ := h
    obtain ⟨rest, h1, h2, h3, h5, h4⟩ := Stage3.all r _ hs
    refine ⟨⟨o, T, st⟩ :: rest, by simp [h1], ?_, by simpa using h3, ?_, ?_⟩
    · intro p hp
      rcases List.mem_cons.1 hp with rfl | hp
      · exact hk
      · exact h2 p hp
    · intro i sp hi hne
      rcases i with _ | i
      · simp only [List.getElem?_cons_zero, Option.some.injEq] at hi
        subst hi
        exact hc (by simpa using hne)
      · have := h5 i sp (by simpa using hi) (by simp; omega)
        simp only [List.length_append, List.length_singleton] at this
        rw [show done.length + 1 + i = done.length + (i + 1) by omega] at this
        exact this
    · intro i sp hi
      rcases i with _ | i
      · simp only [List.getElem?_cons_zero, Option.some.injEq] at hi
        subst hi
        exact ⟨fl, pu, wr, by simpa using hf, by simpa using ho⟩
      · obtain ⟨fl', pu', wr', hf', ho'⟩ := h4 i sp (by simpa using hi)
        simp only [List.length_append, List.length_singleton, List.append_assoc, List.singleton_append] at hf' ho'
        rw [show done.length + 1 + i = done.length + (i + 1) by omega] at hf' ho'
        exact ⟨fl', pu', wr', by simpa using hf', by simpa using ho'⟩

theorem wp_region_typed3 {id : Nat} {l : List Oper} {a0 : Act} {w0 : World} (hN : Steady N) (hR : Steady R) (hNR : ∀ w w', N w w' → R w w') (hm : P.follows .mixedOrders = true) (n : Nat) (hn : a0.tmps.size = n) (M : List Nat) (W ia : Nat)
    (hok : (regionOk n l && maskOk l M && decide (W < 2 ^ l.length)) = true)
    (h : Stage3 P l.toArray N R M W ia a0 w0 (Q .normal) [] l) : (Code.region id l.toArray true).wp P Q a0 w0 := by
  obtain ⟨rest, h1, h2, h3, h5, h4⟩ := Stage3.all l [] h
  subst h1
  subst hn
  simp only [Bool.and_eq_true, decide_eq_true_eq] at hok
  refine wp_region_any hm ?_
  refine any_typed3 (full := rest) (ia := ia) (a0 := a0) (w0 := w0) hN hR hNR rfl hok.1.1 hok.1.2 (by simpa using hok.2) h2 (by simpa using h5) (by simpa using h4) (by simpa using h3) _ _ _ _ ⟨undef, hNR _ _ (hN.drew w0), fun _ => hN.drew w0, rfl, rfl, by simp, fun _ _ => rfl, ?_, ?_⟩ (by simp)
  · intro k sp hk hl
    have hlt : k < rest.length := by have := (List.getElem?_eq_some_iff.1 hk).1; simpa using this
    simp [Array.getD, hlt] at hl
  · intro k sp hk hl
    have hlt : k < rest.length := by have := (List.getElem?_eq_some_iff.1 hk).1; simpa using this
    simp [Array.getD, hlt] at hl

theorem Stage3.nil {ops : Array Oper} {M : List Nat} {W ia : Nat} {a0 : Act} {w0 : World} {K : Act → World → Prop} {done : List Sp3} (al : List Bool) (hal : aliveOk M W ops.size (done.map Sp3.st) al = true)
    (h : ∀ γ w', Sel N R (W == 0) w0 w' → Fin2 w' (fun a => K a w') al (done.map fun s => (s.at γ).pr) a0) : Stage3 P ops N R M W ia a0 w0 K done [] := ⟨al, hal, h⟩
/-- a step whose type does not name the box -/
theorem Stage3.step {ops : Array Oper} {M : List Nat} {W ia : Nat} {a0 : Act} {w0 : World} {K : Act → World → Prop} {done : List Sp3} {o : Oper} {r : List Oper} (T : Ty) (st : Bool) (fl : List Bool) (pu wr : Bool) (hk : Keeps N T) (hk2 : st = true → Keeps R T)
    (hf : ((flagsOk2 ops M W (done.map Sp3.st) done.length o fl && (W.testBit done.length == wr) && (!pu || pureOk M W ops.size done.length)) && (done.length != ia)) = true)
    (h : ∀ γ w1, Sel N R pu w0 w1 → Given w1 (fun a => wpList P ops (Post (Sel N R (!wr)) T o a w1) [o] a w1) fl (done.map fun s => (s.at γ).pr) a0)
    (hr : Stage3 P ops N R M W ia a0 w0 K (done ++ [⟨o, fun _ => T, st⟩]) r) : Stage3 P ops N R M W ia a0 w0 K done (o :: r) := by
  rw [Bool.and_eq_true] at hf
  have hne : done.length ≠ ia := by simpa using hf.2
  exact ⟨fun _ => T, st, fl, pu, wr, fun _ => ⟨hk, hk2⟩, fun _ => .inr fun _ _ _ _ h => h, hf.1, by simp only [hne, if_false]; exact h, hr⟩
/-- a step behind the making of the box, whose type may name it -/
theorem Stage3.stepD {ops : Array Oper} {M : List Nat} {W ia : Nat} {a0 : Act} {w0 : World} {K : Act → World → Prop} {done : List Sp3} {o : Oper} {r : List Oper} (T : Value → Ty) (st : Bool) (fl : List Bool) (pu wr : Bool) (hk : ∀ γ, Keeps N (T γ)) (hk2 : st = true → ∀ γ, Keeps R (T γ))
    (hf : ((flagsOk2 ops M W (done.map Sp3.st) done.length o fl && (W.testBit done.length == wr) && (!pu || pureOk M W ops.size done.length)) && ((done.length != ia) && mbit M done.length ia)) = true)
    (h : ∀ γ w1, Sel N R pu w0 w1 → Given w1 (fun a => wpList P ops (Post (Sel N R (!wr)) (T γ) o a w1) [o] a w1) fl (done.map fun s => (s.at γ).pr) a0)
    (hr : Stage3 P ops N R M W ia a0 w0 K (done ++ [⟨o, T, st⟩]) r) : Stage3 P ops N R M W ia a0 w0 K done (o :: r) := by
  rw [Bool.and_eq_true] at hf
  have hf2 := hf.2
  rw [Bool.and_eq_true] at hf2
  have hne : done.length ≠ ia := by simpa using hf2.1
  exact ⟨T, st, fl, pu, wr, fun γ => ⟨hk γ, fun hs => hk2 hs γ⟩, fun _ => .inl hf2.2, hf.1, by simp only [hne, if_false]; exact h, hr⟩
/-- the making of the box -/
theorem Stage3.stepA {ops : Array Oper} {M : List Nat} {W ia : Nat} {a0 : Act} {w0 : World} {K : Act → World → Prop} {done : List Sp3} {o : Oper} {r : List Oper} (T : Ty) (st : Bool) (fl : List Bool) (pu wr : Bool) (hk : Keeps N T) (hk2 : st = true → Keeps R T)
    (hf : ((flagsOk2 ops M W (done.map Sp3.st) done.length o fl && (W.testBit done.length == wr) && (!pu || pureOk M W ops.size done.length)) && (done.length == ia)) = true)
    (h : ∀ γ w1, Sel N R pu w0 w1 → Given w1 (fun a => wpList P ops (Post (Sel N R (!wr)) T o a w1) [o] a w1) fl (done.map fun s => (s.at γ).pr) a0)
    (hr : Stage3 P ops N R M W ia a0 w0 K (done ++ [⟨o, fun γ v w => v = γ ∧ T v w, st⟩]) r) : Stage3 P ops N R M W ia a0 w0 K done (o :: r) := by
  rw [Bool.and_eq_true] at hf
  have he : done.length = ia := by simpa using hf.2
  refine ⟨fun γ v w => v = γ ∧ T v w, st, fl, pu, wr, fun γ => ⟨fun v w w' hw h => ⟨h.1, hk v w w' hw h.2⟩, fun hs v w w' hw h => ⟨h.1, hk2 hs v w w' hw h.2⟩⟩, fun hn => absurd he hn, hf.1, ?_, hr⟩
  simp only [he, if_true, true_and]
  exact h
end
attribute [irreducible] Stage3

theorem ev_lit {w : World} {A : Option Addr} {n c : Nat} {l : List UInt8} {k o m : Int} {s : ByteArray} (h : Sl w A n c l) (hs : s.size ≤ maxLen) : Lst 5 evR (w.alloc (.cells #[.int .i64 k, .int .i64 o, .int .i64 m, .slice A n c, .string s] TEv)) (some ⟨w.heap.size, 0, none⟩) 1 1 [⟨k, o, m, l, s⟩] := by
  refine ⟨rfl, Nat.le_refl _, by simp [maxLen], [[.int .i64 k, .int .i64 o, .int .i64 m, .slice A n c, .string s]], .cons ⟨A, n, c, rfl, h.ext (Ext.alloc _ _), hs⟩ .nil, ?_⟩
  exact (Own.made w w.heap.size TEv 5 #[.int .i64 k, .int .i64 o, .int .i64 m, .slice A n c, .string s] 1 1 (Nat.le_refl _) (Nat.le_refl _) (by simp [maxLen]) rfl).rd
/-- a row of one event -/
def EvL1 (x : Ev) : Ty := fun v w => ∃ A, v = .slice A 1 1 ∧ Lst 5 evR w A 1 1 [x]
theorem EvL1.keeps (x : Ev) : Keeps Ext (EvL1 x) := fun _ _ _ hx ⟨A, e, h⟩ => ⟨A, e, h.ext ev_rep hx⟩

/-- a value that is an image in memory of its own -/
def StT (B : Nat) (s : St) : Ty := fun v w => ∃ A n c A2 n2 c2, v = stV A n c A2 n2 c2 ∧ StF w B A n c A2 n2 c2 s
theorem StT.keeps (B : Nat) (s : St) : Keeps Ext (StT B s) := fun _ _ _ hx ⟨A, n, c, A2, n2, c2, e, h⟩ => ⟨A, n, c, A2, n2, c2, e, h.ext hx⟩
/-- a pair of an image and a number -/
def StE (B : Nat) (s : St) (r : Nat) : Ty := fun v w => ∃ A n c A2 n2 c2, v = .tuple #[stV A n c A2 n2 c2, .int .i64 r] ∧ StF w B A n c A2 n2 c2 s
theorem StE.keeps (B : Nat) (s : St) (r : Nat) : Keeps Ext (StE B s r) := fun _ _ _ hx ⟨A, n, c, A2, n2, c2, e, h⟩ => ⟨A, n, c, A2, n2, c2, e, h.ext hx⟩
/-- the image in a box -/
def StB (g B : Nat) (s : St) : Ty := fun _ w => ∃ A n c A2 n2 c2, w.cell? ⟨g, 0, none⟩ = some (.slice A n c) ∧ w.cell? ⟨g, 1, none⟩ = some (.slice A2 n2 c2) ∧ (∀ q, w.frozen? ⟨g, q, none⟩ = false) ∧ StF w B A n c A2 n2 c2 s ∧ g < w.heap.size
theorem StB.keeps (g B : Nat) (s : St) : Keeps Ext (StB g B s) := fun _ _ _ hx ⟨A, n, c, A2, n2, c2, h0, h1, hf, h, hg⟩ => ⟨A, n, c, A2, n2, c2, hx.cell h0, hx.cell h1, fun q => frozen_ext hx hg (hf q), h.ext hx, Nat.lt_of_lt_of_le hg hx.size⟩
/-- two cells of a box set -/
theorem stb_set {w : World} {g B B' : Nat} {u0 u1 : Value} {A : Option Addr} {n c : Nat} {A2 : Option Addr} {n2 c2 : Nat} {s : St} (c0 : w.cell? ⟨g, 0, none⟩ = some u0) (c1 : w.cell? ⟨g, 1, none⟩ = some u1) (hf : ∀ q, w.frozen? ⟨g, q, none⟩ = false) (h : StF w B A n c A2 n2 c2 s) (hg : g < B) (hw : g < w.heap.size) (hB : B' ≤ B) (v : Value) :
    StB g B' s v ((w.setCell ⟨g, 0, none⟩ (.slice A n c)).setCell ⟨g, 1, none⟩ (.slice A2 n2 c2)) := by
  refine ⟨A, n, c, A2, n2, c2, ?_, ?_, ?_, ?_, ?_⟩
  · rw [World.cell?_setCell_other _ _ _ _ (fun e => by injection e with e1 e2; omega)]
    exact World.cell?_setCell_same _ _ _ c0
  · exact World.cell?_setCell_same _ _ _ (by rw [World.cell?_setCell_other _ _ _ _ (fun e => by injection e with e1 e2; omega)]; exact c1)
  · intro q
    rw [World.frozen?_setCell, World.frozen?_setCell]
    exact hf q
  · exact ((h.sets (p := ⟨g, 0, none⟩) hg _).sets (p := ⟨g, 1, none⟩) hg _).low hB
  · simp [World.setCell]; omega
theorem but_set2 {w : World} {H g : Nat} (u v : Value) : But H (fun k => k = g) w ((w.setCell ⟨g, 0, none⟩ u).setCell ⟨g, 1, none⟩ v) :=
  But.setCell (S := fun k => k = g) (But.setCell (S := fun k => k = g) (But.refl H (fun k => k = g) w) (p := ⟨g, 0, none⟩) (.inl rfl) u) (p := ⟨g, 1, none⟩) (.inl rfl) v

def set2 (w : World) (g : Nat) (u v : Value) : World := (w.setCell ⟨g, 0, none⟩ u).setCell ⟨g, 1, none⟩ v
theorem set2_other {w : World} {g : Nat} {u v : Value} {p : Addr} (h0 : p ≠ ⟨g, 0, none⟩) (h1 : p ≠ ⟨g, 1, none⟩) : (set2 w g u v).cell? p = w.cell? p := by
  unfold set2
  rw [World.cell?_setCell_other _ _ _ _ (Ne.symm h1), World.cell?_setCell_other _ _ _ _ (Ne.symm h0)]
/-- a block whose first two cells are slices, and that may be written -/
def IsBox (g : Nat) (w : World) : Prop := g < w.heap.size ∧ (∃ A n c A2 n2 c2, w.cell? ⟨g, 0, none⟩ = some (.slice A n c) ∧ w.cell? ⟨g, 1, none⟩ = some (.slice A2 n2 c2)) ∧ ∀ q, w.frozen? ⟨g, q, none⟩ = false
theorem IsBox.ext {g : Nat} {w w' : World} (h : IsBox g w) (hx : Ext w w') : IsBox g w' := by
  obtain ⟨h1, ⟨A, n, c, A2, n2, c2, h2, h3⟩, h4⟩ := h
  exact ⟨Nat.lt_of_lt_of_le h1 hx.size, ⟨A, n, c, A2, n2, c2, hx.cell h2, hx.cell h3⟩, fun q => frozen_ext hx h1 (h4 q)⟩
theorem IsBox.set {g g' : Nat} {w : World} (h : IsBox g w) (A : Option Addr) (n c : Nat) (A2 : Option Addr) (n2 c2 : Nat) : IsBox g (set2 w g' (.slice A n c) (.slice A2 n2 c2)) := by
  obtain ⟨h1, ⟨B, m, d, B2, m2, d2, h2, h3⟩, h4⟩ := h
  refine ⟨by unfold set2; simp [World.setCell]; omega, ?_, fun q => by unfold set2; rw [World.frozen?_setCell, World.frozen?_setCell]; exact h4 q⟩
  by_cases e : g = g'
  · subst e
    refine ⟨A, n, c, A2, n2, c2, ?_, ?_⟩
    · unfold set2
      rw [World.cell?_setCell_other _ _ _ _ (fun e => by injection e with e1 e2; omega)]
      exact World.cell?_setCell_same _ _ _ h2
    · unfold set2
      exact World.cell?_setCell_same _ _ _ (by rw [World.cell?_setCell_other _ _ _ _ (fun e => by injection e with e1 e2; omega)]; exact h3)
  · have h5 : ∀ j : Nat, (⟨g, j, none⟩ : Addr) ≠ ⟨g', 0, none⟩ ∧ (⟨g, j, none⟩ : Addr) ≠ ⟨g', 1, none⟩ := fun j => ⟨fun e2 => by injection e2 with e3; exact e e3, fun e2 => by injection e2 with e3; exact e e3⟩
    exact ⟨B, m, d, B2, m2, d2, by rw [set2_other (h5 0).1 (h5 0).2]; exact h2, by rw [set2_other (h5 1).1 (h5 1).2]; exact h3⟩
theorem cell_spot {w : World} {p : Addr} {u : Value} (h : w.cell? p = some u) : p.spot = none := by
  unfold World.cell? at h
  split at h
  · split at h
    · cases h
    · rename_i h2
      cases hs : p.spot with
      | none => rfl
      | some x => rw [hs] at h2; simp at h2
  · cases h
theorem add_block (a : Addr) (j : Nat) : (a.add j).block = a.block := by unfold Addr.add; split <;> rfl
theorem add_off (a : Addr) (j : Nat) : (a.add j).off = a.off + j := by
  unfold Addr.add
  split
  · rename_i h; rw [h]; rfl
  · rfl
theorem Sl.box {w : World} {g : Nat} {A : Option Addr} {n c : Nat} {l : List UInt8} (h : Sl w A n c l) (hb : IsBox g w) (u v : Value) : Sl (set2 w g u v) A n c l := by
  obtain ⟨_, ⟨B, m, d, B2, m2, d2, h2, h3⟩, _⟩ := hb
  refine ⟨h.len, h.cap, h.max, h.rd.1, fun hn => ?_⟩
  obtain ⟨ad, e, hc⟩ := h.rd.2 hn
  refine ⟨ad, e, fun j x hx => ?_⟩
  have h4 := hc j x hx
  obtain ⟨b, _, rfl⟩ : ∃ b, l[j]? = some b ∧ bv b = x := by simpa using hx
  rw [set2_other]
  · exact h4
  · intro e2; rw [e2, h2] at h4; cases h4
  · intro e2; rw [e2, h3] at h4; cases h4
theorem ol_parity {w : World} {R : Ol → List Value → World → Prop} (hR : ∀ x cs w, R x cs w → ∃ s A n c, cs = [.string s, .slice A n c]) : ∀ {xs : List Ol} {css : List (List Value)}, All2 R w xs css → ∀ (j : Nat) (A : Option Addr) (n c : Nat), css.flatten[j]? = some (.slice A n c) → ∃ i s, j = i + 1 ∧ css.flatten[i]? = some (.string s)
  | _, _, .nil, j, A, n, c, h => by simp at h
  | _, _, .cons hx t, j, A, n, c, h => by
    obtain ⟨s, A', n', c', rfl⟩ := hR _ _ _ hx
    match j with
    | 0 => simp at h
    | 1 => exact ⟨0, s, rfl, by simp⟩
    | j + 2 =>
      obtain ⟨i, s', e, h2⟩ := ol_parity hR t j A n c (by simpa using h)
      exact ⟨i + 2, s', by omega, by simpa using h2⟩
theorem from_ol {B : Nat} : ∀ x cs w, fromR olR B x cs w → ∃ s A n c, cs = [.string s, .slice A n c] := by
  rintro x cs w ⟨⟨A, n, c, rfl, _⟩, _⟩
  exact ⟨_, _, _, _, rfl⟩
theorem Lst.box {w : World} {g B : Nat} {A : Option Addr} {n c : Nat} {xs : List Ol} (h : Lst 2 (fromR olR B) w A n c xs) (hb : IsBox g w) (u v : Value) : Lst 2 (fromR olR B) (set2 w g u v) A n c xs := by
  obtain ⟨css, h1, h2⟩ := h.rd
  refine ⟨h.len, h.cap, h.max, css, h1.mono fun x cs _ hr => ?_, h2.1, fun hn => ?_⟩
  · obtain ⟨⟨A', n', c', rfl, hs, hz⟩, hp⟩ := hr
    exact ⟨⟨A', n', c', rfl, hs.box hb u v, hz⟩, hp⟩
  · obtain ⟨ad, e, hc⟩ := h2.2 hn
    obtain ⟨_, ⟨B', m, d, B2, m2, d2, c0, c1⟩, _⟩ := hb
    refine ⟨ad, e, fun j x hx => ?_⟩
    have h4 := hc j x hx
    have hsl : ∀ q, (q = 0 ∨ q = 1) → ad.add j = ⟨g, q, none⟩ → False := by
      intro q hq e2
      obtain ⟨A3, n3, c3, rfl⟩ : ∃ A n c, x = .slice A n c := by
        rcases hq with rfl | rfl
        · rw [e2, c0] at h4; cases h4; exact ⟨_, _, _, rfl⟩
        · rw [e2, c1] at h4; cases h4; exact ⟨_, _, _, rfl⟩
      obtain ⟨i, s, rfl, h5⟩ := ol_parity from_ol h1 j A3 n3 c3 hx
      have h6 := hc i _ h5
      have e3 : ad.add i = ⟨g, 0, none⟩ ∧ q = 1 := by
        have k1 := congrArg Addr.block e2
        have k2 := congrArg Addr.off e2
        rw [add_block] at k1
        rw [add_off] at k2
        simp only at k1 k2
        refine ⟨?_, by omega⟩
        have k3 := cell_spot h6
        have k4 := add_block ad i
        have k5 := add_off ad i
        generalize ad.add i = p at k3 k4 k5
        obtain ⟨b, o, sp⟩ := p
        simp only at k3 k4 k5
        subst k3
        rw [k4, k5, k1]
        congr 1
        omega
      rw [e3.1, c0] at h6
      cases h6
    rw [set2_other (hsl 0 (.inl rfl)) (hsl 1 (.inr rfl))]
    exact h4
theorem StF.box {w : World} {g B : Nat} {A : Option Addr} {n c : Nat} {A2 : Option Addr} {n2 c2 : Nat} {s : St} (h : StF w B A n c A2 n2 c2 s) (hb : IsBox g w) (u v : Value) : StF (set2 w g u v) B A n c A2 n2 c2 s :=
  ⟨⟨h.data.sl.box hb u v, h.data.fr⟩, h.snaps.box hb u v, h.row⟩
/-- as But; and a box stays one -/
structure Bux (H : Nat) (S : Nat → Prop) (w w' : World) : Prop where
  but : But H S w w'
  box : ∀ g, IsBox g w → IsBox g w'
  stf : ∀ B A n c A2 n2 c2 s, StF w B A n c A2 n2 c2 s → StF w' B A n c A2 n2 c2 s
theorem Bux.refl (H : Nat) (S : Nat → Prop) (w : World) : Bux H S w w := ⟨But.refl H S w, fun g h => h, fun _ _ _ _ _ _ _ _ h => h⟩
theorem Bux.trans {H : Nat} {S : Nat → Prop} {a b c : World} (h : Bux H S a b) (k : Bux H S b c) : Bux H S a c := ⟨h.but.trans k.but, fun g hg => k.box g (h.box g hg), fun _ _ _ _ _ _ _ _ hs => k.stf _ _ _ _ _ _ _ _ (h.stf _ _ _ _ _ _ _ _ hs)⟩
theorem Bux.of_ext {H : Nat} {S : Nat → Prop} {a b : World} (h : Ext a b) : Bux H S a b := ⟨But.of_ext h, fun g hg => hg.ext h, fun _ _ _ _ _ _ _ _ hs => hs.ext h⟩
theorem Bux.steady (H : Nat) (S : Nat → Prop) : Steady (Bux H S) := ⟨Bux.refl H S, fun _ _ _ => Bux.trans, fun w => Bux.of_ext (Ext.drew w)⟩
theorem bux_set2 {H : Nat} {S : Nat → Prop} {w : World} {g : Nat} (hg : S g ∨ H ≤ g) (hb : IsBox g w) (A : Option Addr) (n c : Nat) (A2 : Option Addr) (n2 c2 : Nat) : Bux H S w ((w.setCell ⟨g, 0, none⟩ (.slice A n c)).setCell ⟨g, 1, none⟩ (.slice A2 n2 c2)) :=
  ⟨But.setCell (But.setCell (But.refl H S w) (p := ⟨g, 0, none⟩) hg _) (p := ⟨g, 1, none⟩) hg _, fun g' h => h.set A n c A2 n2 c2, fun _ _ _ _ _ _ _ _ hs => hs.box hb _ _⟩
/-- a box for an image, at or behind H -/
def BoxP (H : Nat) : Ty := fun v w => ∃ g, v = .pointer (some ⟨g, 0, none⟩) ∧ H ≤ g ∧ IsBox g w
theorem BoxP.keeps (H : Nat) : Keeps Ext (BoxP H) := fun _ _ _ hx ⟨g, e, h1, h2⟩ => ⟨g, e, h1, h2.ext hx⟩
theorem BoxP.keeps2 (H : Nat) {H' : Nat} {S : Nat → Prop} : Keeps (Bux H' S) (BoxP H) := fun _ _ _ hx ⟨g, e, h1, h2⟩ => ⟨g, e, h1, hx.box g h2⟩
theorem StT.keeps2 (B : Nat) (s : St) {H : Nat} {S : Nat → Prop} : Keeps (Bux H S) (StT B s) := fun _ _ _ hx ⟨A, n, c, A2, n2, c2, e, h⟩ => ⟨A, n, c, A2, n2, c2, e, hx.stf _ _ _ _ _ _ _ _ h⟩
theorem StE.keeps2 (B : Nat) (s : St) (r : Nat) {H : Nat} {S : Nat → Prop} : Keeps (Bux H S) (StE B s r) := fun _ _ _ hx ⟨A, n, c, A2, n2, c2, e, h⟩ => ⟨A, n, c, A2, n2, c2, e, hx.stf _ _ _ _ _ _ _ _ h⟩
theorem BoxP.made {H : Nat} {w : World} (h : H ≤ w.heap.size) : BoxP H (.pointer (some ⟨w.heap.size, 0, none⟩)) (w.alloc (.cells #[.slice none 0 0, .slice none 0 0] TSt)) :=
  ⟨_, rfl, h, by simp, ⟨_, _, _, _, _, _, cell_new w _ _ 0, cell_new w _ _ 1⟩, fun q => by
    unfold World.frozen?
    rw [heap_alloc_new]
    simp⟩
/-- what the box holds -/
def BoxS (B : Nat) (s : St) (γ : Value) : Ty := fun v w => ∀ g, γ = .pointer (some ⟨g, 0, none⟩) → StB g B s v w
theorem BoxS.keeps (B : Nat) (s : St) (γ : Value) : Keeps Ext (BoxS B s γ) := fun _ _ _ hx h g e => StB.keeps g B s _ _ _ hx (h g e)
theorem stb_box {w : World} {g B : Nat} {A : Option Addr} {n c : Nat} {A2 : Option Addr} {n2 c2 : Nat} {s : St} (hb : IsBox g w) (h : StF w B A n c A2 n2 c2 s) (v : Value) :
    StB g B s v ((w.setCell ⟨g, 0, none⟩ (.slice A n c)).setCell ⟨g, 1, none⟩ (.slice A2 n2 c2)) := by
  have h5 := h.box hb (.slice A n c) (.slice A2 n2 c2)
  have h6 := hb.set (g' := g) A n c A2 n2 c2
  obtain ⟨h1, ⟨B', m, d, B2, m2, d2, h2, h3⟩, h4⟩ := hb
  refine ⟨A, n, c, A2, n2, c2, ?_, ?_, h6.2.2, h5, h6.1⟩
  · rw [World.cell?_setCell_other _ _ _ _ (fun e => by injection e with e1 e2; omega)]
    exact World.cell?_setCell_same _ _ _ h2
  · exact World.cell?_setCell_same _ _ _ (by rw [World.cell?_setCell_other _ _ _ _ (fun e => by injection e with e1 e2; omega)]; exact h3)

theorem i64_low (n m : Int) (k : Nat) (hk : k ≤ 62) (hm : (BitVec.ofInt 64 m).toNat = 2 ^ k - 1) : bits .and .i64 n m = n % ((2 ^ k : Nat) : Int) := by
  have key : (BitVec.ofInt 64 n &&& BitVec.ofInt 64 m).toNat = (n % ((2 ^ 64 : Nat) : Int)).toNat % 2 ^ k := by
    rw [BitVec.toNat_and, BitVec.toNat_ofInt, hm, Nat.and_two_pow_sub_one_eq_mod]
  show IntKind.i64.wrap ((BitVec.ofInt 64 n &&& BitVec.ofInt 64 m).toNat : Nat) = n % ((2 ^ k : Nat) : Int)
  rw [key, IntKind.wrap_i64]
  have hp : 2 ^ k ≤ 2 ^ 62 := Nat.pow_le_pow_right (by omega) hk
  have h0 := Nat.two_pow_pos k
  have hd : (2 : Nat) ^ 64 = 2 ^ k * 2 ^ (64 - k) := by rw [← Nat.pow_add]; congr 1; omega
  have h1 : (n % ((2 ^ 64 : Nat) : Int)).toNat % 2 ^ k < 2 ^ k := Nat.mod_lt _ h0
  have h2 : (((n % ((2 ^ 64 : Nat) : Int)).toNat % 2 ^ k : Nat) : Int) = n % ((2 ^ k : Nat) : Int) := by
    rw [Int.natCast_emod, Int.toNat_of_nonneg (Int.emod_nonneg _ (by omega)), hd]
    push_cast
    rw [Int.emod_emod_of_dvd _ ⟨_, rfl⟩]
  rw [h2]
  generalize n % ((2 ^ k : Nat) : Int) = y at *
  omega
theorem and3 (n : Int) : bits .and .i64 n 3 = n % 4 := i64_low n 3 2 (by omega) (by decide)
theorem and15 (n : Int) : bits .and .i64 n 15 = n % 16 := i64_low n 15 4 (by omega) (by decide)
theorem and63 (n : Int) : bits .and .i64 n 63 = n % 64 := i64_low n 63 6 (by omega) (by decide)
theorem and255 (n : Int) : bits .and .i64 n 255 = n % 256 := i64_low n 255 8 (by omega) (by decide)
theorem and511 (n : Int) : bits .and .i64 n 511 = n % 512 := i64_low n 511 9 (by omega) (by decide)
theorem and65535 (n : Int) : bits .and .i64 n 65535 = n % 65536 := i64_low n 65535 16 (by omega) (by decide)
theorem and1 (n : Int) : bits .and .i64 n 1 = n % 2 := i64_low n 1 1 (by omega) (by decide)
theorem ev_lit2 {w : World} {k o m : Int} {k' o' m' : Int} : Lst 5 evR (w.alloc (.cells #[.int .i64 k, .int .i64 o, .int .i64 m, .slice none 0 0, .string ⟨#[]⟩, .int .i64 k', .int .i64 o', .int .i64 m', .slice none 0 0, .string ⟨#[]⟩] TEv)) (some ⟨w.heap.size, 0, none⟩) 2 2 [⟨k, o, m, [], ⟨#[]⟩⟩, ⟨k', o', m', [], ⟨#[]⟩⟩] := by
  refine ⟨rfl, Nat.le_refl _, by simp [maxLen], [[.int .i64 k, .int .i64 o, .int .i64 m, .slice none 0 0, .string ⟨#[]⟩], [.int .i64 k', .int .i64 o', .int .i64 m', .slice none 0 0, .string ⟨#[]⟩]], .cons ⟨none, 0, 0, rfl, Sl.nil _, (show (⟨#[]⟩ : ByteArray).size ≤ maxLen by decide)⟩ (.cons ⟨none, 0, 0, rfl, Sl.nil _, (show (⟨#[]⟩ : ByteArray).size ≤ maxLen by decide)⟩ .nil), ?_⟩
  exact (Own.made w w.heap.size TEv 5 #[.int .i64 k, .int .i64 o, .int .i64 m, .slice none 0 0, .string ⟨#[]⟩, .int .i64 k', .int .i64 o', .int .i64 m', .slice none 0 0, .string ⟨#[]⟩] 2 2 (Nat.le_refl _) (Nat.le_refl _) (by simp [maxLen]) rfl).rd
def ByZ (m : Nat) : Ty := fun v w => ∃ A, v = .slice A m m ∧ Sl w A m m (List.replicate m 0)
theorem ByZ.keeps (m : Nat) : Keeps Ext (ByZ m) := fun _ _ _ hx ⟨A, e, h⟩ => ⟨A, e, h.ext hx⟩
def EvZ (o : Int) (m : Nat) : Ty := fun v w => ∃ A, v = evV 1 o 0 A m m ⟨#[]⟩ ∧ Sl w A m m (List.replicate m 0)
theorem EvZ.keeps (o : Int) (m : Nat) : Keeps Ext (EvZ o m) := fun _ _ _ hx ⟨A, e, h⟩ => ⟨A, e, h.ext hx⟩
set_option maxHeartbeats 4000000 in
theorem law_ModelNoughts (z : Int) (A : Option Addr) (n c : Nat) (l : List Ev) (oi ni : Int) (w : World) (hz1 : -9223372036854775808 ≤ z) (hz2 : z ≤ 9223372036854775807) (h : Lst 5 evR w A n c l) (ho1 : -9223372036854775808 ≤ oi) (ho2 : oi ≤ 9223372036854775807) (hn1 : -9223372036854775808 ≤ ni) (hn2 : ni ≤ 9223372036854775807) :
    Calls Try.prog 15 #[.int .i64 z, .slice A n c, .int .i64 oi, .int .i64 ni] w fun e w' => e = .returned (.bool true) ∧ Ext w w' := by
  have h63 := h.n63
  obtain ⟨f, hf⟩ : ∃ q, smallB l 40 = q := ⟨_, rfl⟩
  have HF := Lib.hid hf
  cases f with
  | false =>
    clear hf
    go_enter Try.func15, Try.ntmps15
    go_wp2_with fail
    refine (keep_Small h (m := 40) (by decide) HF).mono ?_
    rintro e w1 ⟨rfl, gx⟩
    go_wp2_with fail
    refine (law14_known _).mono ?_
    rintro e w9 ⟨rfl, hx1⟩
    go_wp2_with fail
    go_ret
    exact ⟨rfl, gx.trans hx1⟩
  | true =>
    have rt0 := right_new z
    obtain ⟨S0, hS0⟩ : ∃ S, newS z = S := ⟨_, rfl⟩
    rw [hS0] at rt0
    have rt1 := right_fold rt0 l
    obtain ⟨S1, hS1⟩ : ∃ S, foldS S0 l = S := ⟨_, rfl⟩
    rw [hS1] at rt1
    have ok0 := okS_right rt0
    have ok1 := okS_right rt1
    have h512 := (right_iff.1 rt1).2.2.1
    have HS0 := Lib.hid hS0
    have HS1 := Lib.hid hS1
    obtain ⟨o, hbo, ho⟩ : ∃ o : Nat, bits .and .i64 oi 511 = (o : Int) ∧ o ≤ 511 := ⟨(oi % 512).toNat, by rw [and511]; omega, by omega⟩
    obtain ⟨m, hbm, hm⟩ : ∃ m : Nat, bits .and .i64 ni 63 = (m : Int) ∧ m ≤ 63 := ⟨(ni % 64).toNat, by rw [and63]; omega, by omega⟩
    obtain ⟨r, hr⟩ : ∃ r, noughtN S1.d.length o (m + 1) = r := ⟨_, rfl⟩
    have hc1 : (1 : Int) + (m : Int) = ((m + 1 : Nat) : Int) := by omega
    obtain ⟨T, hT⟩ : ∃ T, appliedS r S1 1 o 0 (List.replicate (m + 1) 0) ⟨#[]⟩ = T := ⟨_, rfl⟩
    have HR2 : Hid (checkN S1 2 o (1 + m) 0 ⟨#[]⟩ = r) := Lib.hid (by rw [hc1, nought_check h512 (by omega) (by omega)]; exact hr)
    have HR3 : Hid (checkN S1 3 o (1 + m) 0 ⟨#[]⟩ = r) := Lib.hid (by rw [hc1, nought_check h512 (by omega) (by omega)]; exact hr)
    have HR1 : Hid (checkN S1 1 o 0 (m + 1) ⟨#[]⟩ = r) := Lib.hid (by rw [nought_checkW h512 (by omega)]; exact hr)
    have HT2 : Hid (appliedS r S1 2 o (1 + m) [] ⟨#[]⟩ = T) := Lib.hid (by rw [hc1, nought_apply (by omega)]; exact hT)
    have HT3 : Hid (appliedS r S1 3 o (1 + m) [] ⟨#[]⟩ = T) := Lib.hid (by rw [hc1, nought_apply (by omega)]; exact hT)
    have HT1 := Lib.hid hT
    have hrz : r = 0 ↔ o + (m + 1) ≤ S1.d.length := by
      rw [← hr]
      unfold noughtN
      split
      · rename_i h; exact ⟨fun _ => h, fun _ => rfl⟩
      · rename_i h
        constructor
        · intro h2; split at h2 <;> cases h2
        · intro h2; exact absurd h2 h
    have hrb : r ≤ 3 := by rw [← hr]; unfold noughtN; split; omega; split <;> omega
    have HB := Lib.hid (resize_back (st := S1) (o := o) (m := S1.d.length) (by omega) h512)
    have HG := Lib.hid (fun i (hi : i < S1.d.length) => resize_get (d := S1.d) (o := o) hi)
    obtain ⟨C, hC, hmk⟩ := make_bytes (m + 1) (1 + m) hc1 (by omega)
    have hzl : ∀ w : World, Sl (w.alloc (.cells C U8)) (some ⟨w.heap.size, 0, none⟩) (m + 1) (m + 1) (List.replicate (m + 1) 0) := fun w => (made_byt hC (by omega) w).sl
    replace hzl := Lib.hid hzl
    clear hf hS0 hS1 rt0 rt1 hr hT hc1 hC
    go_enter Try.func15, Try.ntmps15
    go_wp2_with fail
    refine (keep_Small h (m := 40) (by decide) HF).mono ?_
    rintro e w1 ⟨rfl, gx⟩
    go_wp2_with fail
    refine (model_New z _).mono ?_
    rintro e w2 ⟨A2, n2, c2, rfl, k1, gq⟩
    have b2 := k1.1.n63
    rw [HS0.out] at k1
    replace gx := gx.trans gq
    clear gq
    go_wp2_with fail
    refine (model_Fold k1 ok0 (h.ext ev_rep gx)).mono ?_
    rintro e w3 ⟨A3, n3, c3, B3, m3, d3, rfl, ua, gq⟩
    rw [HS1.out] at ua
    have b3 := ua.st.1.n63
    have bb3 := ua.st.2.n63
    have hnd := ua.data.sl.len
    have hnm := ua.snaps.len
    obtain ⟨q1, q2, q3⟩ := ok1
    rw [hnd] at h512 hrz
    have hn3 : n3 ≤ 1000 := by omega
    have hm3 : m3 ≤ 1000 := by omega
    replace gx := gx.trans gq
    clear gq k1
    obtain ⟨w4, hW⟩ : ∃ q, w3.alloc (.cells #[.slice A3 n3 c3, .slice B3 m3 d3] TSt) = q := ⟨_, rfl⟩
    obtain ⟨gp, hg⟩ : ∃ q, w3.heap.size = q := ⟨_, rfl⟩
    have gq : Ext w3 w4 := by rw [← hW]; exact Ext.alloc _ _
    have p0 : w4.cell? ⟨gp, 0, none⟩ = some (.slice A3 n3 c3) := by rw [← hW, ← hg]; exact cell_new w3 _ _ 0
    have p1 : w4.cell? ⟨gp, 1, none⟩ = some (.slice B3 m3 d3) := by rw [← hW, ← hg]; exact cell_new w3 _ _ 1
    replace gx := gx.trans gq
    replace ua := ua.ext gq
    clear gq
    have hb1 := hbo
    have hb2 := hbm
    go_wp2_with fail
    clear hW
    refine (model_Apply ua.st hn3 hm3 q3 (Sl.nil _) (by decide) HR2 HT2).mono ?_
    rintro e w5 ⟨A5, n5, c5, B5, m5, d5, rfl, ux, gq1⟩
    have b5 := ux.st.1.n63
    have bb5 := ux.st.2.n63
    obtain ⟨w6, hW⟩ : ∃ q, w5.alloc (.cells #[.slice A5 n5 c5, .slice B5 m5 d5] TSt) = q := ⟨_, rfl⟩
    obtain ⟨gt, hg⟩ : ∃ q, w5.heap.size = q := ⟨_, rfl⟩
    have gq : Ext w5 w6 := by rw [← hW]; exact Ext.alloc _ _
    have x0 : w6.cell? ⟨gt, 0, none⟩ = some (.slice A5 n5 c5) := by rw [← hW, ← hg]; exact cell_new w5 _ _ 0
    have x1 : w6.cell? ⟨gt, 1, none⟩ = some (.slice B5 m5 d5) := by rw [← hW, ← hg]; exact cell_new w5 _ _ 1
    replace ux := ux.ext gq
    replace gq := gq1.trans gq
    replace p0 := gq.cell p0
    replace p1 := gq.cell p1
    replace ua := ua.ext gq
    replace gx := gx.trans gq
    try replace x0 := gq.cell x0
    try replace x1 := gq.cell x1
    try replace ux := ux.ext gq
    clear gq gq1
    go_wp2_with fail
    clear hW
    refine (model_Apply ua.st hn3 hm3 q3 (Sl.nil _) (by decide) HR3 HT3).mono ?_
    rintro e w7 ⟨A7, n7, c7, B7, m7, d7, rfl, uy, gq1⟩
    have b7 := uy.st.1.n63
    have bb7 := uy.st.2.n63
    obtain ⟨w8, hW⟩ : ∃ q, w7.alloc (.cells #[.slice A7 n7 c7, .slice B7 m7 d7] TSt) = q := ⟨_, rfl⟩
    obtain ⟨gu, hg⟩ : ∃ q, w7.heap.size = q := ⟨_, rfl⟩
    have gq : Ext w7 w8 := by rw [← hW]; exact Ext.alloc _ _
    have y0 : w8.cell? ⟨gu, 0, none⟩ = some (.slice A7 n7 c7) := by rw [← hW, ← hg]; exact cell_new w7 _ _ 0
    have y1 : w8.cell? ⟨gu, 1, none⟩ = some (.slice B7 m7 d7) := by rw [← hW, ← hg]; exact cell_new w7 _ _ 1
    replace uy := uy.ext gq
    replace gq := gq1.trans gq
    replace p0 := gq.cell p0
    replace p1 := gq.cell p1
    replace ua := ua.ext gq
    replace gx := gx.trans gq
    try replace x0 := gq.cell x0
    try replace x1 := gq.cell x1
    try replace ux := ux.ext gq
    clear gq gq1
    go_wp2_with fail
    clear hW
    replace hmk := hmk
    refine wp_region_typed3 (R := Bux w8.heap.size (fun _ => False)) Ext.steady (Bux.steady _ _) (fun _ _ => Bux.of_ext) rfl 150 rfl [0, 0, 0, 4, 14, 31, 63, 127, 127, 0, 767, 2047] 1024 9 (by kernel_rfl) ?_
    -- 0: Op.load 35 t9
    apply Stage3.step (Is _) true [] true false (Is.keeps _) (fun _ => Is.keeps _) (by kernel_rfl)
    · intro γ w1 h1
      have h1 : Ext _ w1 := h1
      simp only [List.nil_append, List.cons_append, List.map_cons, List.map_nil, Given]
      have hq := h1.cell p0
      have hq2 := h1.cell p1
      go_wp2_with fail
      exact Post.isv (Ext.refl _) rfl rfl rfl
    -- 1: Op.move t2
    apply Stage3.step (Is _) true [] true false (Is.keeps _) (fun _ => Is.keeps _) (by kernel_rfl)
    · intro γ w1 h1
      have h1 : Ext _ w1 := h1
      simp only [List.nil_append, List.cons_append, List.map_cons, List.map_nil, Given]
      go_wp2_with fail
      exact Post.isv (Ext.refl _) rfl rfl rfl
    -- 2: Op.move t3
    apply Stage3.step (Is _) true [] true false (Is.keeps _) (fun _ => Is.keeps _) (by kernel_rfl)
    · intro γ w1 h1
      have h1 : Ext _ w1 := h1
      simp only [List.nil_append, List.cons_append, List.map_cons, List.map_nil, Given]
      go_wp2_with fail
      exact Post.isv (Ext.refl _) rfl rfl rfl
    -- 3: Op.makeSlice 22 t50 t50
    apply Stage3.step (ByZ (m + 1)) false [false, false, true] true false (ByZ.keeps _) (no_keeps) (by kernel_rfl)
    · intro γ w1 h1
      have h1 : Ext _ w1 := h1
      simp only [List.nil_append, List.cons_append, List.map_cons, List.map_nil, Sp3.at, Sp.pr, Given]
      rintro _ rfl
      go_wp2_with fail
      exact ⟨rfl, rfl, Ext.alloc _ _, _, rfl, hzl.out _⟩
    -- 4: Op.build 28 #[(0, const (1:i64)), (1, t49), (3, t51)]
    apply Stage3.step (EvZ o (m + 1)) false [false, true, false, true] true false (EvZ.keeps _ _) (no_keeps) (by kernel_rfl)
    · intro γ w1 h1
      have h1 : Ext _ w1 := h1
      simp only [List.nil_append, List.cons_append, List.map_cons, List.map_nil, Sp3.at, Sp.pr, Given]
      rintro _ rfl
      rintro _ ⟨Az, rfl, hz⟩
      go_wp2_with fail
      exact ⟨rfl, rfl, Ext.refl _, _, rfl, hz⟩
    -- 5: Op.call { value (Operand.func 50), args := #[t48, t52], argTypes := #[35, 28] }
    apply Stage3.step (StE w8.heap.size T r) true [true, false, false, false, true] true false (StE.keeps _ _ _) (fun _ => StE.keeps2 _ _ _) (by kernel_rfl)
    · intro γ w1 h1
      have h1 : Ext _ w1 := h1
      simp only [List.nil_append, List.cons_append, List.map_cons, List.map_nil, Sp3.at, Sp.pr, Given]
      rintro _ rfl
      rintro _ ⟨Az, rfl, hz⟩
      go_wp2_with fail
      refine (model_Apply (ua.st.ext h1) hn3 hm3 q3 hz (by decide) HR1 HT1).mono ?_
      rintro e w10 ⟨A9, n9, c9, B9, m9, d9, rfl, h9, gq⟩
      go_wp2_with fail
      exact ⟨rfl, rfl, gq, _, _, _, _, _, _, rfl, h9.low h1.size⟩
    -- 6: Op.move t53
    apply Stage3.step (StE w8.heap.size T r) true [false, false, false, false, false, true] true false (StE.keeps _ _ _) (fun _ => StE.keeps2 _ _ _) (by kernel_rfl)
    · intro γ w1 h1
      have h1 : Ext _ w1 := h1
      simp only [List.nil_append, List.cons_append, List.map_cons, List.map_nil, Sp3.at, Sp.pr, Given]
      rintro v hcp
      go_wp2_with fail
      exact ⟨rfl, rfl, Ext.refl _, hcp⟩
    -- 7: Op.extract t47 0
    apply Stage3.step (StT w8.heap.size T) true [false, false, false, false, false, false, true] true false (StT.keeps _ _) (fun _ => StT.keeps2 _ _) (by kernel_rfl)
    · intro γ w1 h1
      have h1 : Ext _ w1 := h1
      simp only [List.nil_append, List.cons_append, List.map_cons, List.map_nil, Sp3.at, Sp.pr, Given]
      rintro _ ⟨A9, n9, c9, B9, m9, d9, rfl, h9⟩
      go_wp2_with fail
      exact ⟨rfl, rfl, Ext.refl _, _, _, _, _, _, _, rfl, h9⟩
    -- 8: Op.extract t47 1
    apply Stage3.step (Is (.int .i64 r)) true [false, false, false, false, false, false, true] false false (Is.keeps _) (fun _ => Is.keeps _) (by kernel_rfl)
    · intro γ w1 h1
      have h1 : (Bux w8.heap.size (fun _ => False)) _ w1 := h1
      simp only [List.nil_append, List.cons_append, List.map_cons, List.map_nil, Sp3.at, Sp.pr, Given]
      rintro _ ⟨A9, n9, c9, B9, m9, d9, rfl, h9⟩
      go_wp2_with fail
      exact Post.isv (Ext.refl _) rfl rfl rfl
    -- 9: Op.alloc 35
    apply Stage3.stepA (BoxP w8.heap.size) true [] true false (BoxP.keeps _) (fun _ => BoxP.keeps2 _) (by kernel_rfl)
    · intro γ w1 h1
      have h1 : Ext _ w1 := h1
      simp only [List.nil_append, List.cons_append, List.map_cons, List.map_nil, Given]
      go_wp2_with fail
      exact ⟨rfl, rfl, Ext.alloc _ _, BoxP.made h1.size⟩
    -- 10: Op.store 35 t14 t54
    apply Stage3.stepD (fun γ => BoxS w8.heap.size T γ) false [false, false, false, false, false, false, false, true, false, true] true true (fun γ => BoxS.keeps _ _ _) (fun h => by cases h) (by kernel_rfl)
    · intro γ w1 h1
      have h1 : Ext _ w1 := h1
      simp only [List.nil_append, List.cons_append, List.map_cons, List.map_nil, Sp3.at, Sp.pr, Given]
      rintro _ ⟨A9, n9, c9, B9, m9, d9, rfl, h9⟩
      rintro _ ⟨rfl, gv, rfl, hgv, hbv⟩
      have hbx := hbv
      obtain ⟨hx1, ⟨e1, e2, e3, e4, e5, e6, z0, z1⟩, zf⟩ := hbv
      have zf0 := zf 0
      have zf1 := zf 1
      go_wp2_with fail
      refine ⟨rfl, rfl, bux_set2 (.inr hgv) hbx _ _ _ _ _ _, fun g e => ?_⟩
      obtain rfl : gv = g := by injection e with e; injection e with e; injection e with e
      exact stb_box hbx h9 _
    -- 11: Op.assign t55
    apply Stage3.step (Is _) true [false, false, false, false, false, false, false, false, true] false false (Is.keeps _) (fun _ => Is.keeps _) (by kernel_rfl)
    · intro γ w1 h1
      have h1 : (Bux w8.heap.size (fun _ => False)) _ w1 := h1
      simp only [List.nil_append, List.cons_append, List.map_cons, List.map_nil, Sp3.at, Sp.pr, Given]
      rintro _ rfl
      go_wp2_with fail
      exact Post.isv (Ext.refl _) rfl rfl rfl
    apply Stage3.nil [true, true, true, false, false, true, true, true, true, true, true, true] (by kernel_rfl)
    intro γ w1 h1
    have h1 : (Bux w8.heap.size (fun _ => False)) _ w1 := h1
    simp only [List.nil_append, List.cons_append, List.map_cons, List.map_nil, Sp3.at, Sp.pr]
    refine Fin2.is_ ?_
    refine Fin2.is_ ?_
    refine Fin2.is_ ?_
    refine Fin2.dead_ ?_
    intro dead3
    refine Fin2.dead_ ?_
    intro dead4
    refine Fin2.step_ ?_
    rintro _ ⟨A9, n9, c9, B9, m9, d9, rfl, h9⟩
    refine Fin2.step_ ?_
    rintro _ ⟨A9, n9, c9, B9, m9, d9, rfl, h9⟩
    refine Fin2.step_ ?_
    rintro _ ⟨A9, n9, c9, B9, m9, d9, rfl, h9⟩
    refine Fin2.is_ ?_
    refine Fin2.step_ ?_
    rintro _ ⟨rfl, gv, rfl, hgv, hbv⟩
    refine Fin2.step_ ?_
    rintro _ hstv
    refine Fin2.is_ ?_
    refine Fin2.nil_ ?_
    go_simp
    obtain ⟨A10, n10, c10, B10, m10, d10, v0, v1, vf, uv, hgv2⟩ := hstv gv rfl
    have gq : Ext w8 w1 := (Ext.refl w8).but h1.but (Nat.le_refl _) (fun _ h => h.elim)
    have b10 := uv.data.sl.n63
    have bb10 := uv.snaps.n63
    replace gx := gx.trans gq
    replace ua := ua.ext gq
    replace ux := ux.ext gq
    replace uy := uy.ext gq
    replace p0 := gq.cell p0
    replace p1 := gq.cell p1
    replace x0 := gq.cell x0
    replace x1 := gq.cell x1
    replace y0 := gq.cell y0
    replace y1 := gq.cell y1
    clear h1 hstv h9 hbv gq vf
    have hguard : ((r : Int) == 0) = decide ((o : Int) + (1 + (m : Int)) ≤ (n3 : Int)) := by
      rw [Bool.eq_iff_iff]
      simp
      omega
    obtain ⟨gb, hgb⟩ : ∃ q, decide ((o : Int) + (1 + (m : Int)) ≤ (n3 : Int)) = q := ⟨_, rfl⟩
    rw [hgb] at hguard
    clear hrz
    have hbx : (gb != gb) = false := by simp
    go_wp2_with fail
    refine (model_SameSt ux.st uy.st (Lib.hid (decide_eq_true rfl))).mono ?_
    rintro e w11 ⟨rfl, gq⟩
    replace gx := gx.trans gq
    replace ua := ua.ext gq
    replace p0 := gq.cell p0
    replace p1 := gq.cell p1
    replace uy := uy.ext gq
    replace uv := uv.ext gq
    replace x0 := gq.cell x0
    replace x1 := gq.cell x1
    replace y0 := gq.cell y0
    replace y1 := gq.cell y1
    replace v0 := gq.cell v0
    replace v1 := gq.cell v1
    clear gq
    go_wp2_with fail
    refine (model_SameSt uy.st uv.st (Lib.hid (decide_eq_true rfl))).mono ?_
    rintro e w12 ⟨rfl, gq⟩
    replace gx := gx.trans gq
    replace ua := ua.ext gq
    replace p0 := gq.cell p0
    replace p1 := gq.cell p1
    clear gq x0 x1 y0 y1 v0 v1 ux uy uv
    obtain ⟨wl, hwl⟩ : ∃ q, w12.alloc (.cells #[.int .i64 4, .int .i64 0, .int .i64 o, .slice none 0 0, .string ⟨#[]⟩, .int .i64 4, .int .i64 0, .int .i64 n3, .slice none 0 0, .string ⟨#[]⟩] TEv) = q := ⟨_, rfl⟩
    have hl2 : Lst 5 evR wl (some ⟨w12.heap.size, 0, none⟩) 2 2 [⟨4, 0, o, [], ⟨#[]⟩⟩, ⟨4, 0, n3, [], ⟨#[]⟩⟩] := by rw [← hwl]; exact ev_lit2
    have gq : Ext w12 wl := by rw [← hwl]; exact Ext.alloc _ _
    go_wp2_with fail
    clear hwl
    replace gx := gx.trans gq
    replace ua := ua.ext gq
    replace p0 := gq.cell p0
    replace p1 := gq.cell p1
    clear gq
    refine (model_Fold ua.st ⟨q1, q2, q3⟩ hl2).mono ?_
    rintro e w13 ⟨A13, n13, c13, B13, m13, d13, rfl, ud, gq⟩
    have hB := HB.out
    rw [hnd] at hB
    rw [hB] at ud
    have e1 := ud.data.sl.len
    have e2 := ud.snaps.len
    simp only [sized_length] at e1
    simp only [hnm] at e2
    subst e1
    subst e2
    replace gx := gx.trans gq
    replace ua := ua.ext gq
    replace p0 := gq.cell p0
    replace p1 := gq.cell p1
    clear gq hl2 HB hB
    obtain ⟨w14, hW⟩ : ∃ q, w13.alloc (.cells #[.slice A13 n3 c13, .slice B13 m3 d13] TSt) = q := ⟨_, rfl⟩
    obtain ⟨gt3, hg⟩ : ∃ q, w13.heap.size = q := ⟨_, rfl⟩
    have gq : Ext w13 w14 := by rw [← hW]; exact Ext.alloc _ _
    have t0 : w14.cell? ⟨gt3, 0, none⟩ = some (.slice A13 n3 c13) := by rw [← hW, ← hg]; exact cell_new w13 _ _ 0
    have t1 : w14.cell? ⟨gt3, 1, none⟩ = some (.slice B13 m3 d13) := by rw [← hW, ← hg]; exact cell_new w13 _ _ 1
    replace gx := gx.trans gq
    replace ua := ua.ext gq
    replace p0 := gq.cell p0
    replace p1 := gq.cell p1
    replace ud := ud.ext gq
    clear gq
    go_wp2_with fail
    clear hW
    go_loopw [17] (fun i wr => ∃ k : Nat, k ≤ n3 ∧ i = .int .i64 k ∧ Ext w14 wr) (fun i _ => n3 - (intOf i).toNat)
    case atStart => exact ⟨0, by omega, rfl, Ext.refl _⟩
    case round =>
      obtain ⟨k, hk, rfl, gxr⟩ := hrel
      by_cases hlt : k < n3
      · obtain ⟨ga, oa, rfl, aa⟩ := (ua.ext gxr).data.sl.at2 hlt
        obtain ⟨gd, od, rfl, ad⟩ := (ud.ext gxr).data.sl.at2 hlt
        have hg := HG.out k (by omega)
        rw [hnd] at hg
        simp only at ad
        rw [hg] at ad
        have P0 := gxr.cell p0
        have T0 := gxr.cell t0
        clear hg
        by_cases hko : k < o
        · rw [if_pos hko] at ad
          have k1 : decide ((k : Int) < (o : Int)) = true := by simp; omega
          have k2 : decide ((k : Int) ≥ (o : Int)) = false := by simp; omega
          have k3 : decide ((o : Int) ≤ (k : Int)) = false := by simp; omega
          obtain ⟨b, hb⟩ : ∃ q, S1.d.getD k 0 = q := ⟨_, rfl⟩
          rw [hb] at aa ad
          clear hb
          go_wp2_with fail
          refine wp_region_typed Ext.steady rfl 150 rfl (by kernel_rfl) ?_
          -- 0: Op.move t17
          apply Stage.step (Is _) [] (Is.keeps _) (by kernel_rfl)
          · intro w1 h1
            simp only [Given]
            go_wp2_with fail
            exact Post.isv (Ext.refl _) rfl rfl rfl
          -- 1: Op.move t2
          apply Stage.step (Is _) [] (Is.keeps _) (by kernel_rfl)
          · intro w1 h1
            simp only [Given]
            go_wp2_with fail
            exact Post.isv (Ext.refl _) rfl rfl rfl
          -- 2: Op.binOp BinOp.lss 3 t120 t121 3
          apply Stage.step (Is _) [true, true] (Is.keeps _) (by kernel_rfl)
          · intro w1 h1
            simp only [List.nil_append, List.cons_append, Given]
            rintro _ rfl
            rintro _ rfl
            go_wp2_with fail
            exact Post.isv (Ext.refl _) rfl rfl rfl
          -- 3: Op.move t122
          apply Stage.step (Is _) [false, false, true] (Is.keeps _) (by kernel_rfl)
          · intro w1 h1
            simp only [List.nil_append, List.cons_append, Given]
            rintro _ rfl
            go_wp2_with fail
            exact Post.isv (Ext.refl _) rfl rfl rfl
          -- 4: Op.fieldAddr 35 t16 0   [guarded: some (3, true)]
          apply Stage.step (Is _) [false, false, false, true] (Is.keeps _) (by kernel_rfl)
          · intro w1 h1
            simp only [List.nil_append, List.cons_append, Given]
            rintro _ rfl
            go_wp2_with fail
            exact Post.isv (Ext.refl _) rfl rfl rfl
          -- 5: Op.load 22 t124   [guarded: some (3, true)]
          apply Stage.step (Is _) [false, false, false, true, true] (Is.keeps _) (by kernel_rfl)
          · intro w1 h1
            simp only [List.nil_append, List.cons_append, Given]
            rintro _ rfl
            rintro _ rfl
            have hq := h1.cell T0
            go_wp2_with fail
            exact Post.isv (Ext.refl _) rfl rfl rfl
          -- 6: Op.move t17   [guarded: some (3, true)]
          apply Stage.step (Is _) [false, false, false, true] (Is.keeps _) (by kernel_rfl)
          · intro w1 h1
            simp only [List.nil_append, List.cons_append, Given]
            rintro _ rfl
            go_wp2_with fail
            exact Post.isv (Ext.refl _) rfl rfl rfl
          -- 7: Op.indexAddr 22 t125 t126   [guarded: some (3, true)]
          apply Stage.step (Is _) [false, false, false, true, false, true, true] (Is.keeps _) (by kernel_rfl)
          · intro w1 h1
            simp only [List.nil_append, List.cons_append, Given]
            rintro _ rfl
            rintro _ rfl
            rintro _ rfl
            go_wp2_with fail
            exact Post.isv (Ext.refl _) rfl rfl rfl
          -- 8: Op.load 5 t127   [guarded: some (3, true)]
          apply Stage.step (Is _) [false, false, false, true, false, false, false, true] (Is.keeps _) (by kernel_rfl)
          · intro w1 h1
            simp only [List.nil_append, List.cons_append, Given]
            rintro _ rfl
            rintro _ rfl
            have hq := h1.cell ad
            go_wp2_with fail
            exact Post.isv (Ext.refl _) rfl rfl rfl
          -- 9: Op.fieldAddr 35 t9 0   [guarded: some (3, true)]
          apply Stage.step (Is _) [false, false, false, true] (Is.keeps _) (by kernel_rfl)
          · intro w1 h1
            simp only [List.nil_append, List.cons_append, Given]
            rintro _ rfl
            go_wp2_with fail
            exact Post.isv (Ext.refl _) rfl rfl rfl
          -- 10: Op.load 22 t129   [guarded: some (3, true)]
          apply Stage.step (Is _) [false, false, false, true, false, false, false, false, false, true] (Is.keeps _) (by kernel_rfl)
          · intro w1 h1
            simp only [List.nil_append, List.cons_append, Given]
            rintro _ rfl
            rintro _ rfl
            have hq := h1.cell P0
            go_wp2_with fail
            exact Post.isv (Ext.refl _) rfl rfl rfl
          -- 11: Op.move t17   [guarded: some (3, true)]
          apply Stage.step (Is _) [false, false, false, true] (Is.keeps _) (by kernel_rfl)
          · intro w1 h1
            simp only [List.nil_append, List.cons_append, Given]
            rintro _ rfl
            go_wp2_with fail
            exact Post.isv (Ext.refl _) rfl rfl rfl
          -- 12: Op.indexAddr 22 t130 t131   [guarded: some (3, true)]
          apply Stage.step (Is _) [false, false, false, true, false, false, false, false, false, false, true, true] (Is.keeps _) (by kernel_rfl)
          · intro w1 h1
            simp only [List.nil_append, List.cons_append, Given]
            rintro _ rfl
            rintro _ rfl
            rintro _ rfl
            go_wp2_with fail
            exact Post.isv (Ext.refl _) rfl rfl rfl
          -- 13: Op.load 5 t132   [guarded: some (3, true)]
          apply Stage.step (Is _) [false, false, false, true, false, false, false, false, false, false, false, false, true] (Is.keeps _) (by kernel_rfl)
          · intro w1 h1
            simp only [List.nil_append, List.cons_append, Given]
            rintro _ rfl
            rintro _ rfl
            have hq := h1.cell aa
            go_wp2_with fail
            exact Post.isv (Ext.refl _) rfl rfl rfl
          -- 14: Op.binOp BinOp.neq 5 t128 t133 5   [guarded: some (3, true)]
          apply Stage.step (Is _) [false, false, false, true, false, false, false, false, true, false, false, false, false, true] (Is.keeps _) (by kernel_rfl)
          · intro w1 h1
            simp only [List.nil_append, List.cons_append, Given]
            rintro _ rfl
            rintro _ rfl
            rintro _ rfl
            go_wp2_with fail
            exact Post.isv (Ext.refl _) rfl rfl rfl
          -- 15: Op.pick t123 t134 (const (Value.bool false))
          apply Stage.step (Is _) [false, false, false, true, false, false, false, false, false, false, false, false, false, false, true] (Is.keeps _) (by kernel_rfl)
          · intro w1 h1
            simp only [List.nil_append, List.cons_append, Given]
            rintro _ rfl
            rintro _ rfl
            go_wp2_with fail
            exact Post.isv (Ext.refl _) rfl rfl rfl
          -- 16: Op.move t135
          apply Stage.step (Is _) [false, false, false, false, false, false, false, false, false, false, false, false, false, false, false, true] (Is.keeps _) (by kernel_rfl)
          · intro w1 h1
            simp only [List.nil_append, List.cons_append, Given]
            rintro _ rfl
            go_wp2_with fail
            exact Post.isv (Ext.refl _) rfl rfl rfl
          -- 17: Op.move t17   [guarded: some (16, false)]
          apply Stage.step (Is _) [false, false, false, false, false, false, false, false, false, false, false, false, false, false, false, false, true] (Is.keeps _) (by kernel_rfl)
          · intro w1 h1
            simp only [List.nil_append, List.cons_append, Given]
            rintro _ rfl
            go_wp2_with fail
            exact Post.isv (Ext.refl _) rfl rfl rfl
          -- 18: Op.move t2   [guarded: some (16, false)]
          apply Stage.step (Is _) [false, false, false, false, false, false, false, false, false, false, false, false, false, false, false, false, true] (Is.keeps _) (by kernel_rfl)
          · intro w1 h1
            simp only [List.nil_append, List.cons_append, Given]
            rintro _ rfl
            go_wp2_with fail
            exact Post.isv (Ext.refl _) rfl rfl rfl
          -- 19: Op.binOp BinOp.geq 3 t137 t138 3   [guarded: some (16, false)]
          apply Stage.step (Is _) [false, false, false, false, false, false, false, false, false, false, false, false, false, false, false, false, true, true, true] (Is.keeps _) (by kernel_rfl)
          · intro w1 h1
            simp only [List.nil_append, List.cons_append, Given]
            rintro _ rfl
            rintro _ rfl
            rintro _ rfl
            go_wp2_with fail
            exact Post.isv (Ext.refl _) rfl rfl rfl
          -- 20: Op.move t139   [guarded: some (16, false)]
          apply Stage.step (Is _) [false, false, false, false, false, false, false, false, false, false, false, false, false, false, false, false, true, false, false, true] (Is.keeps _) (by kernel_rfl)
          · intro w1 h1
            simp only [List.nil_append, List.cons_append, Given]
            rintro _ rfl
            rintro _ rfl
            go_wp2_with fail
            exact Post.isv (Ext.refl _) rfl rfl rfl
          -- 21: Op.fieldAddr 35 t16 0   [guarded: some (20, true)]
          apply Stage.step (Is _) [false, false, false, false, false, false, false, false, false, false, false, false, false, false, false, false, false, false, false, false, true] (Is.keeps _) (by kernel_rfl)
          · intro w1 h1
            simp only [List.nil_append, List.cons_append, Given]
            rintro _ rfl
            go_wp2_with fail
            exact Post.isv (Ext.refl _) rfl rfl rfl
          -- 22: Op.load 22 t141   [guarded: some (20, true)]
          apply Stage.step (Is _) [false, false, false, false, false, false, false, false, false, false, false, false, false, false, false, false, false, false, false, false, true, true] (Is.keeps _) (by kernel_rfl)
          · intro w1 h1
            simp only [List.nil_append, List.cons_append, Given]
            rintro _ rfl
            rintro _ rfl
            have hq := h1.cell T0
            go_wp2_with fail
            exact Post.isv (Ext.refl _) rfl rfl rfl
          -- 23: Op.move t17   [guarded: some (20, true)]
          apply Stage.step (Is _) [false, false, false, false, false, false, false, false, false, false, false, false, false, false, false, false, false, false, false, false, true] (Is.keeps _) (by kernel_rfl)
          · intro w1 h1
            simp only [List.nil_append, List.cons_append, Given]
            rintro _ rfl
            go_wp2_with fail
            exact Post.isv (Ext.refl _) rfl rfl rfl
          -- 24: Op.indexAddr 22 t142 t143   [guarded: some (20, true)]
          apply Stage.step (Is _) [false, false, false, false, false, false, false, false, false, false, false, false, false, false, false, false, false, false, false, false, true, false, true, true] (Is.keeps _) (by kernel_rfl)
          · intro w1 h1
            simp only [List.nil_append, List.cons_append, Given]
            rintro _ rfl
            rintro _ rfl
            rintro _ rfl
            go_wp2_with fail
            exact Post.isv (Ext.refl _) rfl rfl rfl
          -- 25: Op.load 5 t144   [guarded: some (20, true)]
          apply Stage.step (Is _) [false, false, false, false, false, false, false, false, false, false, false, false, false, false, false, false, false, false, false, false, true, false, false, false, true] (Is.keeps _) (by kernel_rfl)
          · intro w1 h1
            simp only [List.nil_append, List.cons_append, Given]
            rintro _ rfl
            rintro _ rfl
            have hq := h1.cell ad
            go_wp2_with fail
            exact Post.isv (Ext.refl _) rfl rfl rfl
          -- 26: Op.binOp BinOp.neq 5 t145 (const (0:u8)) 5   [guarded: some (20, true)]
          apply Stage.step (Is _) [false, false, false, false, false, false, false, false, false, false, false, false, false, false, false, false, false, false, false, false, true, false, false, false, false, true] (Is.keeps _) (by kernel_rfl)
          · intro w1 h1
            simp only [List.nil_append, List.cons_append, Given]
            rintro _ rfl
            rintro _ rfl
            go_wp2_with fail
            exact Post.isv (Ext.refl _) rfl rfl rfl
          -- 27: Op.pick t140 t146 (const (Value.bool false))   [guarded: some (16, false)]
          apply Stage.step (Is _) [false, false, false, false, false, false, false, false, false, false, false, false, false, false, false, false, true, false, false, false, true, false, false, false, false, false, true] (Is.keeps _) (by kernel_rfl)
          · intro w1 h1
            simp only [List.nil_append, List.cons_append, Given]
            rintro _ rfl
            rintro _ rfl
            rintro _ rfl
            go_wp2_with fail
            exact Post.isv (Ext.refl _) rfl rfl rfl
          -- 28: Op.pick t136 (const (Value.bool true)) t147
          apply Stage.step (Is _) [false, false, false, false, false, false, false, false, false, false, false, false, false, false, false, false, true, false, false, false, false, false, false, false, false, false, false, true] (Is.keeps _) (by kernel_rfl)
          · intro w1 h1
            simp only [List.nil_append, List.cons_append, Given]
            rintro _ rfl
            rintro _ rfl
            go_wp2_with fail
            exact Post.isv (Ext.refl _) rfl rfl rfl
          apply Stage.nil
          intro w1 h1
          simp only [List.nil_append, List.cons_append]
          refine Fin.is_ ?_
          refine Fin.is_ ?_
          refine Fin.is_ ?_
          refine Fin.is_ ?_
          refine Fin.is_ ?_
          refine Fin.is_ ?_
          refine Fin.is_ ?_
          refine Fin.is_ ?_
          refine Fin.is_ ?_
          refine Fin.is_ ?_
          refine Fin.is_ ?_
          refine Fin.is_ ?_
          refine Fin.is_ ?_
          refine Fin.is_ ?_
          refine Fin.is_ ?_
          refine Fin.is_ ?_
          refine Fin.is_ ?_
          refine Fin.is_ ?_
          refine Fin.is_ ?_
          refine Fin.is_ ?_
          refine Fin.is_ ?_
          refine Fin.is_ ?_
          refine Fin.is_ ?_
          refine Fin.is_ ?_
          refine Fin.is_ ?_
          refine Fin.is_ ?_
          refine Fin.is_ ?_
          refine Fin.is_ ?_
          refine Fin.is_ ?_
          refine Fin.nil_ ?_
          go_simp
          go_wp2_with fail
          go_roundw
          case rel => exact ⟨k + 1, by omega, by go_num, gxr.trans h1⟩
          case measure => simp [intOf]; omega
        · rw [if_neg hko] at ad
          have k1 : decide ((k : Int) < (o : Int)) = false := by simp; omega
          have k2 : decide ((k : Int) ≥ (o : Int)) = true := by simp; omega
          have k3 : decide ((o : Int) ≤ (k : Int)) = true := by simp; omega
          go_wp2_with fail
          refine wp_region_typed Ext.steady rfl 150 rfl (by kernel_rfl) ?_
          -- 0: Op.move t17
          apply Stage.step (Is _) [] (Is.keeps _) (by kernel_rfl)
          · intro w1 h1
            simp only [Given]
            go_wp2_with fail
            exact Post.isv (Ext.refl _) rfl rfl rfl
          -- 1: Op.move t2
          apply Stage.step (Is _) [] (Is.keeps _) (by kernel_rfl)
          · intro w1 h1
            simp only [Given]
            go_wp2_with fail
            exact Post.isv (Ext.refl _) rfl rfl rfl
          -- 2: Op.binOp BinOp.lss 3 t120 t121 3
          apply Stage.step (Is _) [true, true] (Is.keeps _) (by kernel_rfl)
          · intro w1 h1
            simp only [List.nil_append, List.cons_append, Given]
            rintro _ rfl
            rintro _ rfl
            go_wp2_with fail
            exact Post.isv (Ext.refl _) rfl rfl rfl
          -- 3: Op.move t122
          apply Stage.step (Is _) [false, false, true] (Is.keeps _) (by kernel_rfl)
          · intro w1 h1
            simp only [List.nil_append, List.cons_append, Given]
            rintro _ rfl
            go_wp2_with fail
            exact Post.isv (Ext.refl _) rfl rfl rfl
          -- 4: Op.fieldAddr 35 t16 0   [guarded: some (3, true)]
          apply Stage.step (Is _) [false, false, false, true] (Is.keeps _) (by kernel_rfl)
          · intro w1 h1
            simp only [List.nil_append, List.cons_append, Given]
            rintro _ rfl
            go_wp2_with fail
            exact Post.isv (Ext.refl _) rfl rfl rfl
          -- 5: Op.load 22 t124   [guarded: some (3, true)]
          apply Stage.step (Is _) [false, false, false, true, true] (Is.keeps _) (by kernel_rfl)
          · intro w1 h1
            simp only [List.nil_append, List.cons_append, Given]
            rintro _ rfl
            rintro _ rfl
            have hq := h1.cell T0
            go_wp2_with fail
            exact Post.isv (Ext.refl _) rfl rfl rfl
          -- 6: Op.move t17   [guarded: some (3, true)]
          apply Stage.step (Is _) [false, false, false, true] (Is.keeps _) (by kernel_rfl)
          · intro w1 h1
            simp only [List.nil_append, List.cons_append, Given]
            rintro _ rfl
            go_wp2_with fail
            exact Post.isv (Ext.refl _) rfl rfl rfl
          -- 7: Op.indexAddr 22 t125 t126   [guarded: some (3, true)]
          apply Stage.step (Is _) [false, false, false, true, false, true, true] (Is.keeps _) (by kernel_rfl)
          · intro w1 h1
            simp only [List.nil_append, List.cons_append, Given]
            rintro _ rfl
            rintro _ rfl
            rintro _ rfl
            go_wp2_with fail
            exact Post.isv (Ext.refl _) rfl rfl rfl
          -- 8: Op.load 5 t127   [guarded: some (3, true)]
          apply Stage.step (Is _) [false, false, false, true, false, false, false, true] (Is.keeps _) (by kernel_rfl)
          · intro w1 h1
            simp only [List.nil_append, List.cons_append, Given]
            rintro _ rfl
            rintro _ rfl
            have hq := h1.cell ad
            go_wp2_with fail
            exact Post.isv (Ext.refl _) rfl rfl rfl
          -- 9: Op.fieldAddr 35 t9 0   [guarded: some (3, true)]
          apply Stage.step (Is _) [false, false, false, true] (Is.keeps _) (by kernel_rfl)
          · intro w1 h1
            simp only [List.nil_append, List.cons_append, Given]
            rintro _ rfl
            go_wp2_with fail
            exact Post.isv (Ext.refl _) rfl rfl rfl
          -- 10: Op.load 22 t129   [guarded: some (3, true)]
          apply Stage.step (Is _) [false, false, false, true, false, false, false, false, false, true] (Is.keeps _) (by kernel_rfl)
          · intro w1 h1
            simp only [List.nil_append, List.cons_append, Given]
            rintro _ rfl
            rintro _ rfl
            have hq := h1.cell P0
            go_wp2_with fail
            exact Post.isv (Ext.refl _) rfl rfl rfl
          -- 11: Op.move t17   [guarded: some (3, true)]
          apply Stage.step (Is _) [false, false, false, true] (Is.keeps _) (by kernel_rfl)
          · intro w1 h1
            simp only [List.nil_append, List.cons_append, Given]
            rintro _ rfl
            go_wp2_with fail
            exact Post.isv (Ext.refl _) rfl rfl rfl
          -- 12: Op.indexAddr 22 t130 t131   [guarded: some (3, true)]
          apply Stage.step (Is _) [false, false, false, true, false, false, false, false, false, false, true, true] (Is.keeps _) (by kernel_rfl)
          · intro w1 h1
            simp only [List.nil_append, List.cons_append, Given]
            rintro _ rfl
            rintro _ rfl
            rintro _ rfl
            go_wp2_with fail
            exact Post.isv (Ext.refl _) rfl rfl rfl
          -- 13: Op.load 5 t132   [guarded: some (3, true)]
          apply Stage.step (Is _) [false, false, false, true, false, false, false, false, false, false, false, false, true] (Is.keeps _) (by kernel_rfl)
          · intro w1 h1
            simp only [List.nil_append, List.cons_append, Given]
            rintro _ rfl
            rintro _ rfl
            have hq := h1.cell aa
            go_wp2_with fail
            exact Post.isv (Ext.refl _) rfl rfl rfl
          -- 14: Op.binOp BinOp.neq 5 t128 t133 5   [guarded: some (3, true)]
          apply Stage.step (Is _) [false, false, false, true, false, false, false, false, true, false, false, false, false, true] (Is.keeps _) (by kernel_rfl)
          · intro w1 h1
            simp only [List.nil_append, List.cons_append, Given]
            rintro _ rfl
            rintro _ rfl
            rintro _ rfl
            go_wp2_with fail
            exact Post.isv (Ext.refl _) rfl rfl rfl
          -- 15: Op.pick t123 t134 (const (Value.bool false))
          apply Stage.step (Is _) [false, false, false, true, false, false, false, false, false, false, false, false, false, false, true] (Is.keeps _) (by kernel_rfl)
          · intro w1 h1
            simp only [List.nil_append, List.cons_append, Given]
            rintro _ rfl
            rintro _ rfl
            go_wp2_with fail
            exact Post.isv (Ext.refl _) rfl rfl rfl
          -- 16: Op.move t135
          apply Stage.step (Is _) [false, false, false, false, false, false, false, false, false, false, false, false, false, false, false, true] (Is.keeps _) (by kernel_rfl)
          · intro w1 h1
            simp only [List.nil_append, List.cons_append, Given]
            rintro _ rfl
            go_wp2_with fail
            exact Post.isv (Ext.refl _) rfl rfl rfl
          -- 17: Op.move t17   [guarded: some (16, false)]
          apply Stage.step (Is _) [false, false, false, false, false, false, false, false, false, false, false, false, false, false, false, false, true] (Is.keeps _) (by kernel_rfl)
          · intro w1 h1
            simp only [List.nil_append, List.cons_append, Given]
            rintro _ rfl
            go_wp2_with fail
            exact Post.isv (Ext.refl _) rfl rfl rfl
          -- 18: Op.move t2   [guarded: some (16, false)]
          apply Stage.step (Is _) [false, false, false, false, false, false, false, false, false, false, false, false, false, false, false, false, true] (Is.keeps _) (by kernel_rfl)
          · intro w1 h1
            simp only [List.nil_append, List.cons_append, Given]
            rintro _ rfl
            go_wp2_with fail
            exact Post.isv (Ext.refl _) rfl rfl rfl
          -- 19: Op.binOp BinOp.geq 3 t137 t138 3   [guarded: some (16, false)]
          apply Stage.step (Is _) [false, false, false, false, false, false, false, false, false, false, false, false, false, false, false, false, true, true, true] (Is.keeps _) (by kernel_rfl)
          · intro w1 h1
            simp only [List.nil_append, List.cons_append, Given]
            rintro _ rfl
            rintro _ rfl
            rintro _ rfl
            go_wp2_with fail
            exact Post.isv (Ext.refl _) rfl rfl rfl
          -- 20: Op.move t139   [guarded: some (16, false)]
          apply Stage.step (Is _) [false, false, false, false, false, false, false, false, false, false, false, false, false, false, false, false, true, false, false, true] (Is.keeps _) (by kernel_rfl)
          · intro w1 h1
            simp only [List.nil_append, List.cons_append, Given]
            rintro _ rfl
            rintro _ rfl
            go_wp2_with fail
            exact Post.isv (Ext.refl _) rfl rfl rfl
          -- 21: Op.fieldAddr 35 t16 0   [guarded: some (20, true)]
          apply Stage.step (Is _) [false, false, false, false, false, false, false, false, false, false, false, false, false, false, false, false, false, false, false, false, true] (Is.keeps _) (by kernel_rfl)
          · intro w1 h1
            simp only [List.nil_append, List.cons_append, Given]
            rintro _ rfl
            go_wp2_with fail
            exact Post.isv (Ext.refl _) rfl rfl rfl
          -- 22: Op.load 22 t141   [guarded: some (20, true)]
          apply Stage.step (Is _) [false, false, false, false, false, false, false, false, false, false, false, false, false, false, false, false, false, false, false, false, true, true] (Is.keeps _) (by kernel_rfl)
          · intro w1 h1
            simp only [List.nil_append, List.cons_append, Given]
            rintro _ rfl
            rintro _ rfl
            have hq := h1.cell T0
            go_wp2_with fail
            exact Post.isv (Ext.refl _) rfl rfl rfl
          -- 23: Op.move t17   [guarded: some (20, true)]
          apply Stage.step (Is _) [false, false, false, false, false, false, false, false, false, false, false, false, false, false, false, false, false, false, false, false, true] (Is.keeps _) (by kernel_rfl)
          · intro w1 h1
            simp only [List.nil_append, List.cons_append, Given]
            rintro _ rfl
            go_wp2_with fail
            exact Post.isv (Ext.refl _) rfl rfl rfl
          -- 24: Op.indexAddr 22 t142 t143   [guarded: some (20, true)]
          apply Stage.step (Is _) [false, false, false, false, false, false, false, false, false, false, false, false, false, false, false, false, false, false, false, false, true, false, true, true] (Is.keeps _) (by kernel_rfl)
          · intro w1 h1
            simp only [List.nil_append, List.cons_append, Given]
            rintro _ rfl
            rintro _ rfl
            rintro _ rfl
            go_wp2_with fail
            exact Post.isv (Ext.refl _) rfl rfl rfl
          -- 25: Op.load 5 t144   [guarded: some (20, true)]
          apply Stage.step (Is _) [false, false, false, false, false, false, false, false, false, false, false, false, false, false, false, false, false, false, false, false, true, false, false, false, true] (Is.keeps _) (by kernel_rfl)
          · intro w1 h1
            simp only [List.nil_append, List.cons_append, Given]
            rintro _ rfl
            rintro _ rfl
            have hq := h1.cell ad
            go_wp2_with fail
            exact Post.isv (Ext.refl _) rfl rfl rfl
          -- 26: Op.binOp BinOp.neq 5 t145 (const (0:u8)) 5   [guarded: some (20, true)]
          apply Stage.step (Is _) [false, false, false, false, false, false, false, false, false, false, false, false, false, false, false, false, false, false, false, false, true, false, false, false, false, true] (Is.keeps _) (by kernel_rfl)
          · intro w1 h1
            simp only [List.nil_append, List.cons_append, Given]
            rintro _ rfl
            rintro _ rfl
            go_wp2_with fail
            exact Post.isv (Ext.refl _) rfl rfl rfl
          -- 27: Op.pick t140 t146 (const (Value.bool false))   [guarded: some (16, false)]
          apply Stage.step (Is _) [false, false, false, false, false, false, false, false, false, false, false, false, false, false, false, false, true, false, false, false, true, false, false, false, false, false, true] (Is.keeps _) (by kernel_rfl)
          · intro w1 h1
            simp only [List.nil_append, List.cons_append, Given]
            rintro _ rfl
            rintro _ rfl
            rintro _ rfl
            go_wp2_with fail
            exact Post.isv (Ext.refl _) rfl rfl rfl
          -- 28: Op.pick t136 (const (Value.bool true)) t147
          apply Stage.step (Is _) [false, false, false, false, false, false, false, false, false, false, false, false, false, false, false, false, true, false, false, false, false, false, false, false, false, false, false, true] (Is.keeps _) (by kernel_rfl)
          · intro w1 h1
            simp only [List.nil_append, List.cons_append, Given]
            rintro _ rfl
            rintro _ rfl
            go_wp2_with fail
            exact Post.isv (Ext.refl _) rfl rfl rfl
          apply Stage.nil
          intro w1 h1
          simp only [List.nil_append, List.cons_append]
          refine Fin.is_ ?_
          refine Fin.is_ ?_
          refine Fin.is_ ?_
          refine Fin.is_ ?_
          refine Fin.is_ ?_
          refine Fin.is_ ?_
          refine Fin.is_ ?_
          refine Fin.is_ ?_
          refine Fin.is_ ?_
          refine Fin.is_ ?_
          refine Fin.is_ ?_
          refine Fin.is_ ?_
          refine Fin.is_ ?_
          refine Fin.is_ ?_
          refine Fin.is_ ?_
          refine Fin.is_ ?_
          refine Fin.is_ ?_
          refine Fin.is_ ?_
          refine Fin.is_ ?_
          refine Fin.is_ ?_
          refine Fin.is_ ?_
          refine Fin.is_ ?_
          refine Fin.is_ ?_
          refine Fin.is_ ?_
          refine Fin.is_ ?_
          refine Fin.is_ ?_
          refine Fin.is_ ?_
          refine Fin.is_ ?_
          refine Fin.is_ ?_
          refine Fin.nil_ ?_
          go_simp
          go_wp2_with fail
          go_roundw
          case rel => exact ⟨k + 1, by omega, by go_num, gxr.trans h1⟩
          case measure => simp [intOf]; omega
      · have T0 := gxr.cell t0
        go_wp2_with fail
        refine (law14_known _).mono ?_
        rintro e w9 ⟨rfl, hx1⟩
        go_wp2_with fail
        go_ret
        exact ⟨rfl, (gx.trans gxr).trans hx1⟩
end Go.Proofs.Ytcklkjklepmabaa
