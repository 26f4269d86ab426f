/-
  A fourth law for a region that draws its order: its last operations come behind all the others (an append onto a row that another append grew): the others by types (XReg2), then these, one by one.
-/
/-
  Chapter 9: the statements' own Make of messages with entries.
-/
/-
  What holds however messages' boxes are filled; rows of entries whose bytes lie between two blocks; a string's bytes in a new row.
-/
/-
  Chains out of bytes: contract of the reference's numbers.
-/
import Derived.Test.YtoeknbogaclfdaaZCore
import Derived.Test.YtoeknbogaclfdaaZFromMsGetToMake9b
import Derived.Lib.ConvBytes
import Derived.Test.YtoeknbogaclfdaaZFromTagParseToMsTags
namespace Go.Proofs.Ytoeknbogaclfdaa
open Go.RowKit
set_option linter.unusedVariables false
section
variable {P : Program} {N R : World → World → Prop} {Q : Exit → Act → World → Prop}
def chainB (ops : Array Oper) (n : Nat) : Bool := ops.toList.zipIdx.all fun (o, i) => decide (i ≤ n) || o.after.any fun e => Region.binds .any e && (e.on == i - 1)
def backB (ops : Array Oper) : Bool := ops.toList.zipIdx.all fun (o, i) => o.after.all fun e => !Region.binds .any e || decide (e.on < i)
theorem tail_any {ops : Array Oper} {n : Nat} (hch : chainB ops n = true) (hbk : backB ops = true) : ∀ (tl : List Oper) (j : Nat) (listed : Array Bool) (a : Act) (w : World) (fuel : Nat), (∀ i, tl[i]? = ops[j + i]?) → listed.size = ops.size → (∀ k, k < j → listed.getD k false = true) → (∀ k, j ≤ k → listed.getD k false = false) → n ≤ j → ops.size ≤ fuel + j →
    wpList P ops Q tl a w → wpAny P .any ops Q fuel listed a w
  | [], j, listed, a, w, fuel, htl, hls, h1, h2, hn, hf, h => by
    have hj : ops.size ≤ j := by
      have := htl 0
      simp at this
      exact this
    have hr : Region.ready .any ops listed = [] := by
      rw [List.eq_nil_iff_forall_not_mem]
      intro i hi
      obtain ⟨hun, o, ho, _⟩ := mem_ready.1 hi
      have hi2 : i < ops.size := (Array.getElem?_eq_some_iff.1 ho).1
      have := h1 i (by omega)
      rw [getD_of_lt (by omega) false true, hun] at this
      cases this
    cases fuel with
    | zero => exact ⟨hr, h⟩
    | succ f => exact ⟨fun _ => h, fun i hi => by rw [hr] at hi; cases hi⟩
  | o :: tl, j, listed, a, w, fuel, htl, hls, h1, h2, hn, hf, h => by
    have hoj : ops[j]? = some o := by
      have := htl 0
      simpa using this.symm
    have hj : j < ops.size := (Array.getElem?_eq_some_iff.1 hoj).1
    have hop : ∀ (i : Nat) (o' : Oper), ops[i]? = some o' → (o', i) ∈ ops.toList.zipIdx := fun i o' hi => by
      rw [List.mem_zipIdx_iff_getElem?]
      simpa using hi
    cases fuel with
    | zero => omega
    | succ f =>
      have hjr : j ∈ Region.ready .any ops listed := by
        rw [mem_ready]
        refine ⟨by rw [getD_of_lt (by omega) true false]; exact h2 j (Nat.le_refl _), o, hoj, fun e he hb => ?_⟩
        have q := List.all_eq_true.1 hbk _ (hop j o hoj)
        have q2 := Array.all_eq_true_iff_forall_mem.1 q e he
        simp only [hb, Bool.not_true, Bool.false_or, decide_eq_true_eq] at q2
        exact h1 _ q2
      refine ⟨fun h0 => (by rw [h0] at hjr; cases hjr), fun i hi => ?_⟩
      obtain ⟨hun, o', ho, hedges⟩ := mem_ready.1 hi
      have hi2 : i < ops.size := (Array.getElem?_eq_some_iff.1 ho).1
      have hij : j ≤ i := by
        by_cases hlt : i < j
        · have := h1 i hlt
          rw [getD_of_lt (by omega) false true, hun] at this
          cases this
        · omega
      have hie : i = j := by
        by_cases he : i = j
        · exact he
        · exfalso
          have q := List.all_eq_true.1 hch _ (hop i o' ho)
          simp only [Bool.or_eq_true, decide_eq_true_eq] at q
          rcases q with q | q
          · omega
          · obtain ⟨m, hm, q2⟩ := Array.any_eq_true.1 q
            simp only [Bool.and_eq_true, beq_iff_eq] at q2
            have := hedges _ (Array.getElem_mem hm) q2.1
            rw [q2.2, h2 (i - 1) (by omega)] at this
            cases this
      subst hie
      rw [hoj] at ho
      cases ho
      unfold wpOp
      simp only [hoj]
      have hset : ∀ k, (listed.setIfInBounds i true).getD k false = if k = i then true else listed.getD k false := by
        intro k
        by_cases hk : k = i
        · subst hk
          have : k < listed.size := by omega
          simp [Array.getD, this]
        · rw [if_neg hk, getD_set_ne false (Ne.symm hk)]
      have ih : ∀ a' w', wpList P ops Q tl a' w' → wpAny P .any ops Q f (listed.setIfInBounds i true) a' w' := fun a' w' h' =>
        tail_any hch hbk tl (i + 1) _ a' w' f (fun q => by have := htl (q + 1); simpa [Nat.add_assoc, Nat.add_comm 1 q] using this) (by simpa using hls) (fun k hk => by rw [hset]; split; rfl; exact h1 k (by omega)) (fun k hk => by rw [hset, if_neg (by omega)]; exact h2 k (by omega)) (by omega) (by omega) h'
      unfold wpList at h
      split at h
      · rename_i hw
        rw [if_pos hw]
        rcases h with h | h
        · exact .inl (Oper.wp_mono ih h)
        · exact .inr h
      · rename_i hw
        rw [if_neg hw]
        exact ih _ _ h
def ancB (M : List Nat) (n m : Nat) : Bool := (List.range (m - n)).all fun d => (List.range n).all fun k => mbit M (n + d) k
theorem any_typed4 {l tl : List Oper} {rest : List Sp} {M : List Nat} {W : Nat} {a0 : Act} {w0 : World} (hN : Steady N) (hR : Steady R) (hNR : ∀ w w', N w w' → R w w') (hl : rest.map Sp.o = l)
    (hok : regionOk a0.tmps.size (l ++ tl) = true) (hM : maskOk (l ++ tl) M = true) (hW : W < 2 ^ l.length) (hanc : ancB M l.length (l ++ tl).length = true) (hch : chainB (l ++ tl).toArray l.length = true) (hbk : backB (l ++ tl).toArray = true)
    (hkeep : ∀ p ∈ rest, Keeps N p.T ∧ (p.st = true → Keeps R p.T))
    (hobl : ∀ i sp, rest[i]? = some sp → ∃ (fl : List Bool) (pu wr : Bool), (flagsOk2 (l ++ tl).toArray M W ((rest.take i).map Sp.st) i sp.o fl && (W.testBit i == wr) && (!pu || pureOk M W (l ++ tl).toArray.size i)) = true ∧
        ∀ w1, Sel N R pu w0 w1 → Given w1 (fun a => wpList P (l ++ tl).toArray (Post (Sel N R (!wr)) sp.T sp.o a w1) [sp.o] a w1) fl ((rest.take i).map Sp.pr) a0)
    (hfin : ∃ al : List Bool, aliveOk M W (l ++ tl).toArray.size (rest.map Sp.st) al = true ∧ ∀ w', Sel N R (W == 0) w0 w' → Fin2 w' (fun a => wpList P (l ++ tl).toArray Q tl a w') al (rest.map Sp.pr) a0) :
    ∀ (fuel : Nat) (listed : Array Bool) (a : Act) (w : World), Midway2 N R (rest ++ tl.map fun o => ⟨o, fun _ _ => True, true⟩) M W a0 w0 listed a w → (∀ k, l.length ≤ k → listed.getD k false = false) → (l ++ tl).length ≤ fuel + listed.toList.count true → wpAny P .any (l ++ tl).toArray Q fuel listed a w := by
  obtain ⟨full, hfull⟩ : ∃ q, (rest ++ tl.map fun o => (⟨o, fun _ _ => True, true⟩ : Sp)) = q := ⟨_, rfl⟩
  rw [hfull]
  have hlen : l.length = rest.length := by rw [← hl]; simp
  have hfo : full.map Sp.o = l ++ tl := by rw [← hfull, List.map_append, hl, List.map_map]; simp [Function.comp_def]
  have hfl : full.length = (l ++ tl).length := by rw [← hfo]; simp
  have hlow : ∀ (k : Nat) (s : Sp), full[k]? = some s → k < l.length → rest[k]? = some s := by
    intro k s hk hlt
    rw [← hfull, List.getElem?_append_left (by omega)] at hk
    exact hk
  have hlow' : ∀ (k : Nat) (s : Sp), rest[k]? = some s → full[k]? = some s := by
    intro k s hk
    rw [← hfull, List.getElem?_append_left (List.getElem?_eq_some_iff.1 hk).1]
    exact hk
  have htake : ∀ i, i ≤ l.length → full.take i = rest.take i := by
    intro i hi
    rw [← hfull, List.take_append_of_le_length (by omega)]
  have hW2 : W < 2 ^ full.length := Nat.lt_of_lt_of_le hW (Nat.pow_le_pow_right (by omega) (by rw [hfl, List.length_append]; omega))
  have hkeep2 : ∀ p ∈ full, Keeps N p.T ∧ (p.st = true → Keeps R p.T) := by
    intro p hp
    rw [← hfull] at hp
    rcases List.mem_append.1 hp with hp | hp
    · exact hkeep p hp
    · obtain ⟨o, _, rfl⟩ := List.mem_map.1 hp
      exact ⟨fun _ _ _ _ _ => trivial, fun _ _ _ _ _ _ => trivial⟩
  have hback : ∀ (k : Nat) (s : Sp), full[k]? = some s → ∀ e ∈ s.o.after, Region.binds .any e = true → e.on < k := by
    intro k s hk e he hb
    have hok' := hok
    simp only [regionOk, Bool.and_eq_true] at hok'
    have hm : (s.o, k) ∈ (l ++ tl).zipIdx := by
      rw [← hfo, List.mem_zipIdx_iff_getElem?]
      simp [hk]
    have h1 := List.all_eq_true.1 hok'.2 (s.o, k) hm
    have h2 := Array.all_eq_true_iff_forall_mem.1 h1 e he
    simpa [hb] using h2
  have hopsk : ∀ (k : Nat) (s : Sp), full[k]? = some s → (l ++ tl).toArray[k]? = some s.o := by
    intro k s hk
    rw [← hfo]
    simp [hk]
  have hopsk' : ∀ (k : Nat) (o : Oper), (l ++ tl).toArray[k]? = some o → ∃ s, full[k]? = some s ∧ s.o = o := by
    intro k o hk
    rw [← hfo] at hk
    simp only [List.getElem?_toArray, List.getElem?_map, Option.map_eq_some_iff] at hk
    exact hk
  have hgood : ∀ (k : Nat) (s : Sp), full[k]? = some s → ∀ d, s.o.dst = some d → d < a0.tmps.size := by
    intro k s hk d hd
    have hok' := hok
    simp only [regionOk, Bool.and_eq_true] at hok'
    have h1 := List.all_eq_true.1 hok'.1.2 s.o (by rw [← hfo]; exact List.mem_map.2 ⟨s, List.mem_of_getElem? hk, rfl⟩)
    simp only [Bool.and_eq_true] at h1
    have h2 := h1.2
    rw [hd] at h2
    simpa using h2
  have fin : ∀ (listed : Array Bool) (a : Act) (w : World), Midway2 N R full M W a0 w0 listed a w → (∀ k, k < l.length → listed.getD k false = true) → (∀ k, l.length ≤ k → listed.getD k false = false) → wpList P (l ++ tl).toArray Q tl a w := by
    intro listed a w hm hl1 hl2
    obtain ⟨al, hal, hfin⟩ := hfin
    let g : Nat → Value := fun t => a.tmps.getD t undef
    have hrel : Sel N R (W == 0) w0 w := by
      cases h0 : (W == 0) with
      | true =>
        have hz : W = 0 := by simpa using h0
        exact hm.clean fun j hj => by rw [hz] at hj; simp at hj
      | false => exact hm.world
    have hT : ∀ (k : Nat) (p : Oper × Ty), (rest.map Sp.pr)[k]? = some p → al.getD k false = true → p.2 ((p.1.dst.map g).getD undef) w := by
      intro k p hk hf
      rw [List.getElem?_map, Option.map_eq_some_iff] at hk
      obtain ⟨s, hk, rfl⟩ := hk
      have hlt : k < rest.length := (List.getElem?_eq_some_iff.1 hk).1
      have hf' : al[k]? = some true := by
        cases hc : al[k]? with
        | none => simp [List.getD, hc] at hf
        | some b => simp only [List.getD, hc, Option.getD_some] at hf; rw [hf]
      have hmem : (true, k) ∈ al.zipIdx := by rw [List.mem_zipIdx_iff_getElem?]; exact hf'
      have h1 := List.all_eq_true.1 hal (true, k) hmem
      simp only [Bool.not_true, Bool.false_or, Bool.or_eq_true] at h1
      have := hm.done k s (hlow' k s hk) (hl1 k (by omega)) (by
        rcases h1 with h1 | h1
        · left
          simpa [List.getD, hk] using h1
        · right
          intro j hj hw _
          have h2 := List.all_eq_true.1 h1 j (List.mem_range.2 (by simp only [List.size_toArray]; rw [← hfl]; exact hj))
          simp only [hw, Bool.not_true, Bool.false_or, Bool.or_eq_true, beq_iff_eq] at h2
          exact h2)
      unfold dstVal at this
      cases hd : s.o.dst with
      | none => simpa [hd] using this
      | some d => simpa [hd, g] using this
    have h1 := Fin2.at_ g al (rest.map Sp.pr) a0 (hfin w hrel) hT
    have e : canon ((rest.map Sp.pr).map fun _ => true) (rest.map Sp.pr) g a0 = a := by
      have htm : (canon ((rest.map Sp.pr).map fun _ => true) (rest.map Sp.pr) g a0).tmps = a.tmps := by
        refine Array.ext_getElem? fun t => ?_
        by_cases hex : ∃ (k : Nat) (s : Sp), rest[k]? = some s ∧ s.o.dst = some t
        · obtain ⟨k, s, hk, hd⟩ := hex
          have hlt := hgood k s (hlow' k s hk) t hd
          have hkl : k < rest.length := (List.getElem?_eq_some_iff.1 hk).1
          rw [canon_at g t _ (rest.map Sp.pr) a0 k s.o s.T hlt (by simp [hk]) (by simp [hk]) hd]
          have hlt' : t < a.tmps.size := by rw [hm.size]; exact hlt
          simp [g, Array.getD, hlt']
        · rw [canon_other g t _ (rest.map Sp.pr) a0, hm.other t]
          · intro k s hk hd
            by_cases hkl : k < l.length
            · exact absurd ⟨k, s, hlow k s hk hkl, hd⟩ hex
            · exact hl2 k (by omega)
          · intro p hp hd
            obtain ⟨s, hs, rfl⟩ := List.mem_map.1 hp
            obtain ⟨k, hk⟩ := List.mem_iff_getElem?.1 hs
            exact hex ⟨k, s, hk, hd⟩
      have hdf : (canon ((rest.map Sp.pr).map fun _ => true) (rest.map Sp.pr) g a0).defers = a.defers := by rw [canon_defers, hm.defers]
      generalize canon ((rest.map Sp.pr).map fun _ => true) (rest.map Sp.pr) g a0 = c at *
      cases c
      cases a
      simp only at htm hdf
      subst htm
      subst hdf
      rfl
    rw [e] at h1
    exact h1
  have ready_nil : ∀ (listed : Array Bool), listed.size = full.length → Region.ready .any (l ++ tl).toArray listed = [] → ∀ k, k < full.length → listed.getD k false = true := by
    intro listed hls hr k
    induction k using Nat.strongRecOn with
    | _ k ih =>
      intro hk
      cases hc : listed.getD k false with
      | true => rfl
      | false =>
        exfalso
        obtain ⟨s, hp⟩ : ∃ p, full[k]? = some p := ⟨_, List.getElem?_eq_getElem hk⟩
        have : k ∈ Region.ready .any (l ++ tl).toArray listed := by
          rw [mem_ready]
          refine ⟨by rw [getD_of_lt (by omega) true false]; exact hc, s.o, hopsk k s hp, fun e he hb => ?_⟩
          have := hback k s hp e he hb
          exact ih e.on this (by omega)
        rw [hr] at this
        cases this
  have tail : ∀ (fuel : Nat) (listed : Array Bool) (a : Act) (w : World), Midway2 N R full M W a0 w0 listed a w → (∀ k, k < l.length → listed.getD k false = true) → (∀ k, l.length ≤ k → listed.getD k false = false) → (l ++ tl).length ≤ fuel + l.length → wpAny P .any (l ++ tl).toArray Q fuel listed a w := by
    intro fuel listed a w hm hl1 hl2 hf
    refine tail_any (n := l.length) hch hbk tl l.length listed a w fuel (fun i => ?_) (by rw [hm.lsize, hfl]; simp) hl1 hl2 (Nat.le_refl _) (by simpa using hf) (fin listed a w hm hl1 hl2)
    simp [List.getElem?_append_right]
  have cnt : ∀ (listed : Array Bool), listed.size = full.length → (∀ k, l.length ≤ k → listed.getD k false = false) → listed.toList.count true ≤ l.length := by
    intro listed hls hl2
    have e : listed.toList = listed.toList.take l.length ++ listed.toList.drop l.length := (List.take_append_drop _ _).symm
    rw [e, List.count_append]
    have h1 : (listed.toList.take l.length).count true ≤ l.length := Nat.le_trans (List.count_le_length) (by rw [List.length_take]; omega)
    have h2 : (listed.toList.drop l.length).count true = 0 := by
      rw [List.count_eq_zero]
      intro hmem
      obtain ⟨k, hk⟩ := List.mem_iff_getElem?.1 hmem
      rw [List.getElem?_drop] at hk
      have := hl2 (l.length + k) (by omega)
      have hlt : l.length + k < listed.size := by
        have := (List.getElem?_eq_some_iff.1 hk).1
        simpa using this
      simp [Array.getD, hlt] at this
      have hk2 : listed[l.length + k]? = some true := by simpa using hk
      rw [Array.getElem?_eq_getElem hlt, this] at hk2
      cases hk2
    omega
  intro fuel
  induction fuel with
  | zero =>
    intro listed a w hm hl2 hcount
    by_cases hall : ∀ k, k < l.length → listed.getD k false = true
    · refine tail 0 listed a w hm hall hl2 ?_
      have := cnt listed hm.lsize hl2
      omega
    · exfalso
      apply hall
      intro k hk
      have hc := cnt listed hm.lsize hl2
      have hlen0 : (l ++ tl).length = l.length := by rw [List.length_append] at hcount ⊢; omega
      have hlen2 : listed.toList.length = full.length := by simpa using hm.lsize
      have hc2 : listed.toList.count true = listed.toList.length := by
        have := List.count_le_length (a := true) (l := listed.toList)
        omega
      have h3 := List.count_eq_length.1 hc2
      have hk' : k < listed.size := by rw [hm.lsize]; omega
      have h4 := h3 listed[k] (by simp)
      simp [Array.getD, hk', ← h4]
  | succ fuel ih =>
    intro listed a w hm hl2 hcount
    by_cases hall : ∀ k, k < l.length → listed.getD k false = true
    · refine tail (fuel + 1) listed a w hm hall hl2 ?_
      have := cnt listed hm.lsize hl2
      omega
    · refine ⟨fun h0 => absurd (fun k hk => ready_nil listed hm.lsize h0 k (by rw [hfl, List.length_append]; omega)) hall, fun i hi => ?_⟩
      obtain ⟨hun, o, ho, hedges⟩ := mem_ready.1 hi
      obtain ⟨s, hiT, rfl⟩ := hopsk' i o ho
      have hil : i < full.length := (List.getElem?_eq_some_iff.1 hiT).1
      have hin : i < l.length := by
        by_cases h : i < l.length
        · exact h
        · exfalso
          apply hall
          intro k hk
          refine mask_reach (full := full) (by rw [hfo]; exact hM) hm.closed i s k hiT hedges (by rw [hfl, List.length_append]; omega) ?_
          have h1 := List.all_eq_true.1 hanc (i - l.length) (List.mem_range.2 (by omega))
          have h2 := List.all_eq_true.1 h1 k (List.mem_range.2 hk)
          rw [show l.length + (i - l.length) = i by omega] at h2
          exact h2
      refine step_typed2 (ops := (l ++ tl).toArray) (full := full) hN hR hNR (by rw [hfo]) (by rw [hfo]; exact hok) (by rw [hfo]; exact hM) hW2 hkeep2 i ?_ listed a w _ hm hi fun a' w' hm' => ih _ _ _ hm' ?_ ?_
      · intro sp hsp
        obtain ⟨fl, pu, wr, h1, h2⟩ := hobl i sp (hlow i sp hsp hin)
        refine ⟨fl, pu, wr, ?_, ?_⟩
        · rw [htake i (by omega)]; exact h1
        · rw [htake i (by omega)]; exact h2
      · intro k hk
        rw [getD_set_ne false (by omega)]
        exact hl2 k hk
      · have hil' : i < listed.size := by rw [hm.lsize]; exact hil
        have hf : listed[i] = false := by simpa [Array.getD, hil'] using hun
        have hset : (listed.setIfInBounds i true).toList = listed.toList.set i true := by simp
        rw [hset, List.count_set (by simpa using hil')]
        have hf' : listed.toList[i]'(by simpa using hil') = false := by simpa using hf
        simp only [hf']
        simp
        have hc := hcount
        simp only [Array.count_toList] at hc
        rw [List.length_append] at hc
        omega
theorem wp_region_typed4 {id : Nat} {l tl : List Oper} {a0 : Act} {w0 : World} (hN : Steady N) (hR : Steady R) (hNR : ∀ w w', N w w' → R w w') (hm : P.follows .mixedOrders = true) (n : Nat) (hn : a0.tmps.size = n) (M : List Nat) (W : Nat)
    (hok : (regionOk n (l ++ tl) && maskOk (l ++ tl) M && decide (W < 2 ^ l.length) && ancB M l.length (l ++ tl).length && chainB (l ++ tl).toArray l.length && backB (l ++ tl).toArray) = true)
    (h : Stage2 P (l ++ tl).toArray N R M W a0 w0 (fun a w => wpList P (l ++ tl).toArray Q tl a w) [] l) : (Code.region id (l ++ tl).toArray true).wp P Q a0 w0 := by
  obtain ⟨rest, h1, h2, h3, h4⟩ := Stage2.all l [] h
  subst hn
  simp only [Bool.and_eq_true, decide_eq_true_eq] at hok
  refine wp_region_any hm ?_
  refine any_typed4 (rest := rest) (a0 := a0) (w0 := w0) hN hR hNR h1 hok.1.1.1.1.1 hok.1.1.1.1.2 hok.1.1.1.2 hok.1.1.2 hok.1.2 hok.2 h2 (by simpa using h4) (by simpa using h3) _ _ _ _ ⟨hNR _ _ (hN.drew w0), fun _ => hN.drew w0, rfl, rfl, by rw [← h1]; simp, fun _ _ => rfl, ?_, ?_⟩ ?_ (by simp)
  · intro k sp hk hl
    have hlt : k < (l ++ tl).length := by have := (List.getElem?_eq_some_iff.1 hk).1; rw [← h1]; simpa using this
    simp [Array.getD, hlt] at hl
  · intro k sp hk hl
    have hlt : k < (l ++ tl).length := by have := (List.getElem?_eq_some_iff.1 hk).1; rw [← h1]; simpa using this
    simp [Array.getD, hlt] at hl
  · intro k _
    simp [Array.getD]
theorem wp_region_typed4' {id : Nat} {L : List Oper} {a0 : Act} {w0 : World} (k : Nat) (hN : Steady N) (hR : Steady R) (hNR : ∀ w w', N w w' → R w w') (hm : P.follows .mixedOrders = true) (n : Nat) (hn : a0.tmps.size = n) (M : List Nat) (W : Nat)
    (hok : (regionOk n L && maskOk L M && decide (W < 2 ^ (L.take k).length) && ancB M (L.take k).length L.length && chainB L.toArray (L.take k).length && backB L.toArray) = true)
    (h : Stage2 P L.toArray N R M W a0 w0 (fun a w => wpList P L.toArray Q (L.drop k) a w) [] (L.take k)) : (Code.region id L.toArray true).wp P Q a0 w0 := by
  have e : L.take k ++ L.drop k = L := List.take_append_drop k L
  have := wp_region_typed4 (id := id) (l := L.take k) (tl := L.drop k) (Q := Q) (a0 := a0) (w0 := w0) hN hR hNR hm n hn M W (by rw [e]; exact hok) (by rw [e]; exact h)
  rw [e] at this
  exact this
def Bet (S : Nat → Prop) (w w' : World) : Prop := ∀ H, But H S w w'
theorem Bet.steady (S : Nat → Prop) : Steady (Bet S) := ⟨fun w H => But.refl H S w, fun _ _ _ h k H => (h H).trans (k H), fun w H => But.of_ext (Ext.drew w)⟩
theorem Bet.of_ext {S : Nat → Prop} {a b : World} (h : Ext a b) : Bet S a b := fun H => But.of_ext h
theorem Bet.cell {S : Nat → Prop} {a b : World} (h : Bet S a b) {p : Addr} {u : Value} (hc : a.cell? p = some u) (hS : ¬ S p.block) : b.cell? p = some u := (h (p.block + 1)).cell hc (Nat.lt_succ_self _) hS
theorem Bet.grown {S : Nat → Prop} {w w' : World} {row : Option Nat} (hg : w.grownBy w' row) (hr : ∀ k, row = some k → S k) : Bet S w w' := fun H => But.grown (But.refl H S w) hg fun k hk => .inl (hr k hk)
theorem Bet.block {S : Nat → Prop} {a b : World} (h : Bet S a b) {k : Nat} (hS : ¬ S k) (hk : k < a.heap.size) : b.heap[k]? = a.heap[k]? := (h (k + 1)).block k (Nat.lt_succ_self _) hS hk
end
end Go.Proofs.Ytoeknbogaclfdaa

namespace Go.Proofs.Ytoeknbogaclfdaa
open Go.RowKit
set_option linter.unusedVariables false
set_option linter.unusedSimpArgs false
set_option linter.unnecessarySimpa false
set_option maxRecDepth 100000
def enRL (H : Nat) (x : En) (cs : List Value) (w : World) : Prop := enR x cs w ∧ ∀ k, Pts cs k → k < H
theorem enRL_rep (H : Nat) : Rep 3 (enRL H) where
  len := fun x cs w h => en_rep.len x cs w h.1
  one := fun x cs w h => en_rep.one x cs w h.1
  keep := fun x cs w w' h hk => ⟨en_rep.keep x cs w w' h.1 hk, h.2⟩
  lt := fun x cs w h => en_rep.lt x cs w h.1
def EnO (H B n : Nat) (xs : List En) (row : Option Nat) : Ty := fun v u => ∃ A c, v = .slice A n c ∧ OwnL TEn 3 (enRL H) u B A n c xs
theorem wpList_append_lstM {P : Program} {α : Type} {size : Nat} {R : α → List Value → World → Prop} (hR : Rep size R)
    {ops : Array Oper} {rest : List Oper} {o : Oper} {a : Act} {Q : Exit → Act → World → Prop} {w : World} {B : Nat} (hgd : o.guard = none) (s y : Operand) (t tx : TypeId)
    (ho : o.op = .call { callee := .builtin .append, args := #[s, y], argTypes := #[t, tx] })
    (e : TypeId) (i : TypeInfo) (z : Value) (bytes : Nat) (ht : P.underlying t = some (.slice e)) (hi : P.info? e = some i) (hz : i.zero = some z)
    (hsize : i.size = size) (hby : i.bytes = bytes) (hzs : z.cells.size = size)
    (A : Option Addr) (n c : Nat) (xs : List α) (hsv : a.eval s = .slice A n c) (hown : OwnL e size R w B A n c xs) (Y : Value) (m : Nat) (ys : List α) (hy : a.eval y = Y) (hl : Feed P size R w tx A c Y m ys)
    (N : Nat) (hN : n + m = N) (zs : List α) (hzs' : xs ++ ys = zs) (h63 : N ≤ maxLen) (hbytes : N * bytes ≤ 140737488355328) (hB : B ≤ w.heap.size)
    (h : ∀ A' c' w', OwnL e size R w' B A' N c' zs → w.grownBy w' (rowOf A c) → wpList P ops Q rest (a.put o.dst (.slice A' N c')) w') : wpList P ops Q (o :: rest) a w := by
  subst hN hzs'
  obtain ⟨css, ha, ho1, hp⟩ := hown.own
  obtain ⟨hlen, dss, hb, hsrc, hk⟩ := hl
  refine wpList_append_mine _ hgd s y t tx ho B e i z size bytes ht hi hz hsize hby hzs A n c _ hsv ho1 _ hy m _ hsrc h63 hbytes hB ?_
  intro A3 c3 w3 hown3 hg3 hr3
  exact h A3 c3 w3 (OwnL.more hR hown.len hlen ha hp hb hk hown3 hg3 hr3) hg3
def EnLL (H : Nat) (x : En) : Ty := fun v u => ∃ A c, v = .slice A 1 c ∧ Lst 3 (enRL H) u A 1 c [x]
theorem EnLL.keeps (H : Nat) (x : En) : Keeps Ext (EnLL H x) := fun _ _ _ hx ⟨A, c, e, h⟩ => ⟨A, c, e, h.ext (enRL_rep H) hx⟩
theorem EnLL.feed {H B : Nat} {x : En} {u : World} {A : Option Addr} {c : Nat} (h : Lst 3 (enRL H) u A 1 c [x]) {Ao : Option Addr} {k co : Nat} {out : List En} (ho : OwnL TEn 3 (enRL H) u B Ao k co out) (hB : H ≤ B) : Feed Try.prog 3 (enRL H) u 26 Ao co (.slice A 1 c) 1 [x] := by
  obtain ⟨css, h1, h2⟩ := h.src (P := Try.prog) (enRL_rep H) under_ens
  refine ⟨rfl, css, h1, h2, fun cs hcs q hq e => ?_⟩
  obtain ⟨y, hr⟩ := h1.mem cs hcs
  have e1 := hr.2 q hq
  have e2 := (ho.row_lt q e).1
  omega
theorem EnO.keeps (H B n : Nat) (xs : List En) (row : Option Nat) : Keeps Ext (EnO H B n xs row) := fun _ _ _ hx ⟨A, c, e, h⟩ => ⟨A, c, e, h.ext (enRL_rep H) hx⟩
end Go.Proofs.Ytoeknbogaclfdaa

namespace Go.Proofs.Ytoeknbogaclfdaa
open Go.RowKit
set_option linter.unusedVariables false
set_option linter.unusedSimpArgs false
set_option linter.unnecessarySimpa false
set_option maxRecDepth 100000
def isZ (w : World) (k : Nat) : Prop := ∃ C, w.heap[k]? = some (.cells C TMs (0, 0)) ∧ C.size = 10 ∧ ∀ (j : Nat) (x : Int), C[j]? ≠ some (.int .u8 x)
theorem isZ.same {w w' : World} {k : Nat} (h : isZ w k) (e : w'.heap[k]? = w.heap[k]?) : isZ w' k := by
  obtain ⟨C, h1, h2⟩ := h
  exact ⟨C, e.trans h1, h2⟩
def Hz (B : Nat) (P : World → Prop) (w : World) : Prop := ∀ w', (∀ k, B ≤ k → k < w.heap.size → ¬ isZ w k → w'.heap[k]? = w.heap[k]?) → w.heap.size ≤ w'.heap.size → P w'
theorem Hz.out {B : Nat} {P : World → Prop} {w : World} (h : Hz B P w) : P w := h w (fun _ _ _ _ => rfl) (Nat.le_refl _)
theorem Hz.ext {B : Nat} {P : World → Prop} {w w' : World} (h : Hz B P w) (hx : Ext w w') : Hz B P w' := fun u hu hs => h u (fun k hk hl hz => (hu k hk (Nat.lt_of_lt_of_le hl hx.size) (fun e => hz (e.same (Below.block hx k hl).symm))).trans (Below.block hx k hl)) (Nat.le_trans hx.size hs)
theorem Hz.set {B : Nat} {P : World → Prop} {w : World} (h : Hz B P w) {p : Addr} (hp : p.block < B) (u : Value) : Hz B P (w.setCell p u) := fun v hv hs => h v (fun k hk hl hz => by
  have e1 : (w.setCell p u).heap[k]? = w.heap[k]? := Below.heap_setCell _ _ _ _ (by omega)
  exact (hv k hk (by simpa using hl) (fun e => hz (e.same e1.symm))).trans e1) (by simpa using hs)
theorem Hz.low {B B' : Nat} {P : World → Prop} {w : World} (h : Hz B P w) (hB : B' ≤ B) : Hz B' P w := fun u hu hs => h u (fun k hk hl hz => hu k (by omega) hl hz) hs
theorem Hz.mono {B : Nat} {P Q : World → Prop} {w : World} (h : Hz B P w) (hk : ∀ u, P u → Q u) : Hz B Q w := fun u hu hs => hk u (h u hu hs)
theorem Hz.and {B : Nat} {P Q : World → Prop} {w : World} (h : Hz B P w) (k : Hz B Q w) : Hz B (fun u => P u ∧ Q u) w := fun u hu hs => ⟨h u hu hs, k u hu hs⟩
theorem Hz.all {B : Nat} {P : World → Prop} {w : World} (h : ∀ u, P u) : Hz B P w := fun u _ _ => h u
theorem Hz.box {B g : Nat} {P : World → Prop} {w w' : World} (h : Hz B P w) (hz : isZ w g) (hx : ∀ k, k ≠ g → w'.heap[k]? = w.heap[k]?) (hs : w.heap.size ≤ w'.heap.size) : P w' := h w' (fun k _ _ hn => hx k (fun e => hn (e ▸ hz))) hs
theorem rd_hz {size n : Nat} {B : Nat} {A : Option Addr} {xs : List Value} {w : World} (h : Rd w size A n xs) (hA : ∀ ad, A = some ad → 0 < n → B ≤ ad.block ∧ ad.block < w.heap.size ∧ ¬ isZ w ad.block) : Hz B (fun u => Rd u size A n xs) w :=
  fun u hu hs => h.keepBlk fun ad e hn => hu _ (hA ad e hn).1 (hA ad e hn).2.1 (hA ad e hn).2.2
theorem own_atz {w : World} {e : TypeId} {size B : Nat} {A : Option Addr} {n c : Nat} {xs : List Value} (h : Own w B e size A n c xs) (he : e ≠ TMs) (hn : 0 < n) {ad : Addr} (hA : A = some ad) : B ≤ ad.block ∧ ad.block < w.heap.size ∧ ¬ isZ w ad.block := by
  rcases h with ⟨rfl, rfl, rfl⟩ | ⟨g, cur, rfl, hBg, hg, h1, _⟩
  · omega
  · injection hA with hA
    subst hA
    refine ⟨hBg, (Array.getElem?_eq_some_iff.1 hg).1, fun hz => ?_⟩
    obtain ⟨C, hz, _⟩ := hz
    rw [hg] at hz
    injection hz with hz
    injection hz with h1 h2
    exact he h2
theorem zeroM_no (o : Nat) (x : Int) : zeroM[o]? ≠ some (.int .u8 x) := by
  rcases (show o = 0 ∨ o = 1 ∨ o = 2 ∨ o = 3 ∨ o = 4 ∨ o = 5 ∨ o = 6 ∨ o = 7 ∨ o = 8 ∨ o = 9 ∨ 10 ≤ o by omega) with rfl | rfl | rfl | rfl | rfl | rfl | rfl | rfl | rfl | rfl | h
  all_goals first | (intro e; injection e with e; cases e) | (rw [Array.getElem?_eq_none (by simpa using h)]; intro e; cases e)
theorem sl_notZ {w : World} {A : Option Addr} {n c : Nat} {l : List UInt8} (h : Sl w A n c l) {ad : Addr} (hA : A = some ad) (hn : 0 < n) : ¬ isZ w ad.block := by
  intro hz
  obtain ⟨ad', e, hc⟩ := h.at_ (k := 0) hn
  rw [hA] at e
  injection e with e
  subst e
  have e0 : ad.add 0 = ad := by unfold Addr.add; simp
  rw [e0] at hc
  have hsp := spot_of_cell hc
  obtain ⟨g, o, s⟩ := ad
  simp only at hsp
  subst hsp
  obtain ⟨C, hz, _, hC⟩ := hz
  rw [cell_of_row _ _ o C TMs (0, 0) hz] at hc
  exact hC _ _ hc
theorem OwnL.hzFlat {α : Type} {size : Nat} {R : α → List Value → World → Prop} (hR : Rep size R) (hnp : ∀ (x : α) (cs : List Value) (w : World), R x cs w → ∀ k, ¬ Pts cs k) {e : TypeId} (he : e ≠ TMs) {w : World} {B : Nat} {A : Option Addr} {n c : Nat} {xs : List α} (h : OwnL e size R w B A n c xs) : Hz B (fun u => Lst size R u A n c xs) w := by
  obtain ⟨css, h1, h2, h3⟩ := h.own
  intro u hu hs
  refine ⟨h.len, h2.caps.1, h2.caps.2, css, h1.mono fun x cs hcs hr => hR.keep _ _ _ _ hr fun k hk => absurd hk (hnp _ _ _ hr k), ?_⟩
  exact rd_hz h2.rd (fun ad e1 hn => own_atz h2 he hn e1) u hu hs
theorem Byt.hz {w : World} {B : Nat} {A : Option Addr} {n c : Nat} {l : List UInt8} (h : Byt U8 w B A n c l) : Hz B (fun u => Sl u A n c l) w :=
  fun u hu hs => h.sl.keepBlk fun ad e hn => hu _ (h.fsl.fr ad e hn) (h.sl.blk ad e hn) (sl_notZ h.sl e hn)
theorem OwnL.hzEn {B : Nat} {w : World} {A : Option Addr} {n c : Nat} {xs : List En} (h : OwnL TEn 3 (enRB B) w B A n c xs) : Hz B (fun u => Lst 3 enR u A n c xs) w := by
  obtain ⟨css, h1, h2, h3⟩ := h.own
  intro u hu hs
  have h4 : ∀ {zs : List En} {ess : List (List Value)}, All2 (enRB B) w zs ess → All2 enR u zs ess := by
    intro zs ess hz
    induction hz with
    | nil => exact .nil
    | cons hx t ih =>
      refine .cons (en_rep.keep _ _ _ _ hx.1 fun k hk => hu k (hx.2 k hk) (en_rep.lt _ _ _ hx.1 k hk) ?_) ih
      obtain ⟨A', n', c', rfl, hs'⟩ := hx.1
      obtain ⟨ad, e1, e2, e3⟩ := pts_en hk
      rw [← e3]
      exact sl_notZ hs' e1 e2
  refine ⟨h.len, h2.caps.1, h2.caps.2, css, h4 h1, ?_⟩
  exact rd_hz h2.rd (fun ad e1 hn => own_atz h2 (by decide) hn e1) u hu hs
def enRM (B H : Nat) (x : En) (cs : List Value) (w : World) : Prop := enR x cs w ∧ ∀ k, Pts cs k → B ≤ k ∧ k < H
theorem enRM_rep (B H : Nat) : Rep 3 (enRM B H) where
  len := fun x cs w h => en_rep.len x cs w h.1
  one := fun x cs w h => en_rep.one x cs w h.1
  keep := fun x cs w w' h hk => ⟨en_rep.keep x cs w w' h.1 hk, h.2⟩
  lt := fun x cs w h => en_rep.lt x cs w h.1
theorem All2.weak {α : Type} {R S : α → List Value → World → Prop} {w : World} (h : ∀ x cs, R x cs w → S x cs w) : ∀ {xs : List α} {css : List (List Value)}, All2 R w xs css → All2 S w xs css
  | _, _, .nil => .nil
  | _, _, .cons a t => .cons (h _ _ a) (t.weak h)
theorem OwnL.setB {B B' : Nat} {w : World} {A : Option Addr} {n c : Nat} {xs : List En} (h : OwnL TEn 3 (enRB B) w B' A n c xs) {p : Addr} (h1 : p.block < B) (h2 : p.block < B') (v : Value) : OwnL TEn 3 (enRB B) (w.setCell p v) B' A n c xs := by
  obtain ⟨css, q1, q2, q3⟩ := h.own
  refine ⟨h.len, css, q1.mono (fun x cs _ hr => (enRB_rep B).keep _ _ _ _ hr fun k hk => Below.heap_setCell _ _ _ _ (by have := hr.2 k hk; omega)), q2.far (fun g hg e => by have := (q2.row_ge g hg).1; omega) v, q3⟩
def EnNil : Ty := fun v _ => ∃ A, v = .slice A 0 0
theorem EnNil.keeps (N : World → World → Prop) : Keeps N EnNil := fun _ _ _ _ h => h
def EnB (B H n : Nat) (xs : List En) : Ty := fun v u => ∃ A c, v = .slice A n c ∧ OwnL TEn 3 (enRB B) u H A n c xs
theorem EnB.keeps (B H n : Nat) (xs : List En) : Keeps Ext (EnB B H n xs) := fun _ _ _ hx ⟨A, c, e, h⟩ => ⟨A, c, e, h.ext (enRB_rep B) hx⟩
def EnLM (B H : Nat) (x : En) : Ty := fun v u => ∃ A c, v = .slice A 1 c ∧ Lst 3 (enRM B H) u A 1 c [x]
theorem EnLM.keeps (B H : Nat) (x : En) : Keeps Ext (EnLM B H x) := fun _ _ _ hx ⟨A, c, e, h⟩ => ⟨A, c, e, h.ext (enRM_rep B H) hx⟩
theorem EnLM.feed {B H : Nat} {x : En} {u : World} {A : Option Addr} {c : Nat} (h : Lst 3 (enRM B H) u A 1 c [x]) {Ao : Option Addr} {k co : Nat} {out : List En} (ho : OwnL TEn 3 (enRB B) u H Ao k co out) : Feed Try.prog 3 (enRB B) u 26 Ao co (.slice A 1 c) 1 [x] := by
  obtain ⟨css, h1, h2⟩ := h.src (P := Try.prog) (enRM_rep B H) under_ens
  refine ⟨rfl, css, h1.weak (fun x cs h => ⟨h.1, fun k hk => (h.2 k hk).1⟩), h2, fun cs hcs q hq e => ?_⟩
  obtain ⟨y, hr⟩ := h1.mem cs hcs
  have e1 := hr.2 q hq
  have e2 := (ho.row_lt q e).1
  omega
theorem en_litM {B H : Nat} (w : World) (t s : Int) {A : Option Addr} {n c : Nat} {d : List UInt8} (hs : Sl w A n c d) (hp : ∀ ad, A = some ad → 0 < n → B ≤ ad.block ∧ ad.block < H) (hH : H ≤ w.heap.size) : Lst 3 (enRM B H) (w.alloc (.cells #[.int .i64 t, .int .i64 s, .slice A n c] TEn)) (some ⟨w.heap.size, 0, none⟩) 1 1 [⟨t, s, d⟩] := by
  have hP : ∀ k, Pts [.int .i64 t, .int .i64 s, .slice A n c] k → B ≤ k ∧ k < H := fun k hk => by
    obtain ⟨ad, e1, e2, e3⟩ := pts_en hk
    rw [← e3]
    exact hp ad e1 e2
  have h : OwnL TEn 3 (enRM B H) (w.alloc (.cells #[.int .i64 t, .int .i64 s, .slice A n c] TEn)) w.heap.size (some ⟨w.heap.size, 0, none⟩) 1 1 [⟨t, s, d⟩] :=
    ⟨rfl, [[.int .i64 t, .int .i64 s, .slice A n c]], .cons ⟨⟨A, n, c, rfl, hs.ext (Ext.alloc _ _)⟩, hP⟩ .nil, Own.made w w.heap.size TEn 3 #[.int .i64 t, .int .i64 s, .slice A n c] 1 1 (Nat.le_refl _) (Nat.le_refl _) (by simp [maxLen]) rfl, fun cs hcs k hk e => by
      simp at hcs
      subst hcs
      have h1 := hP k hk
      simp [rowOf] at e
      omega⟩
  exact h.lst
theorem Feed.onto0 {P : Program} {α : Type} {size : Nat} {R : α → List Value → World → Prop} (hR : Rep size R) {w : World} {tx e' : TypeId} (A : Option Addr) {A2 : Option Addr} {m c2 : Nat} {ys : List α} (h : Lst size R w A2 m c2 ys) (hk : P.underlying tx = some (.slice e')) : Feed P size R w tx A 0 (.slice A2 m c2) m ys := by
  obtain ⟨css, h1, h2⟩ := h.src (P := P) hR hk
  exact ⟨h.len, css, h1, h2, fun cs _ k _ e => by simp [rowOf] at e⟩
theorem conv_str (w : World) (l : List UInt8) (hl : l.length ≤ 1000000) : ∃ c w', (convert 9 23 (.string ⟨l.toArray⟩)).run Try.prog w = .ok (.slice (some ⟨w.heap.size, 0, none⟩) l.length c) w' ∧ Sl w' (some ⟨w.heap.size, 0, none⟩) l.length c l ∧ Ext w w' := by
  obtain ⟨s, hs⟩ : ∃ s, (⟨l.toArray⟩ : ByteArray) = s := ⟨_, rfl⟩
  have hsz : s.size = l.length := by rw [← hs]; rfl
  have hsd : s.data.toList = l := by rw [← hs]
  have hcv := Lib.run_convert_string_bytes (P := Try.prog) w 9 23 U8 s (u := .string) rfl under_bytes rfl
  rw [hs]
  rw [hsz] at hcv
  have hge := grownCap_ge w l.length 0 U8
  have hle := grownCap_le_maxLen w l.length 0 U8 (by unfold maxLen; omega)
  refine ⟨grownCap w l.length 0 U8, Lib.bytesWorld w U8 s, hcv, ⟨rfl, hge, hle, by simp, fun _ => ⟨_, rfl, fun j u hu => ?_⟩⟩, ?_⟩
  · have hj : j < l.length := by have := (List.getElem?_eq_some_iff.1 hu).1; simpa using this
    have h6 := Lib.bytesWorld_cell w U8 s j (by omega)
    rw [hsd] at h6
    rw [List.getElem?_map, List.getElem?_eq_getElem hj, Option.map_some] at hu
    injection hu with hu
    rw [← hu]
    have hadd : (⟨w.heap.size, 0, none⟩ : Addr).add j = ⟨w.heap.size, j, none⟩ := by unfold Addr.add; split <;> simp_all
    rw [hadd, h6, List.getD_eq_getElem?_getD, List.getElem?_eq_getElem hj]
    rfl
  · refine ⟨?_, ?_, ?_, by rw [Lib.bytesWorld_size]; omega, fun k hk => Lib.bytesWorld_at_old w U8 s k hk⟩ <;> (unfold Lib.bytesWorld World.freeze; split <;> rfl)
theorem Hz.setBox0 {g j : Nat} {P : World → Prop} {w : World} (h : Hz (g + 2) P w) (u : Value) : Hz (g + 2) P (w.setCell ⟨g, j, none⟩ u) := h.set (by simp only; omega) u
theorem Hz.setBox1 {g j : Nat} {P : World → Prop} {w : World} (h : Hz (g + 2) P w) (u : Value) : Hz (g + 2) P (w.setCell ⟨g + 1, j, none⟩ u) := h.set (by simp only; omega) u
theorem gtO_lenM {b : List UInt8} {a most : Int} {l : List UInt8} {d : Int} (h : gtO b a most = some (l, d)) : l.length ≤ b.length := by
  unfold gtO at h
  obtain ⟨p, h1, h2⟩ := Option.bind_eq_some_iff.1 h
  split at h2
  · injection h2 with h2
    injection h2 with h2 h3
    rw [← h2, List.length_take, List.length_drop]
    omega
  · cases h2
def restM (K : Int) (y0 y1 y2 y3 y4 : Int) (b : List UInt8) (a : Int) : Option Ms := (chainO K b a).bind fun q => (restO true K b q.2).map fun r => ⟨K, y0, y1, y2, y3, y4, q.1, r.1, r.2.1, r.2.2⟩
end Go.Proofs.Ytoeknbogaclfdaa

namespace Go.Proofs.Ytoeknbogaclfdaa
open Go.RowKit
set_option linter.unusedVariables false
set_option linter.unusedSimpArgs false
set_option linter.unnecessarySimpa false
set_option maxRecDepth 100000
theorem int_lit (w : World) (x : Int) : OwnL INT 1 intR (w.alloc (.cells #[.int .i64 x] INT)) w.heap.size (some ⟨w.heap.size, 0, none⟩) 1 1 [x] :=
  ⟨rfl, [[.int .i64 x]], .cons rfl .nil, Own.made w w.heap.size INT 1 #[.int .i64 x] 1 1 (Nat.le_refl _) (Nat.le_refl _) (by simp [maxLen]) rfl, fun cs hcs k hk => by simp at hcs; subst hcs; exact absurd hk (int_no_pts (x := x) (w := w) rfl k)⟩
theorem nums_next {F k : Nat} {b : List UInt8} {a : Int} {out : List Int} {o : Option (List Int × Int)} (h : (numsF (F - k) b a).map (fun p => (out ++ p.1, p.2)) = o) (hk : k < F) (hc : gvC b a = true) :
    (numsF (F - (k + 1)) b (gvB b a)).map (fun p => ((out ++ [gvA b a]) ++ p.1, p.2)) = o := by
  obtain ⟨f, hf⟩ : ∃ f, F - k = f + 1 := ⟨F - k - 1, by omega⟩
  rw [hf, numsF, if_pos hc] at h
  rw [show F - (k + 1) = f by omega, ← h, Option.map_map]
  congr 1
  funext p
  simp
theorem nums_stop {F k : Nat} {b : List UInt8} {a : Int} {out : List Int} {o : Option (List Int × Int)} (h : (numsF (F - k) b a).map (fun p => (out ++ p.1, p.2)) = o) (hk : k < F) (hc : gvC b a = false) : o = none := by
  obtain ⟨f, hf⟩ : ∃ f, F - k = f + 1 := ⟨F - k - 1, by omega⟩
  rw [hf, numsF, if_neg (by simp [hc])] at h
  exact h.symm
set_option maxHeartbeats 1000000 in
theorem ref_numbers {A : Option Addr} {n c : Nat} {b : List UInt8} {a : Int} {F : Nat} {w : World} (hb : Sl w A n c b) (hn6 : n ≤ 1000000) (hF : F ≤ 1000) {o : Option (List Int × Int)} (ho : Hid (numsF F b a = o)) :
    Calls Try.prog 63 #[.slice A n c, .int .i64 a, .int .i64 F] w fun e w' => ∃ A' n' c', e = .returned (.tuple #[.slice A' n' c', .int .i64 ((o.map Prod.snd).getD 0), .bool o.isSome]) ∧ OwnL INT 1 intR w' w.heap.size A' n' c' ((o.map Prod.fst).getD []) ∧ Ext w w' := by
  have h63 := hb.n63
  obtain ⟨i0, hi0, hz0, hz1, hz2⟩ := info_parts info_int
  have HO : Hid ((numsF (F - 0) b a).map (fun p => (([] : List Int) ++ p.1, p.2)) = o) := by
    unfold Hid
    rw [Nat.sub_zero, ← ho.out]
    simp
  clear ho
  go_enter Try.func63, Try.ntmps63
  go_wp2_with fail
  go_loopw [1, 9, 10] (fun av v i wr => ∃ (k : Nat) (d : Int) (Ao : Option Addr) (co : Nat) (out : List Int), k ≤ F ∧ av = .int .i64 d ∧ v = .slice Ao k co ∧ i = .int .i64 k ∧ OwnL INT 1 intR wr w.heap.size Ao k co out ∧ Hid ((numsF (F - k) b d).map (fun p => (out ++ p.1, p.2)) = o) ∧ Ext w wr) (fun _ _ i _ => F - (intOf i).toNat)
  case atStart => exact ⟨0, a, none, 0, [], by omega, rfl, rfl, rfl, OwnL.nil _ _ _ _, HO, Ext.refl _⟩
  case round =>
    obtain ⟨k, d, Ao, co, out, hk, rfl, rfl, rfl, hown, hrk, hxr⟩ := hrel
    clear HO
    by_cases hlt : k < F
    · obtain ⟨X, hX⟩ : ∃ q, gvA b d = q := ⟨_, rfl⟩
      obtain ⟨Y, hY⟩ : ∃ q, gvB b d = q := ⟨_, rfl⟩
      obtain ⟨Z, hZ⟩ : ∃ q, gvC b d = q := ⟨_, rfl⟩
      have HV := Lib.hid (And.intro hX (And.intro hY hZ))
      cases Z with
      | false =>
        obtain rfl := nums_stop hrk.out hlt hZ
        clear hrk hX hY hZ
        go_wp2_with fail
        refine (ref_GetVar_h (hb.ext hxr) hn6 HV).mono ?_
        rintro e _ ⟨rfl, rfl⟩
        go_wp2_with fail
        go_ret3
        exact ⟨_, _, _, rfl, OwnL.nil _ _ _ _, hxr⟩
      | true =>
        have hn := nums_next hrk.out hlt hZ
        rw [hX, hY] at hn
        have HN := Lib.hid hn
        clear hrk hX hY hZ hn
        have lit := (int_lit wr X).lst
        go_wp2_with fail
        refine (ref_GetVar_h (hb.ext hxr) hn6 HV).mono ?_
        rintro e _ ⟨rfl, rfl⟩
        go_wp2_with (
          at_builtin
          refine wpList_append_flat (w0 := w) int_rep (fun x cs w h => int_no_pts h) rfl (.tmp 28) (.tmp 30) _ _ rfl INT INT i0 _ 8 under_ints under_ints hi0 hz0 hz1 hz2 rfl Ao k co out rfl (hown.ext int_rep (Ext.alloc _ _)) _ 1 1 [X] rfl lit (k + 1) rfl _ rfl (by simp only [maxLen]; omega) (by omega) (hxr.allocs _) ?_
          intro A3 c3 w3 hb3 hx3)
        go_wp2_with fail
        go_roundw
        case rel => exact ⟨k + 1, Y, A3, c3, _, by omega, rfl, rfl, by go_num, hb3, HN, hx3⟩
        case measure => simp [intOf]; omega
    · obtain rfl : k = F := by omega
      have hr1 := hrk.out
      rw [Nat.sub_self] at hr1
      obtain rfl : o = some (out, d) := by rw [← hr1]; simp [numsF]
      clear hrk hr1
      go_wp2_with fail
      go_ret3
      exact ⟨_, _, _, rfl, hown, hxr⟩
end Go.Proofs.Ytoeknbogaclfdaa
