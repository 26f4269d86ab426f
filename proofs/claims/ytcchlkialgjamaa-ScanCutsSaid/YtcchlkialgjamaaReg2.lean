/-
  A law for a region that draws its order, makes memory AND writes in place (an append onto a row of the call's own, a store). As wp_region_typed (XReg), but with two relations: N (nothing old has turned) for most operations, R (wider) for the writers; a type that N keeps may be used by an operation unless a writer may come between. Nothing here names a program.
-/
import Derived.Test.YtcchlkialgjamaaReg
namespace Go.Proofs.Ytcchlkialgjamaa
open Go.RowKit

structure Sp where
  o : Oper
  T : Ty
  st : Bool
abbrev Sp.pr (s : Sp) : Oper × Ty := (s.o, s.T)

def mbit (M : List Nat) (i k : Nat) : Bool := (M.getD i 0).testBit k
/-- M tells who comes ahead of whom -/
def maskOk (l : List Oper) (M : List Nat) : Bool :=
  l.zipIdx.all fun (o, i) => (List.range l.length).all fun k => !mbit M i k || o.after.any fun e => Region.binds .any e && decide (e.on < i) && (e.on == k || mbit M e.on k)
def noneBetween (M : List Nat) (W n i k : Nat) : Bool := (List.range n).all fun j => !W.testBit j || (j == k || j == i || mbit M j i || mbit M k j)
def flagsOk2 (ops : Array Oper) (M : List Nat) (W : Nat) (sts : List Bool) (n : Nat) (o : Oper) (fl : List Bool) : Bool :=
  ((o.looksAt ops).all fun t => ops.toList.zipIdx.all fun (o', k) => o'.dst != some t || (fl.getD k false && decide (k < n)) || (mbit M k n && decide (n ≤ k))) &&
  (fl.zipIdx.all fun (b, k) => !b || (mbit M n k && (sts.getD k false || noneBetween M W ops.size n k)))
def pureOk (M : List Nat) (W n i : Nat) : Bool := (List.range n).all fun j => !W.testBit j || (j == i || mbit M j i)
def aliveOk (M : List Nat) (W n : Nat) (sts al : List Bool) : Bool :=
  al.zipIdx.all fun (b, k) => !b || (sts.getD k false || (List.range n).all fun j => !W.testBit j || (j == k || mbit M k j))

def Sel (N R : World → World → Prop) : Bool → World → World → Prop
  | true => N
  | false => R

def Fin2 (w : World) (K : Act → Prop) : List Bool → List (Oper × Ty) → Act → Prop
  | true :: fl, (o, T) :: r, a => ∀ v, T v w → Fin2 w K fl r (a.put o.dst v)
  | _ :: fl, (o, _) :: r, a => ∀ v, Fin2 w K fl r (a.put o.dst v)
  | [], (o, _) :: r, a => ∀ v, Fin2 w K [] r (a.put o.dst v)
  | _, [], a => K a
theorem Fin2.is_ {w : World} {K : Act → Prop} {o : Oper} {x : Value} {fl : List Bool} {r : List (Oper × Ty)} {a : Act} (h : Fin2 w K fl r (a.put o.dst x)) : Fin2 w K (true :: fl) ((o, Is x) :: r) a := fun _ hv => by
  subst hv
  exact h
theorem Fin2.step_ {w : World} {K : Act → Prop} {o : Oper} {T : Ty} {fl : List Bool} {r : List (Oper × Ty)} {a : Act} (h : ∀ v, T v w → Fin2 w K fl r (a.put o.dst v)) : Fin2 w K (true :: fl) ((o, T) :: r) a := h
theorem Fin2.dead_ {w : World} {K : Act → Prop} {o : Oper} {T : Ty} {fl : List Bool} {r : List (Oper × Ty)} {a : Act} (h : ∀ v, Fin2 w K fl r (a.put o.dst v)) : Fin2 w K (false :: fl) ((o, T) :: r) a := h
theorem Fin2.nil_ {w : World} {K : Act → Prop} {a : Act} {fl : List Bool} (h : K a) : Fin2 w K fl [] a := by
  cases fl with
  | nil => exact h
  | cons b _ => cases b <;> exact h

theorem Fin2.at_ {w : World} {K : Act → Prop} (g : Nat → Value) : ∀ (fl : List Bool) (l : List (Oper × Ty)) (a : Act), Fin2 w K fl l a →
    (∀ (k : Nat) (p : Oper × Ty), l[k]? = some p → fl.getD k false = true → p.2 ((p.1.dst.map g).getD undef) w) → K (canon (l.map fun _ => true) l g a)
  | [], [], a, h, _ => h
  | true :: _, [], a, h, _ => h
  | false :: _, [], a, h, _ => h
  | true :: fl, (o, T) :: r, a, h, hT => by
    simp only [Fin2] at h
    simp only [List.map_cons, canon]
    exact Fin2.at_ g fl r _ (h _ (hT 0 _ rfl rfl)) fun k p hk hf => hT (k + 1) p (by simpa using hk) (by simpa using hf)
  | false :: fl, (o, T) :: r, a, h, hT => by
    simp only [Fin2] at h
    simp only [List.map_cons, canon]
    exact Fin2.at_ g fl r _ (h _) fun k p hk hf => hT (k + 1) p (by simpa using hk) (by simpa using hf)
  | [], (o, T) :: r, a, h, hT => by
    simp only [Fin2] at h
    simp only [List.map_cons, canon]
    exact Fin2.at_ g [] r _ (h _) fun k p hk hf => by simp at hf

def Stage2 (P : Program) (ops : Array Oper) (N R : World → World → Prop) (M : List Nat) (W : Nat) (a0 : Act) (w0 : World) (K : Act → World → Prop) : List Sp → List Oper → Prop
  | done, [] => ∃ al : List Bool, aliveOk M W ops.size (done.map Sp.st) al = true ∧ ∀ w', Sel N R (W == 0) w0 w' → Fin2 w' (fun a => K a w') al (done.map Sp.pr) a0
  | done, o :: r => ∃ (T : Ty) (st : Bool) (fl : List Bool) (pu wr : Bool), Keeps N T ∧ (st = true → Keeps R T) ∧ (flagsOk2 ops M W (done.map Sp.st) done.length o fl && (W.testBit done.length == wr) && (!pu || pureOk M W ops.size done.length)) = true ∧
      (∀ w1, Sel N R pu w0 w1 → Given w1 (fun a => wpList P ops (Post (Sel N R (!wr)) T o a w1) [o] a w1) fl (done.map Sp.pr) a0) ∧ Stage2 P ops N R M W a0 w0 K (done ++ [⟨o, T, st⟩]) r

section
variable {P : Program} {N R : World → World → Prop} {Q : Exit → Act → World → Prop}

theorem Stage2.all {ops : Array Oper} {M : List Nat} {W : Nat} {a0 : Act} {w0 : World} {K : Act → World → Prop} : ∀ (todo : List Oper) (done : List Sp), Stage2 P ops N R M W a0 w0 K done todo →
    ∃ rest : List Sp, rest.map Sp.o = todo ∧ (∀ p ∈ rest, Keeps N p.T ∧ (p.st = true → Keeps R p.T)) ∧
      (∃ al : List Bool, aliveOk M W ops.size ((done ++ rest).map Sp.st) al = true ∧ ∀ w', Sel N R (W == 0) w0 w' → Fin2 w' (fun a => K a w') al ((done ++ rest).map Sp.pr) a0) ∧
      ∀ i sp, rest[i]? = some sp → ∃ (fl : List Bool) (pu wr : Bool), (flagsOk2 ops M W ((done ++ rest.take i).map Sp.st) (done.length + i) sp.o fl && (W.testBit (done.length + i) == wr) && (!pu || pureOk M W ops.size (done.length + i))) = true ∧
        ∀ w1, Sel N R pu w0 w1 → Given w1 (fun a => wpList P ops (Post (Sel N R (!wr)) sp.T sp.o a w1) [sp.o] a w1) fl ((done ++ rest.take i).map Sp.pr) a0
  | [], done, h => ⟨[], rfl, by simp, by simpa [Stage2] using h, by simp⟩
  | o :: r, done, h => by
    obtain ⟨T, st, fl, pu, wr, hk, hk2, hf, ho, hs⟩ := h
    obtain ⟨rest, h1, h2, h3, h4⟩ := Stage2.all r _ hs
    refine ⟨⟨o, T, st⟩ :: rest, by simp [h1], ?_, by simpa using h3, ?_⟩
    · intro p hp
      rcases List.mem_cons.1 hp with rfl | hp
      · exact ⟨hk, hk2⟩
      · exact h2 p hp
    · intro i sp hi
      rcases i with _ | i
      · simp only [List.getElem?_cons_zero, Option.some.injEq] at hi
        subst hi
        exact ⟨fl, pu, wr, by simpa using hf, by simpa using ho⟩
      · obtain ⟨fl', pu', wr', hf', ho'⟩ := h4 i sp (by simpa using hi)
        refine ⟨fl', pu', wr', ?_, ?_⟩
        · simpa [Nat.add_assoc, Nat.add_comm 1 i] using hf'
        · simpa using ho'

structure Midway2 (N R : World → World → Prop) (full : List Sp) (M : List Nat) (W : Nat) (a0 : Act) (w0 : World) (listed : Array Bool) (a : Act) (w : World) : Prop where
  world : R w0 w
  clean : (∀ j, W.testBit j = true → listed.getD j false = false) → N w0 w
  defers : a.defers = a0.defers
  size : a.tmps.size = a0.tmps.size
  lsize : listed.size = full.length
  other : ∀ t, (∀ (k : Nat) (p : Sp), full[k]? = some p → p.o.dst = some t → listed.getD k false = false) → a.tmps[t]? = a0.tmps[t]?
  closed : ∀ (k : Nat) (sp : Sp), full[k]? = some sp → listed.getD k false = true → ∀ e ∈ sp.o.after, Region.binds .any e = true → listed.getD e.on false = true
  done : ∀ (k : Nat) (sp : Sp), full[k]? = some sp → listed.getD k false = true → (sp.st = true ∨ ∀ j, j < full.length → W.testBit j = true → listed.getD j false = true → j = k ∨ mbit M k j = true) → sp.T (dstVal sp.o a) w

theorem mask_reach {full : List Sp} {M : List Nat} (hM : maskOk (full.map Sp.o) M = true) {listed : Array Bool}
    (hc : ∀ (k : Nat) (sp : Sp), full[k]? = some sp → listed.getD k false = true → ∀ e ∈ sp.o.after, Region.binds .any e = true → listed.getD e.on false = true) :
    ∀ (i : Nat) (sp : Sp) (k : Nat), full[i]? = some sp → (∀ e ∈ sp.o.after, Region.binds .any e = true → listed.getD e.on false = true) → k < full.length → mbit M i k = true → listed.getD k false = true := by
  intro i
  induction i using Nat.strongRecOn with
  | _ i ih =>
    intro sp k hi he hk hb
    have hm : (sp.o, i) ∈ (full.map Sp.o).zipIdx := by
      rw [List.mem_zipIdx_iff_getElem?]
      simp [hi]
    have h1 := List.all_eq_true.1 hM _ hm
    have h2 := List.all_eq_true.1 h1 k (List.mem_range.2 (by simpa using hk))
    simp only [hb, Bool.not_true, Bool.false_or] at h2
    obtain ⟨j, hj, h3⟩ := Array.any_eq_true.1 h2
    simp only [Bool.and_eq_true, Bool.or_eq_true, decide_eq_true_eq, beq_iff_eq] at h3
    obtain ⟨⟨h4, h5⟩, h6⟩ := h3
    have hl := he _ (Array.getElem_mem hj) h4
    rcases h6 with h6 | h6
    · rw [← h6]; exact hl
    · have hlt : sp.o.after[j].on < full.length := by
        have := (List.getElem?_eq_some_iff.1 hi).1
        omega
      obtain ⟨sp', hs'⟩ : ∃ sp', full[sp.o.after[j].on]? = some sp' := ⟨_, List.getElem?_eq_getElem hlt⟩
      exact ih _ h5 sp' k hs' (hc _ _ hs' hl) hk h6

theorem sel_le (hNR : ∀ w w', N w w' → R w w') (b : Bool) : ∀ w w', Sel N R b w w' → R w w' := by
  intro w w' h
  cases b
  · exact h
  · exact hNR _ _ h

theorem any_typed2 {ops : Array Oper} {full : List Sp} {M : List Nat} {W : Nat} {a0 : Act} {w0 : World} (hN : Steady N) (hR : Steady R) (hNR : ∀ w w', N w w' → R w w') (hops : ops = (full.map Sp.o).toArray)
    (hok : regionOk a0.tmps.size (full.map Sp.o) = true) (hM : maskOk (full.map Sp.o) M = true) (hW : W < 2 ^ full.length) (hkeep : ∀ p ∈ full, Keeps N p.T ∧ (p.st = true → Keeps R p.T))
    (hobl : ∀ i sp, full[i]? = some sp → ∃ (fl : List Bool) (pu wr : Bool), (flagsOk2 ops M W ((full.take i).map Sp.st) i sp.o fl && (W.testBit i == wr) && (!pu || pureOk M W ops.size i)) = true ∧
        ∀ w1, Sel N R pu w0 w1 → Given w1 (fun a => wpList P ops (Post (Sel N R (!wr)) sp.T sp.o a w1) [sp.o] a w1) fl ((full.take i).map Sp.pr) a0)
    (hfin : ∃ al : List Bool, aliveOk M W ops.size (full.map Sp.st) al = true ∧ ∀ w', Sel N R (W == 0) w0 w' → Fin2 w' (fun a => Q .normal a w') al (full.map Sp.pr) a0) :
    ∀ (fuel : Nat) (listed : Array Bool) (a : Act) (w : World), Midway2 N R full M W a0 w0 listed a w → full.length ≤ fuel + listed.toList.count true → wpAny P .any ops Q fuel listed a w := by
  simp only [regionOk, Bool.and_eq_true] at hok
  obtain ⟨⟨hdist, hall⟩, hback⟩ := hok
  have hopsz : ops.size = full.length := by subst hops; simp
  have hWl : ∀ j, W.testBit j = true → j < full.length := by
    intro j hj
    by_cases h : j < full.length
    · exact h
    · have := Nat.testBit_lt_two_pow (Nat.lt_of_lt_of_le hW (Nat.pow_le_pow_right (by omega) (show full.length ≤ j by omega)))
      rw [this] at hj
      cases hj
  have hdst : ∀ (k j : Nat) (s s' : Sp) (d : Tmp), full[k]? = some s → full[j]? = some s' → s.o.dst = some d → s'.o.dst = some d → k = j := by
    intro k j s s' d hk hj hd hd'
    exact distinct_spec _ hdist k j s.o s'.o d (by simp [hk]) (by simp [hj]) hd hd'
  have hgood : ∀ (k : Nat) (s : Sp), full[k]? = some s → goodOp s.o = true ∧ ∀ d, s.o.dst = some d → d < a0.tmps.size := by
    intro k s hk
    have h1 := List.all_eq_true.1 hall s.o (List.mem_map.2 ⟨s, List.mem_of_getElem? hk, rfl⟩)
    simp only [Bool.and_eq_true] at h1
    refine ⟨h1.1, fun d hd => ?_⟩
    have h2 := h1.2
    rw [hd] at h2
    simpa using h2
  have hedge : ∀ (k : Nat) (s : Sp), full[k]? = some s → ∀ e ∈ s.o.after, Region.binds .any e = true → e.on < k := by
    intro k s hk e he hb
    have hm : (s.o, k) ∈ (full.map Sp.o).zipIdx := by
      rw [List.mem_zipIdx_iff_getElem?]
      simp [hk]
    have h1 := List.all_eq_true.1 hback (s.o, k) hm
    have h2 := Array.all_eq_true_iff_forall_mem.1 h1 e he
    simpa [hb] using h2
  have hopsk : ∀ (k : Nat) (s : Sp), full[k]? = some s → ops[k]? = some s.o := by
    intro k s hk
    subst hops
    simp [hk]
  have hopsk' : ∀ (k : Nat) (o : Oper), ops[k]? = some o → ∃ s, full[k]? = some s ∧ s.o = o := by
    intro k o hk
    subst hops
    simp only [List.getElem?_toArray, List.getElem?_map, Option.map_eq_some_iff] at hk
    exact hk
  have getl : ∀ {listed : Array Bool} {i : Nat}, i < listed.size → ∀ x y, listed.getD i x = listed.getD i y := fun h x y => getD_of_lt h x y
  -- the end
  have fin : ∀ (listed : Array Bool) (a : Act) (w : World), Midway2 N R full M W a0 w0 listed a w → (∀ k, k < full.length → listed.getD k false = true) → Q .normal a w := by
    intro listed a w hm hl
    obtain ⟨al, hal, hfin⟩ := hfin
    let g : Nat → Value := fun t => a.tmps.getD t undef
    have hrel : Sel N R (W == 0) w0 w := by
      cases h0 : (W == 0) with
      | true =>
        have hz : W = 0 := by simpa using h0
        exact hm.clean fun j hj => by rw [hz] at hj; simp at hj
      | false => exact hm.world
    have hT : ∀ (k : Nat) (p : Oper × Ty), (full.map Sp.pr)[k]? = some p → al.getD k false = true → p.2 ((p.1.dst.map g).getD undef) w := by
      intro k p hk hf
      rw [List.getElem?_map, Option.map_eq_some_iff] at hk
      obtain ⟨s, hk, rfl⟩ := hk
      have hlt : k < full.length := (List.getElem?_eq_some_iff.1 hk).1
      have hf' : al[k]? = some true := by
        cases hc : al[k]? with
        | none => simp [List.getD, hc] at hf
        | some b => simp only [List.getD, hc, Option.getD_some] at hf; rw [hf]
      have hmem : (true, k) ∈ al.zipIdx := by rw [List.mem_zipIdx_iff_getElem?]; exact hf'
      have h1 := List.all_eq_true.1 hal (true, k) hmem
      simp only [Bool.not_true, Bool.false_or, Bool.or_eq_true] at h1
      have := hm.done k s hk (hl k hlt) (by
        rcases h1 with h1 | h1
        · left
          simpa [List.getD, hk] using h1
        · right
          intro j hj hw _
          have h2 := List.all_eq_true.1 h1 j (List.mem_range.2 (by rw [hopsz]; exact hj))
          simp only [hw, Bool.not_true, Bool.false_or, Bool.or_eq_true, beq_iff_eq] at h2
          exact h2)
      unfold dstVal at this
      cases hd : s.o.dst with
      | none => simpa [hd] using this
      | some d => simpa [hd, g] using this
    have h1 := Fin2.at_ g al (full.map Sp.pr) a0 (hfin w hrel) hT
    have e : canon ((full.map Sp.pr).map fun _ => true) (full.map Sp.pr) g a0 = a := by
      have htm : (canon ((full.map Sp.pr).map fun _ => true) (full.map Sp.pr) g a0).tmps = a.tmps := by
        refine Array.ext_getElem? fun t => ?_
        by_cases hex : ∃ (k : Nat) (s : Sp), full[k]? = some s ∧ s.o.dst = some t
        · obtain ⟨k, s, hk, hd⟩ := hex
          have hlt := (hgood k s hk).2 t hd
          have hkl : k < full.length := (List.getElem?_eq_some_iff.1 hk).1
          rw [canon_at g t _ (full.map Sp.pr) a0 k s.o s.T hlt (by simp [hk]) (by simp [hk]) hd]
          have hlt' : t < a.tmps.size := by rw [hm.size]; exact hlt
          simp [g, Array.getD, hlt']
        · rw [canon_other g t _ (full.map Sp.pr) a0, hm.other t]
          · intro k s hk hd
            exact absurd ⟨k, s, hk, hd⟩ hex
          · intro p hp hd
            obtain ⟨s, hs, rfl⟩ := List.mem_map.1 hp
            obtain ⟨k, hk⟩ := List.mem_iff_getElem?.1 hs
            exact hex ⟨k, s, hk, hd⟩
      have hdf : (canon ((full.map Sp.pr).map fun _ => true) (full.map Sp.pr) g a0).defers = a.defers := by rw [canon_defers, hm.defers]
      generalize canon ((full.map Sp.pr).map fun _ => true) (full.map Sp.pr) g a0 = c at *
      cases c
      cases a
      simp only at htm hdf
      subst htm
      subst hdf
      rfl
    rw [e] at h1
    exact h1
  have ready_nil : ∀ (listed : Array Bool), listed.size = full.length → Region.ready .any ops listed = [] → ∀ k, k < full.length → listed.getD k false = true := by
    intro listed hls hr k
    induction k using Nat.strongRecOn with
    | _ k ih =>
      intro hk
      cases hc : listed.getD k false with
      | true => rfl
      | false =>
        exfalso
        obtain ⟨s, hp⟩ : ∃ p, full[k]? = some p := ⟨_, List.getElem?_eq_getElem hk⟩
        have : k ∈ Region.ready .any ops listed := by
          rw [mem_ready]
          refine ⟨by rw [getD_of_lt (by omega) true false]; exact hc, s.o, hopsk k s hp, fun e he hb => ?_⟩
          have := hedge k s hp e he hb
          exact ih e.on this (by omega)
        rw [hr] at this
        cases this
  have step : ∀ (listed : Array Bool) (a : Act) (w : World) (K : Act → World → Prop) (i : Nat), Midway2 N R full M W a0 w0 listed a w → i ∈ Region.ready .any ops listed →
      (∀ a' w', Midway2 N R full M W a0 w0 (listed.setIfInBounds i true) a' w' → K a' w') → wpOp P ops Q i K a w := by
    intro listed a w K i hm hi hK
    obtain ⟨hun, o, ho, hedges⟩ := mem_ready.1 hi
    obtain ⟨sp, hiT, rfl⟩ := hopsk' i o ho
    obtain ⟨fl, pu, wr, hchk, hob⟩ := hobl i sp hiT
    have hil : i < full.length := (List.getElem?_eq_some_iff.1 hiT).1
    have hunf : listed.getD i false = false := by rw [getD_of_lt (by rw [hm.lsize]; exact hil) false true, hun]
    simp only [flagsOk2, Bool.and_eq_true, beq_iff_eq, Bool.or_eq_true, Bool.not_eq_true'] at hchk
    obtain ⟨⟨⟨hlooks, hflag⟩, hwr⟩, hpu⟩ := hchk
    have hreach : ∀ k, k < full.length → mbit M i k = true → listed.getD k false = true := fun k hk hb => mask_reach hM hm.closed i sp k hiT hedges hk hb
    have hreach2 : ∀ j k, j < full.length → k < full.length → listed.getD j false = true → mbit M j k = true → listed.getD k false = true := by
      intro j k hj hk hl hb
      obtain ⟨s, hs⟩ : ∃ s, full[j]? = some s := ⟨_, List.getElem?_eq_getElem hj⟩
      exact mask_reach hM hm.closed j s k hs (hm.closed j s hs hl) hk hb
    have hnoti : ∀ j, j < full.length → listed.getD j false = true → mbit M j i = true → False := by
      intro j hj hl hb
      have := hreach2 j i hj hil hl hb
      rw [hunf] at this
      cases this
    let g : Nat → Value := fun t => a.tmps.getD t undef
    have hflagk : ∀ k, fl.getD k false = true → mbit M i k = true ∧ (((full.take i).map Sp.st).getD k false = true ∨ noneBetween M W ops.size i k = true) := by
      intro k hk
      have hk' : fl[k]? = some true := by
        cases hc : fl[k]? with
        | none => simp [List.getD, hc] at hk
        | some b => simp only [List.getD, hc, Option.getD_some] at hk; rw [hk]
      have hmem : (true, k) ∈ fl.zipIdx := by rw [List.mem_zipIdx_iff_getElem?]; exact hk'
      have h1 := List.all_eq_true.1 hflag (true, k) hmem
      simpa only [Bool.not_true, Bool.false_or, Bool.and_eq_true, Bool.or_eq_true] using h1
    have hrel : Sel N R pu w0 w := by
      cases pu with
      | false => exact hm.world
      | true =>
        refine hm.clean fun j hj => ?_
        have hjl := hWl j hj
        rcases hpu with h | h
        · cases h
        · have h2 := List.all_eq_true.1 h j (List.mem_range.2 (by rw [hopsz]; exact hjl))
          simp only [hj, Bool.not_true, Bool.false_or, Bool.or_eq_true, beq_iff_eq] at h2
          cases hl : listed.getD j false with
          | false => rfl
          | true =>
            rcases h2 with h2 | h2
            · subst h2; rw [hunf] at hl; cases hl
            · exact absurd h2 (fun h => hnoti j hjl hl h)
    have hgiven := Given.at_ g fl ((full.take i).map Sp.pr) a0 (hob w hrel) (by
      intro k o' T' hk hl
      rw [List.getElem?_map, Option.map_eq_some_iff] at hl
      obtain ⟨s, hl, he⟩ := hl
      simp only [Sp.pr, Prod.mk.injEq] at he
      obtain ⟨rfl, rfl⟩ := he
      have hl' : full[k]? = some s := by
        rw [List.getElem?_take] at hl
        split at hl
        · exact hl
        · cases hl
      have hkl : k < full.length := (List.getElem?_eq_some_iff.1 hl').1
      obtain ⟨hb, hst⟩ := hflagk k hk
      have hlk := hreach k hkl hb
      have h1 := hm.done k s hl' hlk (by
        rcases hst with hst | hst
        · left
          have e : ((full.take i).map Sp.st)[k]? = some s.st := by rw [List.getElem?_map, hl]; rfl
          rw [List.getD_eq_getElem?_getD, e] at hst
          exact hst
        · right
          intro j hj hw hlj
          have h2 := List.all_eq_true.1 hst j (List.mem_range.2 (by rw [hopsz]; exact hj))
          simp only [hw, Bool.not_true, Bool.false_or, Bool.or_eq_true, beq_iff_eq] at h2
          rcases h2 with ((h2 | h2) | h2) | h2
          · exact .inl h2
          · subst h2; rw [hunf] at hlj; cases hlj
          · exact absurd h2 (fun h => hnoti j hj hlj h)
          · exact .inr h2)
      unfold dstVal at h1
      cases hd : s.o.dst with
      | none => simpa [hd] using h1
      | some d => simpa [hd, g] using h1)
    have hslot : ∀ t ∈ sp.o.looksAt ops, a.tmps[t]? = (canon fl ((full.take i).map Sp.pr) g a0).tmps[t]? := by
      intro t ht
      have h1 := List.all_eq_true.1 hlooks t ht
      by_cases hex : ∃ (k : Nat) (s : Sp), full[k]? = some s ∧ s.o.dst = some t
      · obtain ⟨k, s, hk, hd⟩ := hex
        have hmem : (s.o, k) ∈ ops.toList.zipIdx := by
          rw [List.mem_zipIdx_iff_getElem?]
          simpa using hopsk k s hk
        have h2 := List.all_eq_true.1 h1 (s.o, k) hmem
        simp only [hd, bne_self_eq_false, Bool.false_or, Bool.and_eq_true, Bool.or_eq_true, decide_eq_true_eq] at h2
        have hlt := (hgood k s hk).2 t hd
        have hkl0 : k < full.length := (List.getElem?_eq_some_iff.1 hk).1
        rcases h2 with h2 | h2
        case inr =>
          have hul : listed.getD k false = false := by
            cases hl : listed.getD k false with
            | false => rfl
            | true => exact absurd h2.1 (fun h => hnoti k hkl0 hl h)
          rw [canon_other g t fl ((full.take i).map Sp.pr) a0 (by
            intro p hp hdp
            obtain ⟨s', hs', rfl⟩ := List.mem_map.1 hp
            obtain ⟨k', hk'⟩ := List.mem_iff_getElem?.1 hs'
            rw [List.getElem?_take] at hk'
            split at hk'
            · have := hdst k' k s' s t hk' hk hdp hd
              omega
            · cases hk'), hm.other t (by
            intro k' s' hk' hd'
            have := hdst k' k s' s t hk' hk hd' hd
            rw [this]
            exact hul)]
        rw [canon_at g t fl ((full.take i).map Sp.pr) a0 k s.o s.T hlt h2.1 (by rw [List.getElem?_map, List.getElem?_take, if_pos h2.2, hk]; rfl) hd]
        have hlt' : t < a.tmps.size := by rw [hm.size]; exact hlt
        simp [g, Array.getD, hlt']
      · have hno : ∀ p ∈ full, p.o.dst ≠ some t := by
          intro s hp hd
          obtain ⟨k, hk⟩ := List.mem_iff_getElem?.1 hp
          exact hex ⟨k, s, hk, hd⟩
        rw [canon_other g t fl ((full.take i).map Sp.pr) a0 (by
          intro p hp
          obtain ⟨s, hs, rfl⟩ := List.mem_map.1 hp
          exact hno s (List.mem_of_mem_take hs)), hm.other t (fun k s hk hd => absurd hd (hno s (List.mem_of_getElem? hk)))]
    have hgo := hgood i sp hiT
    have hnosel : ∀ cs b, sp.o.op ≠ .select cs b := by
      intro cs b h
      have h1 := hgo.1
      simp [goodOp, h] at h1
    have hexec : execOp a.eval sp.o = execOp (canon fl ((full.take i).map Sp.pr) g a0).eval sp.o := by
      refine execOp_congr sp.o hnosel fun x hx => ?_
      cases x with
      | tmp t =>
        have ht : t ∈ sp.o.looksAt ops := List.mem_append_left _ (List.mem_filterMap.2 ⟨.tmp t, by simpa using hx, rfl⟩)
        have h1 := hslot t ht
        simp only [Act.eval]
        simp only [Array.getD_eq_getD_getElem?, h1]
      | const v => rfl
      | global v => rfl
      | func f => rfl
    have hwant : Region.wanted sp.o (yielded ops a.tmps) = Region.wanted sp.o (yielded ops (canon fl ((full.take i).map Sp.pr) g a0).tmps) := by
      unfold Region.wanted
      cases hg : sp.o.guard with
      | none => rfl
      | some gw =>
        obtain ⟨gi, want⟩ := gw
        have : yielded ops a.tmps gi = yielded ops (canon fl ((full.take i).map Sp.pr) g a0).tmps gi := by
          unfold yielded
          cases ht : (ops[gi]?).bind (·.dst) with
          | none => rfl
          | some t =>
            have hin : t ∈ sp.o.looksAt ops := List.mem_append_right _ (by simp [hg, ht])
            have h1 := hslot t hin
            simp [h1]
        simp only [this]
    unfold wpOp
    simp only [ho]
    refine upon_transfer (R := Sel N R (!wr)) hexec hwant (fun d hd => by rw [canon_size]; exact hgo.2 d hd) hgiven fun v w' hww hTv => hK _ _ ?_
    have hRww := sel_le hNR _ _ _ hww
    have hset : ∀ k, k < full.length → (listed.setIfInBounds i true).getD k false = true → k = i ∨ listed.getD k false = true := by
      intro k hk h
      by_cases hki : k = i
      · exact .inl hki
      · right
        rwa [getD_set_ne false (Ne.symm hki)] at h
    have hmono : ∀ k, listed.getD k false = true → (listed.setIfInBounds i true).getD k false = true := by
      intro k h
      by_cases hki : k = i
      · subst hki; rw [hunf] at h; cases h
      · rw [getD_set_ne false (Ne.symm hki)]; exact h
    have hseti : (listed.setIfInBounds i true).getD i false = true := by
      have : i < listed.size := by rw [hm.lsize]; exact hil
      simp [Array.getD, this]
    refine ⟨hR.trans _ _ _ hm.world hRww, ?_, ?_, ?_, by simpa using hm.lsize, ?_, ?_, ?_⟩
    · intro hno
      have hwi : W.testBit i = false := by
        cases h : W.testBit i with
        | false => rfl
        | true => have := hno i h; rw [hseti] at this; cases this
      rw [hwi] at hwr
      subst hwr
      refine hN.trans _ _ _ (hm.clean fun j hj => ?_) hww
      cases hl : listed.getD j false with
      | false => rfl
      | true => have := hno j hj; rw [hmono j hl] at this; cases this
    · rw [← hm.defers]; cases sp.o.dst <;> simp [Act.put]
    · rw [← hm.size]; cases sp.o.dst <;> simp [Act.put]
    · intro t hno
      rw [← hm.other t (fun k s hk hd => by
        have h1 := hno k s hk hd
        cases hl : listed.getD k false with
        | false => rfl
        | true => rw [hmono k hl] at h1; cases h1)]
      have h0 : sp.o.dst ≠ some t := fun hd => by
        have h1 := hno i sp hiT hd
        rw [hseti] at h1
        cases h1
      cases hd : sp.o.dst with
      | none => simp [Act.put]
      | some d =>
        have : d ≠ t := fun e => h0 (by simp [hd, e])
        simp [Act.put, Array.getElem?_setIfInBounds_ne this]
    · intro k s hk hlk e he hb
      have hkl : k < full.length := (List.getElem?_eq_some_iff.1 hk).1
      rcases hset k hkl hlk with rfl | hlk'
      · rw [hiT] at hk
        simp only [Option.some.injEq] at hk
        subst hk
        exact hmono _ (hedges e he hb)
      · exact hmono _ (hm.closed k s hk hlk' e he hb)
    · intro k s hk hlk hal
      have hkl : k < full.length := (List.getElem?_eq_some_iff.1 hk).1
      by_cases hki : k = i
      · subst hki
        rw [hiT] at hk
        simp only [Option.some.injEq] at hk
        subst hk
        unfold dstVal
        cases hd : sp.o.dst with
        | none => simpa [hd] using hTv
        | some d =>
          have hlt : d < a.tmps.size := by rw [hm.size]; exact hgo.2 d hd
          rw [hd] at hTv
          simpa [Act.put, hlt] using hTv
      · have hlk' : listed.getD k false = true := by rwa [getD_set_ne false (Ne.symm hki)] at hlk
        have e : dstVal s.o (a.put sp.o.dst v) = dstVal s.o a := by
          unfold dstVal
          cases hd' : s.o.dst with
          | none => rfl
          | some d' =>
            cases hd : sp.o.dst with
            | none => rfl
            | some d =>
              have hne : d ≠ d' := fun e => hki (hdst k i s sp d' hk hiT hd' (by rw [hd, e]))
              simp [Act.put, Array.getElem?_setIfInBounds_ne hne]
        rw [e]
        obtain ⟨hkN, hkR⟩ := hkeep s (List.mem_of_getElem? hk)
        rcases hal with hst | hal
        · exact hkR hst _ _ _ hRww (hm.done k s hk hlk' (.inl hst))
        · have hwi : W.testBit i = false := by
            cases h : W.testBit i with
            | false => rfl
            | true =>
              rcases hal i hil h hseti with h2 | h2
              · exact absurd h2.symm hki
              · have := hreach2 k i hkl hil hlk' h2
                rw [hunf] at this
                cases this
          rw [hwi] at hwr
          subst hwr
          exact hkN _ _ _ hww (hm.done k s hk hlk' (.inr fun j hj hw hlj => hal j hj hw (hmono j hlj)))
  intro fuel
  induction fuel with
  | zero =>
    intro listed a w hm hcount
    have hall' : ∀ k, k < full.length → listed.getD k false = true := by
      intro k hk
      have hlen : listed.toList.length = full.length := by simpa using hm.lsize
      have hc : listed.toList.count true = listed.toList.length := by
        have := List.count_le_length (a := true) (l := listed.toList)
        omega
      have := List.count_eq_length.1 hc
      have hk' : k < listed.size := by rw [hm.lsize]; exact hk
      have h2 := this listed[k] (by simp)
      simp [Array.getD, hk', ← h2]
    refine ⟨?_, fin listed a w hm hall'⟩
    rw [List.eq_nil_iff_forall_not_mem]
    intro i hi
    obtain ⟨hun, o, ho, _⟩ := mem_ready.1 hi
    obtain ⟨T, hiT, _⟩ := hopsk' i o ho
    have hil : i < full.length := (List.getElem?_eq_some_iff.1 hiT).1
    have h1 := hall' i hil
    rw [getD_of_lt (by rw [hm.lsize]; exact hil) false true, hun] at h1
    cases h1
  | succ fuel ih =>
    intro listed a w hm hcount
    refine ⟨fun h0 => fin listed a w hm (ready_nil listed hm.lsize h0), fun i hi => ?_⟩
    refine step listed a w _ i hm hi fun a' w' hm' => ih _ _ _ hm' ?_
    obtain ⟨hun, o, ho, _⟩ := mem_ready.1 hi
    obtain ⟨T, hiT, _⟩ := hopsk' i o ho
    have hil : i < full.length := (List.getElem?_eq_some_iff.1 hiT).1
    have hil' : i < listed.size := by rw [hm.lsize]; exact hil
    have hf : listed[i] = false := by simpa [Array.getD, hil'] using hun
    have hset : (listed.setIfInBounds i true).toList = listed.toList.set i true := by simp
    rw [hset, List.count_set (by simpa using hil')]
    have hf' : listed.toList[i]'(by simpa using hil') = false := by simpa using hf
    simp only [hf']
    simp
    have hc := hcount
    simp only [Array.count_toList] at hc
    omega

theorem wp_region_typed2 {id : Nat} {l : List Oper} {a0 : Act} {w0 : World} (hN : Steady N) (hR : Steady R) (hNR : ∀ w w', N w w' → R w w') (hm : P.follows .mixedOrders = true) (n : Nat) (hn : a0.tmps.size = n) (M : List Nat) (W : Nat)
    (hok : (regionOk n l && maskOk l M && decide (W < 2 ^ l.length)) = true)
    (h : Stage2 P l.toArray N R M W a0 w0 (Q .normal) [] l) : (Code.region id l.toArray true).wp P Q a0 w0 := by
  obtain ⟨rest, h1, h2, h3, h4⟩ := Stage2.all l [] h
  subst h1
  subst hn
  simp only [Bool.and_eq_true, decide_eq_true_eq] at hok
  refine wp_region_any hm ?_
  refine any_typed2 (full := rest) (a0 := a0) (w0 := w0) hN hR hNR rfl hok.1.1 hok.1.2 (by simpa using hok.2) h2 (by simpa using h4) (by simpa using h3) _ _ _ _ ⟨hNR _ _ (hN.drew w0), fun _ => hN.drew w0, rfl, rfl, by simp, fun _ _ => rfl, ?_, ?_⟩ (by simp)
  · intro k sp hk hl
    have hlt : k < rest.length := (List.getElem?_eq_some_iff.1 hk).1
    simp [Array.getD, hlt] at hl
  · intro k sp hk hl
    have hlt : k < rest.length := (List.getElem?_eq_some_iff.1 hk).1
    simp [Array.getD, hlt] at hl

theorem Stage2.nil {ops : Array Oper} {M : List Nat} {W : Nat} {a0 : Act} {w0 : World} {K : Act → World → Prop} {done : List Sp} (al : List Bool) (hal : aliveOk M W ops.size (done.map Sp.st) al = true)
    (h : ∀ w', Sel N R (W == 0) w0 w' → Fin2 w' (fun a => K a w') al (done.map Sp.pr) a0) : Stage2 P ops N R M W a0 w0 K done [] := ⟨al, hal, h⟩
theorem Stage2.step {ops : Array Oper} {M : List Nat} {W : Nat} {a0 : Act} {w0 : World} {K : Act → World → Prop} {done : List Sp} {o : Oper} {r : List Oper} (T : Ty) (st : Bool) (fl : List Bool) (pu wr : Bool) (hk : Keeps N T) (hk2 : st = true → Keeps R T)
    (hf : (flagsOk2 ops M W (done.map Sp.st) done.length o fl && (W.testBit done.length == wr) && (!pu || pureOk M W ops.size done.length)) = true)
    (h : ∀ w1, Sel N R pu w0 w1 → Given w1 (fun a => wpList P ops (Post (Sel N R (!wr)) T o a w1) [o] a w1) fl (done.map Sp.pr) a0)
    (hr : Stage2 P ops N R M W a0 w0 K (done ++ [⟨o, T, st⟩]) r) : Stage2 P ops N R M W a0 w0 K done (o :: r) := ⟨T, st, fl, pu, wr, hk, hk2, hf, h, hr⟩
end
attribute [irreducible] Stage2 Fin2
end Go.Proofs.Ytcchlkialgjamaa
