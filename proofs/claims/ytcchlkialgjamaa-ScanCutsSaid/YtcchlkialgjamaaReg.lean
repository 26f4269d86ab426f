/-
  A law for a region that draws its order and makes memory. Each operation's result is told by a predicate of value and world that later steps keep; an operation is shown once, from any later world, out of the predicates of what it looks at. Conditions: the temporaries written are distinct; what an operation looks at stands among its own edges. Nothing here names a program.
-/
import Derived.Below
import Derived.Orders
import Derived.Tactics2
namespace Go.Proofs.Ytcchlkialgjamaa
open Go.RowKit

abbrev Ty := Value → World → Prop

structure Steady (R : World → World → Prop) : Prop where
  refl : ∀ w, R w w
  trans : ∀ a b c, R a b → R b c → R a c
  drew : ∀ w : World, R w { w with drawn := w.drawn + 1 }

def Keeps (R : World → World → Prop) (T : Ty) : Prop := ∀ v w w', R w w' → T v w → T v w'

abbrev Is (x : Value) : Ty := fun v _ => v = x
theorem Is.keeps {R : World → World → Prop} (x : Value) : Keeps R (Is x) := fun _ _ _ _ h => h

def dstVal (o : Oper) (a : Act) : Value := match o.dst with | some d => a.tmps.getD d undef | none => undef

def Post (R : World → World → Prop) (T : Ty) (o : Oper) (a : Act) (w : World) : Exit → Act → World → Prop := fun e a' w' =>
  e = .normal ∧ a'.defers = a.defers ∧ R w w' ∧ T (dstVal o a') w'

theorem Post.isv {R : World → World → Prop} {o : Oper} {a a' : Act} {w w' : World} {x : Value} {d : Tmp} (hR : R w w') (hd : o.dst = some d) (hdef : a'.defers = a.defers) (hv : a'.tmps.toList[d]? = some x) : Post R (Is x) o a w .normal a' w' := by
  refine ⟨rfl, hdef, hR, ?_⟩
  have hv' : a'.tmps[d]? = some x := by simpa using hv
  simp [dstVal, hd, Array.getD_eq_getD_getElem?, hv']

def Given (w : World) (K : Act → Prop) : List Bool → List (Oper × Ty) → Act → Prop
  | true :: fl, (o, T) :: r, a => ∀ v, T v w → Given w K fl r (a.put o.dst v)
  | false :: fl, _ :: r, a => Given w K fl r a
  | _, _, a => K a

def Fin (w : World) (K : Act → Prop) : List (Oper × Ty) → Act → Prop
  | [], a => K a
  | (o, T) :: r, a => ∀ v, T v w → Fin w K r (a.put o.dst v)

theorem Fin.is_ {w : World} {K : Act → Prop} {o : Oper} {x : Value} {r : List (Oper × Ty)} {a : Act} (h : Fin w K r (a.put o.dst x)) : Fin w K ((o, Is x) :: r) a := fun _ hv => by
  subst hv
  exact h
theorem Fin.step_ {w : World} {K : Act → Prop} {o : Oper} {T : Ty} {r : List (Oper × Ty)} {a : Act} (h : ∀ v, T v w → Fin w K r (a.put o.dst v)) : Fin w K ((o, T) :: r) a := h
theorem Fin.nil_ {w : World} {K : Act → Prop} {a : Act} (h : K a) : Fin w K [] a := h

def flagsOk (ops : Array Oper) (n : Nat) (o : Oper) (fl : List Bool) : Bool :=
  ((o.looksAt ops).all fun t => ops.toList.zipIdx.all fun (o', k) => o'.dst != some t || (fl.getD k false && decide (k < n))) &&
  (fl.zipIdx.all fun (b, k) => !b || o.after.any fun e => Region.binds .any e && e.on == k)

def goodOp (o : Oper) : Bool := match o.op with | .select .. => false | .defer .. => false | _ => true

def Stage (P : Program) (ops : Array Oper) (R : World → World → Prop) (a0 : Act) (w0 : World) (K : Act → World → Prop) : List (Oper × Ty) → List Oper → Prop
  | done, [] => ∀ w', R w0 w' → Fin w' (fun a => K a w') done a0
  | done, o :: r => ∃ (T : Ty) (fl : List Bool), Keeps R T ∧ flagsOk ops done.length o fl = true ∧
      (∀ w1, R w0 w1 → Given w1 (fun a => wpList P ops (Post R T o a w1) [o] a w1) fl done a0) ∧ Stage P ops R a0 w0 K (done ++ [(o, T)]) r

theorem Stage.nil {P : Program} {ops : Array Oper} {R : World → World → Prop} {a0 : Act} {w0 : World} {K : Act → World → Prop} {done : List (Oper × Ty)}
    (h : ∀ w', R w0 w' → Fin w' (fun a => K a w') done a0) : Stage P ops R a0 w0 K done [] := h

theorem Stage.step {P : Program} {ops : Array Oper} {R : World → World → Prop} {a0 : Act} {w0 : World} {K : Act → World → Prop} {done : List (Oper × Ty)} {o : Oper} {r : List Oper}
    (T : Ty) (fl : List Bool) (hk : Keeps R T) (hf : flagsOk ops done.length o fl = true)
    (h : ∀ w1, R w0 w1 → Given w1 (fun a => wpList P ops (Post R T o a w1) [o] a w1) fl done a0)
    (hr : Stage P ops R a0 w0 K (done ++ [(o, T)]) r) : Stage P ops R a0 w0 K done (o :: r) := ⟨T, fl, hk, hf, h, hr⟩

def distinctDst : List Oper → Bool
  | [] => true
  | o :: r => (match o.dst with | none => true | some d => r.all fun o' => o'.dst != some d) && distinctDst r

theorem distinct_spec : ∀ (l : List Oper), distinctDst l = true → ∀ (k j : Nat) (o o' : Oper) (d : Tmp), l[k]? = some o → l[j]? = some o' → o.dst = some d → o'.dst = some d → k = j
  | [], _, k, _, _, _, _, hk, _, _, _ => by simp at hk
  | x :: r, h, k, j, o, o', d, hk, hj, hd, hd' => by
    simp only [distinctDst, Bool.and_eq_true] at h
    rcases k with _ | k <;> rcases j with _ | j
    · rfl
    · simp only [List.getElem?_cons_zero, Option.some.injEq] at hk
      subst hk
      simp only [List.getElem?_cons_succ] at hj
      have h1 := h.1
      rw [hd] at h1
      have := List.all_eq_true.1 h1 o' (List.mem_of_getElem? hj)
      simp [hd'] at this
    · simp only [List.getElem?_cons_zero, Option.some.injEq] at hj
      subst hj
      simp only [List.getElem?_cons_succ] at hk
      have h1 := h.1
      rw [hd'] at h1
      have := List.all_eq_true.1 h1 o (List.mem_of_getElem? hk)
      simp [hd] at this
    · simp only [List.getElem?_cons_succ] at hk hj
      exact congrArg (· + 1) (distinct_spec r h.2 k j o o' d hk hj hd hd')

def regionOk (n : Nat) (l : List Oper) : Bool :=
  distinctDst l && (l.all fun o => goodOp o && (match o.dst with | some d => decide (d < n) | none => true)) &&
  (l.zipIdx.all fun (o, i) => o.after.all fun e => !Region.binds .any e || decide (e.on < i))

section
variable {P : Program} {R : World → World → Prop} {Q : Exit → Act → World → Prop}

theorem upon_transfer {o : Oper} {a ac : Act} {w : World} {T : Ty} {K : Act → World → Prop} {ops : Array Oper} 
    (hexec : execOp a.eval o = execOp ac.eval o) (hw : Region.wanted o (yielded ops a.tmps) = Region.wanted o (yielded ops ac.tmps))
    (hd : ∀ d, o.dst = some d → d < ac.tmps.size) (h : wpList P ops (Post R T o ac w) [o] ac w)
    (hK : ∀ v w', R w w' → T (match o.dst with | some _ => v | none => undef) w' → K (a.put o.dst v) w') :
    if Region.wanted o (yielded ops a.tmps) = true then o.wp P a w K Q ∨ (o.asks P a w ∧ LetsOut Q) else K (a.put o.dst undef) w := by
  have hval : ∀ v, dstVal o (ac.put o.dst v) = (match o.dst with | some _ => v | none => undef) := by
    intro v
    unfold dstVal
    cases hdst : o.dst with
    | none => rfl
    | some d => simp [Act.put, hd d hdst]
  simp only [wpList] at h
  rw [hw]
  split
  · rename_i hwt
    simp only [hwt, if_true] at h
    rcases h with h | ⟨_, ⟨_, _, h, _⟩⟩
    case inr => cases h
    refine .inl ?_
    unfold Oper.wp at *
    rw [hexec]
    generalize (execOp ac.eval o).run P w = r at *
    have fin : ∀ v w', Post R T o ac w .normal (ac.put o.dst v) w' → K (a.put o.dst v) w' := by
      intro v w' hp
      obtain ⟨_, _, h1, h2⟩ := hp
      rw [hval] at h2
      exact hK v w' h1 h2
    cases r with
    | ok n w' =>
      cases n <;> simp only [Oper.upon] at h ⊢
      case value u => exact fin _ _ h
      case skip => exact fin _ _ h
      case defer d =>
        exfalso
        obtain ⟨_, h1, _⟩ := h
        have h2 := congrArg List.length h1
        cases hdst : o.dst <;> simp [Act.put, hdst] at h2
      case enter f args =>
        refine Calls.mono h fun e w'' he => ?_
        cases e with
        | returned u => exact fin _ _ he
        | panicked c => cases he.1
        | outgrown => obtain ⟨_, _, h1, _⟩ := he; cases h1
      case row row args => exact Rows.mono h fun u w'' he => fin _ _ he
    | halt x w' =>
      cases x <;> simp only [Oper.upon] at h ⊢
      case panic u => cases h.1
  · rename_i hwt
    have hwf : Region.wanted o (yielded ops ac.tmps) = false := by simpa using hwt
    simp only [hwf, Bool.false_eq_true, if_false] at h
    obtain ⟨_, _, h1, h2⟩ := h
    rw [hval] at h2
    exact hK undef w h1 h2

/-- the act that an operation is shown at -/
def canon : List Bool → List (Oper × Ty) → (Nat → Value) → Act → Act
  | true :: fl, (o, _) :: r, g, a => canon fl r g (a.put o.dst ((o.dst.map g).getD undef))
  | false :: fl, _ :: r, g, a => canon fl r g a
  | _, _, _, a => a

theorem Given.at_ {w : World} {K : Act → Prop} (g : Nat → Value) : ∀ (fl : List Bool) (l : List (Oper × Ty)) (a : Act), Given w K fl l a →
    (∀ (k : Nat) (o : Oper) (T : Ty), fl.getD k false = true → l[k]? = some (o, T) → T ((o.dst.map g).getD undef) w) → K (canon fl l g a)
  | true :: fl, (o, T) :: r, a, h, hT => by
    simp only [Given] at h
    exact Given.at_ g fl r _ (h _ (hT 0 o T rfl rfl)) fun k o' T' hk ho => hT (k + 1) o' T' (by simpa using hk) (by simpa using ho)
  | false :: fl, (o, T) :: r, a, h, hT => by
    simp only [Given] at h
    exact Given.at_ g fl r _ h fun k o' T' hk ho => hT (k + 1) o' T' (by simpa using hk) (by simpa using ho)
  | [], l, a, h, _ => by cases l <;> simpa [Given, canon] using h
  | true :: fl, [], a, h, _ => by simpa [Given, canon] using h
  | false :: fl, [], a, h, _ => by simpa [Given, canon] using h

theorem canon_size (g : Nat → Value) : ∀ (fl : List Bool) (l : List (Oper × Ty)) (a : Act), (canon fl l g a).tmps.size = a.tmps.size
  | true :: fl, (o, T) :: r, a => by
    simp only [canon]
    rw [canon_size g fl r]
    cases o.dst <;> simp [Act.put]
  | false :: fl, (o, T) :: r, a => by simp only [canon]; exact canon_size g fl r a
  | [], l, a => by cases l <;> simp [canon]
  | true :: fl, [], a => by simp [canon]
  | false :: fl, [], a => by simp [canon]

theorem canon_other (g : Nat → Value) (t : Nat) : ∀ (fl : List Bool) (l : List (Oper × Ty)) (a : Act), (∀ p ∈ l, p.1.dst ≠ some t) → (canon fl l g a).tmps[t]? = a.tmps[t]?
  | true :: fl, (o, T) :: r, a, h => by
    simp only [canon]
    rw [canon_other g t fl r _ fun p hp => h p (List.mem_cons_of_mem _ hp)]
    have h0 := h (o, T) (by simp)
    cases hd : o.dst with
    | none => simp [Act.put]
    | some d =>
      have : d ≠ t := fun e => h0 (by simp [hd, e])
      simp [Act.put, Array.getElem?_setIfInBounds_ne this]
  | false :: fl, (o, T) :: r, a, h => by
    simp only [canon]
    exact canon_other g t fl r _ fun p hp => h p (List.mem_cons_of_mem _ hp)
  | [], l, a, _ => by cases l <;> simp [canon]
  | true :: fl, [], a, _ => by simp [canon]
  | false :: fl, [], a, _ => by simp [canon]

theorem canon_keep (g : Nat → Value) (t : Nat) : ∀ (fl : List Bool) (l : List (Oper × Ty)) (a : Act), a.tmps[t]? = some (g t) → (canon fl l g a).tmps[t]? = some (g t)
  | true :: fl, (o, T) :: r, a, h => by
    simp only [canon]
    refine canon_keep g t fl r _ ?_
    cases hd : o.dst with
    | none => simpa [Act.put] using h
    | some d =>
      by_cases e : d = t
      · subst e
        have hlt : d < a.tmps.size := (Array.getElem?_eq_some_iff.1 h).1
        simp [Act.put, hlt]
      · simpa [Act.put, Array.getElem?_setIfInBounds_ne e] using h
  | false :: fl, (o, T) :: r, a, h => by
    simp only [canon]
    exact canon_keep g t fl r _ h
  | [], l, a, h => by cases l <;> simpa [canon] using h
  | true :: fl, [], a, h => by simpa [canon] using h
  | false :: fl, [], a, h => by simpa [canon] using h

theorem canon_at (g : Nat → Value) (t : Nat) : ∀ (fl : List Bool) (l : List (Oper × Ty)) (a : Act) (k : Nat) (o : Oper) (T : Ty), t < a.tmps.size → fl.getD k false = true → l[k]? = some (o, T) → o.dst = some t →
    (canon fl l g a).tmps[t]? = some (g t)
  | true :: fl, (o', T') :: r, a, 0, o, T, ht, _, hl, hd => by
    simp only [List.getElem?_cons_zero, Option.some.injEq, Prod.mk.injEq] at hl
    obtain ⟨rfl, rfl⟩ := hl
    simp only [canon]
    exact canon_keep g t fl r _ (by simp [Act.put, hd, ht])
  | true :: fl, (o', T') :: r, a, k + 1, o, T, ht, hf, hl, hd => by
    simp only [canon]
    exact canon_at g t fl r _ k o T (by cases o'.dst <;> simpa [Act.put] using ht) (by simpa using hf) (by simpa using hl) hd
  | false :: fl, (o', T') :: r, a, 0, o, T, _, hf, _, _ => by simp at hf
  | false :: fl, (o', T') :: r, a, k + 1, o, T, ht, hf, hl, hd => by
    simp only [canon]
    exact canon_at g t fl r _ k o T ht (by simpa using hf) (by simpa using hl) hd
  | [], l, a, k, _, _, _, hf, _, _ => by simp at hf
  | _ :: fl, [], a, k, _, _, _, _, hl, _ => by simp at hl

theorem Fin.at_ {w : World} {K : Act → Prop} (g : Nat → Value) : ∀ (l : List (Oper × Ty)) (a : Act), Fin w K l a →
    (∀ p ∈ l, p.2 ((p.1.dst.map g).getD undef) w) → K (canon (l.map fun _ => true) l g a)
  | [], a, h, _ => h
  | (o, T) :: r, a, h, hT => by
    simp only [Fin] at h
    simp only [List.map_cons, canon]
    exact Fin.at_ g r _ (h _ (hT _ (List.mem_cons_self ..))) fun p hp => hT p (List.mem_cons_of_mem _ hp)

theorem canon_defers (g : Nat → Value) : ∀ (fl : List Bool) (l : List (Oper × Ty)) (a : Act), (canon fl l g a).defers = a.defers
  | true :: fl, (o, T) :: r, a => by
    simp only [canon]
    rw [canon_defers g fl r]
    cases o.dst <;> simp [Act.put]
  | false :: fl, (o, T) :: r, a => by simp only [canon]; exact canon_defers g fl r a
  | [], l, a => by cases l <;> simp [canon]
  | true :: fl, [], a => by simp [canon]
  | false :: fl, [], a => by simp [canon]

theorem Stage.all {ops : Array Oper} {a0 : Act} {w0 : World} {K : Act → World → Prop} : ∀ (todo : List Oper) (done : List (Oper × Ty)), Stage P ops R a0 w0 K done todo →
    ∃ rest : List (Oper × Ty), rest.map (·.1) = todo ∧ (∀ p ∈ rest, Keeps R p.2) ∧ (∀ w', R w0 w' → Fin w' (fun a => K a w') (done ++ rest) a0) ∧
      ∀ i o T, rest[i]? = some (o, T) → ∃ fl : List Bool, flagsOk ops (done.length + i) o fl = true ∧ ∀ w1, R w0 w1 → Given w1 (fun a => wpList P ops (Post R T o a w1) [o] a w1) fl (done ++ rest.take i) a0
  | [], done, h => ⟨[], rfl, by simp, by simpa [Stage] using h, by simp⟩
  | o :: r, done, h => by
    obtain ⟨T, fl, hk, hf, ho, hs⟩ := h
    obtain ⟨rest, h1, h2, h3, h4⟩ := Stage.all r _ hs
    refine ⟨(o, T) :: rest, by simp [h1], ?_, by simpa using h3, ?_⟩
    · intro p hp
      rcases List.mem_cons.1 hp with rfl | hp
      · exact hk
      · exact h2 p hp
    · intro i o' T' hi
      rcases i with _ | i
      · simp only [List.getElem?_cons_zero, Option.some.injEq, Prod.mk.injEq] at hi
        obtain ⟨rfl, rfl⟩ := hi
        exact ⟨fl, by simpa using hf, by simpa using ho⟩
      · obtain ⟨fl', hf', ho'⟩ := h4 i o' T' (by simpa using hi)
        refine ⟨fl', ?_, ?_⟩
        · simpa [Nat.add_assoc, Nat.add_comm 1 i] using hf'
        · simpa using ho'

/-- what holds between two operations -/
structure Midway (R : World → World → Prop) (full : List (Oper × Ty)) (a0 : Act) (w0 : World) (listed : Array Bool) (a : Act) (w : World) : Prop where
  world : R w0 w
  defers : a.defers = a0.defers
  size : a.tmps.size = a0.tmps.size
  lsize : listed.size = full.length
  other : ∀ t, (∀ p ∈ full, p.1.dst ≠ some t) → a.tmps[t]? = a0.tmps[t]?
  done : ∀ (k : Nat) (o : Oper) (T : Ty), full[k]? = some (o, T) → listed.getD k false = true → T (dstVal o a) w

theorem getD_of_lt {listed : Array Bool} {i : Nat} (h : i < listed.size) (x y : Bool) : listed.getD i x = listed.getD i y := by
  simp [Array.getD, h]

theorem any_typed {ops : Array Oper} {full : List (Oper × Ty)} {a0 : Act} {w0 : World} (hR : Steady R) (hops : ops = (full.map (·.1)).toArray)
    (hok : regionOk a0.tmps.size (full.map (·.1)) = true) (hkeep : ∀ p ∈ full, Keeps R p.2)
    (hobl : ∀ i o T, full[i]? = some (o, T) → ∃ fl : List Bool, flagsOk ops i o fl = true ∧ ∀ w1, R w0 w1 → Given w1 (fun a => wpList P ops (Post R T o a w1) [o] a w1) fl (full.take i) a0)
    (hfin : ∀ w', R w0 w' → Fin w' (fun a => Q .normal a w') full a0) :
    ∀ (fuel : Nat) (listed : Array Bool) (a : Act) (w : World), Midway R full a0 w0 listed a w → full.length ≤ fuel + listed.toList.count true → wpAny P .any ops Q fuel listed a w := by
  simp only [regionOk, Bool.and_eq_true] at hok
  obtain ⟨⟨hdist, hall⟩, hback⟩ := hok
  have hdst : ∀ (k j : Nat) (o o' : Oper) (T T' : Ty) (d : Tmp), full[k]? = some (o, T) → full[j]? = some (o', T') → o.dst = some d → o'.dst = some d → k = j := by
    intro k j o o' T T' d hk hj hd hd'
    exact distinct_spec _ hdist k j o o' d (by simp [hk]) (by simp [hj]) hd hd'
  have hgood : ∀ (k : Nat) (o : Oper) (T : Ty), full[k]? = some (o, T) → goodOp o = true ∧ ∀ d, o.dst = some d → d < a0.tmps.size := by
    intro k o T hk
    have h1 := List.all_eq_true.1 hall o (List.mem_map.2 ⟨(o, T), List.mem_of_getElem? hk, rfl⟩)
    simp only [Bool.and_eq_true] at h1
    refine ⟨h1.1, fun d hd => ?_⟩
    have h2 := h1.2
    rw [hd] at h2
    simpa using h2
  have hedge : ∀ (k : Nat) (o : Oper) (T : Ty), full[k]? = some (o, T) → ∀ e ∈ o.after, Region.binds .any e = true → e.on < k := by
    intro k o T hk e he hb
    have hm : (o, k) ∈ (full.map (·.1)).zipIdx := by
      rw [List.mem_zipIdx_iff_getElem?]
      simp [hk]
    have h1 := List.all_eq_true.1 hback (o, k) hm
    have h2 := Array.all_eq_true_iff_forall_mem.1 h1 e he
    simpa [hb] using h2
  have hopsk : ∀ (k : Nat) (o : Oper) (T : Ty), full[k]? = some (o, T) → ops[k]? = some o := by
    intro k o T hk
    subst hops
    simp [hk]
  have hopsk' : ∀ (k : Nat) (o : Oper), ops[k]? = some o → ∃ T, full[k]? = some (o, T) := by
    intro k o hk
    subst hops
    simp only [List.getElem?_toArray, List.getElem?_map, Option.map_eq_some_iff] at hk
    obtain ⟨⟨o', T⟩, h1, h2⟩ := hk
    simp only at h2
    subst h2
    exact ⟨T, h1⟩
  -- the end
  have fin : ∀ (listed : Array Bool) (a : Act) (w : World), Midway R full a0 w0 listed a w → (∀ k, k < full.length → listed.getD k false = true) → Q .normal a w := by
    intro listed a w hm hl
    let g : Nat → Value := fun t => a.tmps.getD t undef
    have hT : ∀ p ∈ full, p.2 ((p.1.dst.map g).getD undef) w := by
      rintro ⟨o, T⟩ hp
      obtain ⟨k, hk⟩ := List.mem_iff_getElem?.1 hp
      have hlt : k < full.length := (List.getElem?_eq_some_iff.1 hk).1
      have := hm.done k o T hk (hl k hlt)
      unfold dstVal at this
      cases hd : o.dst with
      | none => simpa [hd] using this
      | some d => simpa [hd, g] using this
    have h1 := Fin.at_ g full a0 (hfin w hm.world) hT
    have e : canon (full.map fun _ => true) full g a0 = a := by
      have htm : (canon (full.map fun _ => true) full g a0).tmps = a.tmps := by
        refine Array.ext_getElem? fun t => ?_
        by_cases hex : ∃ (k : Nat) (o : Oper) (T : Ty), full[k]? = some (o, T) ∧ o.dst = some t
        · obtain ⟨k, o, T, hk, hd⟩ := hex
          have hlt := (hgood k o T hk).2 t hd
          have hkl : k < full.length := (List.getElem?_eq_some_iff.1 hk).1
          rw [canon_at g t _ full a0 k o T hlt (by simp [List.getElem?_map, hk]) hk hd]
          have hlt' : t < a.tmps.size := by rw [hm.size]; exact hlt
          simp [g, Array.getD, hlt']
        · rw [canon_other g t _ full a0, hm.other t]
          · rintro ⟨o, T⟩ hp hd
            obtain ⟨k, hk⟩ := List.mem_iff_getElem?.1 hp
            exact hex ⟨k, o, T, hk, hd⟩
          · rintro ⟨o, T⟩ hp hd
            obtain ⟨k, hk⟩ := List.mem_iff_getElem?.1 hp
            exact hex ⟨k, o, T, hk, hd⟩
      have hdf : (canon (full.map fun _ => true) full g a0).defers = a.defers := by rw [canon_defers, hm.defers]
      generalize canon (full.map fun _ => true) full g a0 = c at *
      cases c
      cases a
      simp only at htm hdf
      subst htm
      subst hdf
      rfl
    rw [e] at h1
    exact h1
  have ready_nil : ∀ (listed : Array Bool), listed.size = full.length → Region.ready .any ops listed = [] → ∀ k, k < full.length → listed.getD k false = true := by
    intro listed hls hr k
    induction k using Nat.strongRecOn with
    | _ k ih =>
      intro hk
      cases hc : listed.getD k false with
      | true => rfl
      | false =>
        exfalso
        obtain ⟨p, hp⟩ : ∃ p, full[k]? = some p := ⟨_, List.getElem?_eq_getElem hk⟩
        obtain ⟨o, T⟩ := p
        have : k ∈ Region.ready .any ops listed := by
          rw [mem_ready]
          refine ⟨by rw [getD_of_lt (by omega) true false]; exact hc, o, hopsk k o T hp, fun e he hb => ?_⟩
          have := hedge k o T hp e he hb
          exact ih e.on this (by omega)
        rw [hr] at this
        cases this
  have step : ∀ (listed : Array Bool) (a : Act) (w : World) (K : Act → World → Prop) (i : Nat), Midway R full a0 w0 listed a w → i ∈ Region.ready .any ops listed →
      (∀ a' w', Midway R full a0 w0 (listed.setIfInBounds i true) a' w' → K a' w') → wpOp P ops Q i K a w := by
    intro listed a w K i hm hi hK
    obtain ⟨hun, o, ho, hedges⟩ := mem_ready.1 hi
    obtain ⟨T, hiT⟩ := hopsk' i o ho
    obtain ⟨fl, hfl, hob⟩ := hobl i o T hiT
    have hil : i < full.length := (List.getElem?_eq_some_iff.1 hiT).1
    simp only [flagsOk, Bool.and_eq_true] at hfl
    obtain ⟨hlooks, hflag⟩ := hfl
    let g : Nat → Value := fun t => a.tmps.getD t undef
    have hflags : ∀ k, fl.getD k false = true → listed.getD k false = true := by
      intro k hk
      have hk' : fl[k]? = some true := by
        cases hc : fl[k]? with
        | none => simp [List.getD, hc] at hk
        | some b => simp only [List.getD, hc, Option.getD_some] at hk; rw [hk]
      have hmem : (true, k) ∈ fl.zipIdx := by rw [List.mem_zipIdx_iff_getElem?]; exact hk'
      have h1 := List.all_eq_true.1 hflag (true, k) hmem
      simp only [Bool.not_true, Bool.false_or] at h1
      obtain ⟨j, hj, h2⟩ := Array.any_eq_true.1 h1
      simp only [Bool.and_eq_true, beq_iff_eq] at h2
      have := hedges o.after[j] (Array.getElem_mem hj) h2.1
      rw [h2.2] at this
      exact this
    have hgiven := Given.at_ g fl (full.take i) a0 (hob w hm.world) (by
      intro k o' T' hk hl
      have hl' : full[k]? = some (o', T') := by
        rw [List.getElem?_take] at hl
        split at hl
        · exact hl
        · cases hl
      have h1 := hm.done k o' T' hl' (hflags k hk)
      unfold dstVal at h1
      cases hd : o'.dst with
      | none => simpa [hd] using h1
      | some d => simpa [hd, g] using h1)
    have hslot : ∀ t ∈ o.looksAt ops, a.tmps[t]? = (canon fl (full.take i) g a0).tmps[t]? := by
      intro t ht
      have h1 := List.all_eq_true.1 hlooks t ht
      by_cases hex : ∃ (k : Nat) (o' : Oper) (T' : Ty), full[k]? = some (o', T') ∧ o'.dst = some t
      · obtain ⟨k, o', T', hk, hd⟩ := hex
        have hmem : (o', k) ∈ ops.toList.zipIdx := by
          rw [List.mem_zipIdx_iff_getElem?]
          simpa using hopsk k o' T' hk
        have h2 := List.all_eq_true.1 h1 (o', k) hmem
        simp only [hd, bne_self_eq_false, Bool.false_or, Bool.and_eq_true, decide_eq_true_eq] at h2
        have hlt := (hgood k o' T' hk).2 t hd
        rw [canon_at g t fl (full.take i) a0 k o' T' hlt h2.1 (by rw [List.getElem?_take, if_pos h2.2]; exact hk) hd]
        have hlt' : t < a.tmps.size := by rw [hm.size]; exact hlt
        simp [g, Array.getD, hlt']
      · have hno : ∀ p ∈ full, p.1.dst ≠ some t := by
          rintro ⟨o', T'⟩ hp hd
          obtain ⟨k, hk⟩ := List.mem_iff_getElem?.1 hp
          exact hex ⟨k, o', T', hk, hd⟩
        rw [canon_other g t fl (full.take i) a0 fun p hp => hno p (List.mem_of_mem_take hp), hm.other t hno]
    have hgo := hgood i o T hiT
    have hnosel : ∀ cs b, o.op ≠ .select cs b := by
      intro cs b h
      have h1 := hgo.1
      simp [goodOp, h] at h1
    have hexec : execOp a.eval o = execOp (canon fl (full.take i) g a0).eval o := by
      refine execOp_congr o hnosel fun x hx => ?_
      cases x with
      | tmp t =>
        have ht : t ∈ o.looksAt ops := List.mem_append_left _ (List.mem_filterMap.2 ⟨.tmp t, by simpa using hx, rfl⟩)
        have h1 := hslot t ht
        simp only [Act.eval]
        simp only [Array.getD_eq_getD_getElem?, h1]
      | const v => rfl
      | global v => rfl
      | func f => rfl
    have hwant : Region.wanted o (yielded ops a.tmps) = Region.wanted o (yielded ops (canon fl (full.take i) g a0).tmps) := by
      unfold Region.wanted
      cases hg : o.guard with
      | none => rfl
      | some gw =>
        obtain ⟨gi, want⟩ := gw
        have : yielded ops a.tmps gi = yielded ops (canon fl (full.take i) g a0).tmps gi := by
          unfold yielded
          cases ht : (ops[gi]?).bind (·.dst) with
          | none => rfl
          | some t =>
            have hin : t ∈ o.looksAt ops := List.mem_append_right _ (by simp [hg, ht])
            have h1 := hslot t hin
            simp [h1]
        simp only [this]
    unfold wpOp
    simp only [ho]
    refine upon_transfer hexec hwant (fun d hd => by rw [canon_size]; exact hgo.2 d hd) hgiven fun v w' hww hTv => hK _ _ ?_
    refine ⟨hR.trans _ _ _ hm.world hww, ?_, ?_, by simpa using hm.lsize, ?_, ?_⟩
    · rw [← hm.defers]; cases o.dst <;> simp [Act.put]
    · rw [← hm.size]; cases o.dst <;> simp [Act.put]
    · intro t hno
      rw [← hm.other t hno]
      have h0 := hno (o, T) (List.mem_of_getElem? hiT)
      cases hd : o.dst with
      | none => simp [Act.put]
      | some d =>
        have : d ≠ t := fun e => h0 (by simp [hd, e])
        simp [Act.put, Array.getElem?_setIfInBounds_ne this]
    · intro k o' T' hk hlk
      by_cases hki : k = i
      · subst hki
        rw [hiT] at hk
        simp only [Option.some.injEq, Prod.mk.injEq] at hk
        obtain ⟨rfl, rfl⟩ := hk
        unfold dstVal
        cases hd : o.dst with
        | none => simpa [hd] using hTv
        | some d =>
          have hlt : d < a.tmps.size := by rw [hm.size]; exact hgo.2 d hd
          rw [hd] at hTv
          simpa [Act.put, hlt] using hTv
      · rw [getD_set_ne false (Ne.symm hki)] at hlk
        have h1 := hkeep (o', T') (List.mem_of_getElem? hk) _ _ _ hww (hm.done k o' T' hk hlk)
        have e : dstVal o' (a.put o.dst v) = dstVal o' a := by
          unfold dstVal
          cases hd' : o'.dst with
          | none => rfl
          | some d' =>
            cases hd : o.dst with
            | none => rfl
            | some d =>
              have hne : d ≠ d' := fun e => hki (hdst k i o' o T' T d' hk hiT hd' (by rw [hd, e]))
              simp [Act.put, Array.getElem?_setIfInBounds_ne hne]
        rw [e]
        exact h1
  intro fuel
  induction fuel with
  | zero =>
    intro listed a w hm hcount
    have hall' : ∀ k, k < full.length → listed.getD k false = true := by
      intro k hk
      have hlen : listed.toList.length = full.length := by simpa using hm.lsize
      have hc : listed.toList.count true = listed.toList.length := by
        have := List.count_le_length (a := true) (l := listed.toList)
        omega
      have := List.count_eq_length.1 hc
      have hk' : k < listed.size := by rw [hm.lsize]; exact hk
      have h2 := this listed[k] (by simp)
      simp [Array.getD, hk', ← h2]
    refine ⟨?_, fin listed a w hm hall'⟩
    rw [List.eq_nil_iff_forall_not_mem]
    intro i hi
    obtain ⟨hun, o, ho, _⟩ := mem_ready.1 hi
    obtain ⟨T, hiT⟩ := hopsk' i o ho
    have hil : i < full.length := (List.getElem?_eq_some_iff.1 hiT).1
    have h1 := hall' i hil
    rw [getD_of_lt (by rw [hm.lsize]; exact hil) false true, hun] at h1
    cases h1
  | succ fuel ih =>
    intro listed a w hm hcount
    refine ⟨fun h0 => fin listed a w hm (ready_nil listed hm.lsize h0), fun i hi => ?_⟩
    refine step listed a w _ i hm hi fun a' w' hm' => ih _ _ _ hm' ?_
    obtain ⟨hun, o, ho, _⟩ := mem_ready.1 hi
    obtain ⟨T, hiT⟩ := hopsk' i o ho
    have hil : i < full.length := (List.getElem?_eq_some_iff.1 hiT).1
    have hil' : i < listed.size := by rw [hm.lsize]; exact hil
    have hf : listed[i] = false := by simpa [Array.getD, hil'] using hun
    have hset : (listed.setIfInBounds i true).toList = listed.toList.set i true := by simp
    rw [hset, List.count_set (by simpa using hil')]
    have hf' : listed.toList[i]'(by simpa using hil') = false := by simpa using hf
    simp only [hf']
    simp
    have hc := hcount
    simp only [Array.count_toList] at hc
    omega

theorem wp_region_typed {id : Nat} {l : List Oper} {a0 : Act} {w0 : World} (hR : Steady R) (hm : P.follows .mixedOrders = true) (n : Nat) (hn : a0.tmps.size = n) (hok : regionOk n l = true)
    (h : Stage P l.toArray R a0 w0 (Q .normal) [] l) : (Code.region id l.toArray true).wp P Q a0 w0 := by
  obtain ⟨rest, h1, h2, h3, h4⟩ := Stage.all l [] h
  subst h1
  subst hn
  refine wp_region_any hm ?_
  refine any_typed (full := rest) (a0 := a0) (w0 := w0) hR rfl hok h2 (by simpa using h4) (by simpa using h3) _ _ _ _ ⟨hR.drew w0, rfl, rfl, by simp, fun _ _ => rfl, ?_⟩ (by simp)
  intro k o T hk hl
  have hlt : k < rest.length := (List.getElem?_eq_some_iff.1 hk).1
  simp [Array.getD, hlt] at hl
end
attribute [irreducible] Stage Given Fin
end Go.Proofs.Ytcchlkialgjamaa
