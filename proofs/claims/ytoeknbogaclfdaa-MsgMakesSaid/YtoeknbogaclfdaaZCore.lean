/-
  Regions that draw their order, rows of cells, slices: the shared words of this claim. No condition.
-/
import Derived.Below
import Derived.Orders
import Derived.Tactics2
import Derived.WalkKit
import Derived.WalkLawsBesides
import Derived.WalkSpells
import Derived.BigQuiet
import Derived.Deep.AppendSrc
import Derived.Deep.Draws
import Derived.Lib.Hide
import Derived.Test.YtoeknbogaclfdaaProg
import Derived.Lib.SlBytesConst
import Derived.Laws.MakeOwn
namespace Go.Proofs.Ytoeknbogaclfdaa
open Go.RowKit
abbrev Ty := Value → World → Prop
structure Steady (R : World → World → Prop) : Prop where
  refl : ∀ w, R w w
  trans : ∀ a b c, R a b → R b c → R a c
  drew : ∀ w : World, R w { w with drawn := w.drawn + 1 }
def Keeps (R : World → World → Prop) (T : Ty) : Prop := ∀ v w w', R w w' → T v w → T v w'
abbrev Is (x : Value) : Ty := fun v _ => v = x
theorem Is.keeps {R : World → World → Prop} (x : Value) : Keeps R (Is x) := fun _ _ _ _ h => h
def dstVal (o : Oper) (a : Act) : Value := match o.dst with | some d => a.tmps.getD d undef | none => undef
def Post (R : World → World → Prop) (T : Ty) (o : Oper) (a : Act) (w : World) : Exit → Act → World → Prop := fun e a' w' =>
  e = .normal ∧ a'.defers = a.defers ∧ R w w' ∧ T (dstVal o a') w'
theorem Post.isv {R : World → World → Prop} {o : Oper} {a a' : Act} {w w' : World} {x : Value} {d : Tmp} (hR : R w w') (hd : o.dst = some d) (hdef : a'.defers = a.defers) (hv : a'.tmps.toList[d]? = some x) : Post R (Is x) o a w .normal a' w' := by
  refine ⟨rfl, hdef, hR, ?_⟩
  have hv' : a'.tmps[d]? = some x := by simpa using hv
  simp [dstVal, hd, Array.getD_eq_getD_getElem?, hv']
def Given (w : World) (K : Act → Prop) : List Bool → List (Oper × Ty) → Act → Prop
  | true :: fl, (o, T) :: r, a => ∀ v, T v w → Given w K fl r (a.put o.dst v)
  | false :: fl, _ :: r, a => Given w K fl r a
  | _, _, a => K a
def Fin (w : World) (K : Act → Prop) : List (Oper × Ty) → Act → Prop
  | [], a => K a
  | (o, T) :: r, a => ∀ v, T v w → Fin w K r (a.put o.dst v)
theorem Fin.is_ {w : World} {K : Act → Prop} {o : Oper} {x : Value} {r : List (Oper × Ty)} {a : Act} (h : Fin w K r (a.put o.dst x)) : Fin w K ((o, Is x) :: r) a := fun _ hv => by
  subst hv
  exact h
theorem Fin.step_ {w : World} {K : Act → Prop} {o : Oper} {T : Ty} {r : List (Oper × Ty)} {a : Act} (h : ∀ v, T v w → Fin w K r (a.put o.dst v)) : Fin w K ((o, T) :: r) a := h
theorem Fin.nil_ {w : World} {K : Act → Prop} {a : Act} (h : K a) : Fin w K [] a := h
def flagsOk (ops : Array Oper) (n : Nat) (o : Oper) (fl : List Bool) : Bool :=
  ((o.looksAt ops).all fun t => ops.toList.zipIdx.all fun (o', k) => o'.dst != some t || (fl.getD k false && decide (k < n))) &&
  (fl.zipIdx.all fun (b, k) => !b || o.after.any fun e => Region.binds .any e && e.on == k)
def goodOp (o : Oper) : Bool := match o.op with | .select .. => false | .defer .. => false | _ => true
def Stage (P : Program) (ops : Array Oper) (R : World → World → Prop) (a0 : Act) (w0 : World) (K : Act → World → Prop) : List (Oper × Ty) → List Oper → Prop
  | done, [] => ∀ w', R w0 w' → Fin w' (fun a => K a w') done a0
  | done, o :: r => ∃ (T : Ty) (fl : List Bool), Keeps R T ∧ flagsOk ops done.length o fl = true ∧
      (∀ w1, R w0 w1 → Given w1 (fun a => wpList P ops (Post R T o a w1) [o] a w1) fl done a0) ∧ Stage P ops R a0 w0 K (done ++ [(o, T)]) r
theorem Stage.nil {P : Program} {ops : Array Oper} {R : World → World → Prop} {a0 : Act} {w0 : World} {K : Act → World → Prop} {done : List (Oper × Ty)}
    (h : ∀ w', R w0 w' → Fin w' (fun a => K a w') done a0) : Stage P ops R a0 w0 K done [] := h
theorem Stage.step {P : Program} {ops : Array Oper} {R : World → World → Prop} {a0 : Act} {w0 : World} {K : Act → World → Prop} {done : List (Oper × Ty)} {o : Oper} {r : List Oper}
    (T : Ty) (fl : List Bool) (hk : Keeps R T) (hf : flagsOk ops done.length o fl = true)
    (h : ∀ w1, R w0 w1 → Given w1 (fun a => wpList P ops (Post R T o a w1) [o] a w1) fl done a0)
    (hr : Stage P ops R a0 w0 K (done ++ [(o, T)]) r) : Stage P ops R a0 w0 K done (o :: r) := ⟨T, fl, hk, hf, h, hr⟩
def distinctDst : List Oper → Bool
  | [] => true
  | o :: r => (match o.dst with | none => true | some d => r.all fun o' => o'.dst != some d) && distinctDst r
theorem distinct_spec : ∀ (l : List Oper), distinctDst l = true → ∀ (k j : Nat) (o o' : Oper) (d : Tmp), l[k]? = some o → l[j]? = some o' → o.dst = some d → o'.dst = some d → k = j
  | [], _, k, _, _, _, _, hk, _, _, _ => by simp at hk
  | x :: r, h, k, j, o, o', d, hk, hj, hd, hd' => by
    simp only [distinctDst, Bool.and_eq_true] at h
    rcases k with _ | k <;> rcases j with _ | j
    · rfl
    · simp only [List.getElem?_cons_zero, Option.some.injEq] at hk
      subst hk
      simp only [List.getElem?_cons_succ] at hj
      have h1 := h.1
      rw [hd] at h1
      have := List.all_eq_true.1 h1 o' (List.mem_of_getElem? hj)
      simp [hd'] at this
    · simp only [List.getElem?_cons_zero, Option.some.injEq] at hj
      subst hj
      simp only [List.getElem?_cons_succ] at hk
      have h1 := h.1
      rw [hd'] at h1
      have := List.all_eq_true.1 h1 o (List.mem_of_getElem? hk)
      simp [hd] at this
    · simp only [List.getElem?_cons_succ] at hk hj
      exact congrArg (· + 1) (distinct_spec r h.2 k j o o' d hk hj hd hd')
def regionOk (n : Nat) (l : List Oper) : Bool :=
  distinctDst l && (l.all fun o => goodOp o && (match o.dst with | some d => decide (d < n) | none => true)) &&
  (l.zipIdx.all fun (o, i) => o.after.all fun e => !Region.binds .any e || decide (e.on < i))
section
variable {P : Program} {R : World → World → Prop} {Q : Exit → Act → World → Prop}
theorem upon_transfer {o : Oper} {a ac : Act} {w : World} {T : Ty} {K : Act → World → Prop} {ops : Array Oper} 
    (hexec : execOp a.eval o = execOp ac.eval o) (hw : Region.wanted o (yielded ops a.tmps) = Region.wanted o (yielded ops ac.tmps))
    (hd : ∀ d, o.dst = some d → d < ac.tmps.size) (h : wpList P ops (Post R T o ac w) [o] ac w)
    (hK : ∀ v w', R w w' → T (match o.dst with | some _ => v | none => undef) w' → K (a.put o.dst v) w') :
    if Region.wanted o (yielded ops a.tmps) = true then o.wp P a w K Q ∨ (o.asks P a w ∧ LetsOut Q) else K (a.put o.dst undef) w := by
  have hval : ∀ v, dstVal o (ac.put o.dst v) = (match o.dst with | some _ => v | none => undef) := by
    intro v
    unfold dstVal
    cases hdst : o.dst with
    | none => rfl
    | some d => simp [Act.put, hd d hdst]
  simp only [wpList] at h
  rw [hw]
  split
  · rename_i hwt
    simp only [hwt, if_true] at h
    rcases h with h | ⟨_, ⟨_, _, h, _⟩⟩
    case inr => cases h
    refine .inl ?_
    unfold Oper.wp at *
    rw [hexec]
    generalize (execOp ac.eval o).run P w = r at *
    have fin : ∀ v w', Post R T o ac w .normal (ac.put o.dst v) w' → K (a.put o.dst v) w' := by
      intro v w' hp
      obtain ⟨_, _, h1, h2⟩ := hp
      rw [hval] at h2
      exact hK v w' h1 h2
    cases r with
    | ok n w' =>
      cases n <;> simp only [Oper.upon] at h ⊢
      case value u => exact fin _ _ h
      case skip => exact fin _ _ h
      case defer d =>
        exfalso
        obtain ⟨_, h1, _⟩ := h
        have h2 := congrArg List.length h1
        cases hdst : o.dst <;> simp [Act.put, hdst] at h2
      case enter f args =>
        refine Calls.mono h fun e w'' he => ?_
        cases e with
        | returned u => exact fin _ _ he
        | panicked c => cases he.1
        | outgrown => obtain ⟨_, _, h1, _⟩ := he; cases h1
      case row row args => exact Rows.mono h fun u w'' he => fin _ _ he
    | halt x w' =>
      cases x <;> simp only [Oper.upon] at h ⊢
      case panic u => cases h.1
  · rename_i hwt
    have hwf : Region.wanted o (yielded ops ac.tmps) = false := by simpa using hwt
    simp only [hwf, Bool.false_eq_true, if_false] at h
    obtain ⟨_, _, h1, h2⟩ := h
    rw [hval] at h2
    exact hK undef w h1 h2
def canon : List Bool → List (Oper × Ty) → (Nat → Value) → Act → Act
  | true :: fl, (o, _) :: r, g, a => canon fl r g (a.put o.dst ((o.dst.map g).getD undef))
  | false :: fl, _ :: r, g, a => canon fl r g a
  | _, _, _, a => a
theorem Given.at_ {w : World} {K : Act → Prop} (g : Nat → Value) : ∀ (fl : List Bool) (l : List (Oper × Ty)) (a : Act), Given w K fl l a →
    (∀ (k : Nat) (o : Oper) (T : Ty), fl.getD k false = true → l[k]? = some (o, T) → T ((o.dst.map g).getD undef) w) → K (canon fl l g a)
  | true :: fl, (o, T) :: r, a, h, hT => by
    simp only [Given] at h
    exact Given.at_ g fl r _ (h _ (hT 0 o T rfl rfl)) fun k o' T' hk ho => hT (k + 1) o' T' (by simpa using hk) (by simpa using ho)
  | false :: fl, (o, T) :: r, a, h, hT => by
    simp only [Given] at h
    exact Given.at_ g fl r _ h fun k o' T' hk ho => hT (k + 1) o' T' (by simpa using hk) (by simpa using ho)
  | [], l, a, h, _ => by cases l <;> simpa [Given, canon] using h
  | true :: fl, [], a, h, _ => by simpa [Given, canon] using h
  | false :: fl, [], a, h, _ => by simpa [Given, canon] using h
theorem canon_size (g : Nat → Value) : ∀ (fl : List Bool) (l : List (Oper × Ty)) (a : Act), (canon fl l g a).tmps.size = a.tmps.size
  | true :: fl, (o, T) :: r, a => by
    simp only [canon]
    rw [canon_size g fl r]
    cases o.dst <;> simp [Act.put]
  | false :: fl, (o, T) :: r, a => by simp only [canon]; exact canon_size g fl r a
  | [], l, a => by cases l <;> simp [canon]
  | true :: fl, [], a => by simp [canon]
  | false :: fl, [], a => by simp [canon]
theorem canon_other (g : Nat → Value) (t : Nat) : ∀ (fl : List Bool) (l : List (Oper × Ty)) (a : Act), (∀ p ∈ l, p.1.dst ≠ some t) → (canon fl l g a).tmps[t]? = a.tmps[t]?
  | true :: fl, (o, T) :: r, a, h => by
    simp only [canon]
    rw [canon_other g t fl r _ fun p hp => h p (List.mem_cons_of_mem _ hp)]
    have h0 := h (o, T) (by simp)
    cases hd : o.dst with
    | none => simp [Act.put]
    | some d =>
      have : d ≠ t := fun e => h0 (by simp [hd, e])
      simp [Act.put, Array.getElem?_setIfInBounds_ne this]
  | false :: fl, (o, T) :: r, a, h => by
    simp only [canon]
    exact canon_other g t fl r _ fun p hp => h p (List.mem_cons_of_mem _ hp)
  | [], l, a, _ => by cases l <;> simp [canon]
  | true :: fl, [], a, _ => by simp [canon]
  | false :: fl, [], a, _ => by simp [canon]
theorem canon_keep (g : Nat → Value) (t : Nat) : ∀ (fl : List Bool) (l : List (Oper × Ty)) (a : Act), a.tmps[t]? = some (g t) → (canon fl l g a).tmps[t]? = some (g t)
  | true :: fl, (o, T) :: r, a, h => by
    simp only [canon]
    refine canon_keep g t fl r _ ?_
    cases hd : o.dst with
    | none => simpa [Act.put] using h
    | some d =>
      by_cases e : d = t
      · subst e
        have hlt : d < a.tmps.size := (Array.getElem?_eq_some_iff.1 h).1
        simp [Act.put, hlt]
      · simpa [Act.put, Array.getElem?_setIfInBounds_ne e] using h
  | false :: fl, (o, T) :: r, a, h => by
    simp only [canon]
    exact canon_keep g t fl r _ h
  | [], l, a, h => by cases l <;> simpa [canon] using h
  | true :: fl, [], a, h => by simpa [canon] using h
  | false :: fl, [], a, h => by simpa [canon] using h
theorem canon_at (g : Nat → Value) (t : Nat) : ∀ (fl : List Bool) (l : List (Oper × Ty)) (a : Act) (k : Nat) (o : Oper) (T : Ty), t < a.tmps.size → fl.getD k false = true → l[k]? = some (o, T) → o.dst = some t →
    (canon fl l g a).tmps[t]? = some (g t)
  | true :: fl, (o', T') :: r, a, 0, o, T, ht, _, hl, hd => by
    simp only [List.getElem?_cons_zero, Option.some.injEq, Prod.mk.injEq] at hl
    obtain ⟨rfl, rfl⟩ := hl
    simp only [canon]
    exact canon_keep g t fl r _ (by simp [Act.put, hd, ht])
  | true :: fl, (o', T') :: r, a, k + 1, o, T, ht, hf, hl, hd => by
    simp only [canon]
    exact canon_at g t fl r _ k o T (by cases o'.dst <;> simpa [Act.put] using ht) (by simpa using hf) (by simpa using hl) hd
  | false :: fl, (o', T') :: r, a, 0, o, T, _, hf, _, _ => by simp at hf
  | false :: fl, (o', T') :: r, a, k + 1, o, T, ht, hf, hl, hd => by
    simp only [canon]
    exact canon_at g t fl r _ k o T ht (by simpa using hf) (by simpa using hl) hd
  | [], l, a, k, _, _, _, hf, _, _ => by simp at hf
  | _ :: fl, [], a, k, _, _, _, _, hl, _ => by simp at hl
theorem Fin.at_ {w : World} {K : Act → Prop} (g : Nat → Value) : ∀ (l : List (Oper × Ty)) (a : Act), Fin w K l a →
    (∀ p ∈ l, p.2 ((p.1.dst.map g).getD undef) w) → K (canon (l.map fun _ => true) l g a)
  | [], a, h, _ => h
  | (o, T) :: r, a, h, hT => by
    simp only [Fin] at h
    simp only [List.map_cons, canon]
    exact Fin.at_ g r _ (h _ (hT _ (List.mem_cons_self ..))) fun p hp => hT p (List.mem_cons_of_mem _ hp)
theorem canon_defers (g : Nat → Value) : ∀ (fl : List Bool) (l : List (Oper × Ty)) (a : Act), (canon fl l g a).defers = a.defers
  | true :: fl, (o, T) :: r, a => by
    simp only [canon]
    rw [canon_defers g fl r]
    cases o.dst <;> simp [Act.put]
  | false :: fl, (o, T) :: r, a => by simp only [canon]; exact canon_defers g fl r a
  | [], l, a => by cases l <;> simp [canon]
  | true :: fl, [], a => by simp [canon]
  | false :: fl, [], a => by simp [canon]
theorem Stage.all {ops : Array Oper} {a0 : Act} {w0 : World} {K : Act → World → Prop} : ∀ (todo : List Oper) (done : List (Oper × Ty)), Stage P ops R a0 w0 K done todo →
    ∃ rest : List (Oper × Ty), rest.map (·.1) = todo ∧ (∀ p ∈ rest, Keeps R p.2) ∧ (∀ w', R w0 w' → Fin w' (fun a => K a w') (done ++ rest) a0) ∧
      ∀ i o T, rest[i]? = some (o, T) → ∃ fl : List Bool, flagsOk ops (done.length + i) o fl = true ∧ ∀ w1, R w0 w1 → Given w1 (fun a => wpList P ops (Post R T o a w1) [o] a w1) fl (done ++ rest.take i) a0
  | [], done, h => ⟨[], rfl, by simp, by simpa [Stage] using h, by simp⟩
  | o :: r, done, h => by
    obtain ⟨T, fl, hk, hf, ho, hs⟩ := h
    obtain ⟨rest, h1, h2, h3, h4⟩ := Stage.all r _ hs
    refine ⟨(o, T) :: rest, by simp [h1], ?_, by simpa using h3, ?_⟩
    · intro p hp
      rcases List.mem_cons.1 hp with rfl | hp
      · exact hk
      · exact h2 p hp
    · intro i o' T' hi
      rcases i with _ | i
      · simp only [List.getElem?_cons_zero, Option.some.injEq, Prod.mk.injEq] at hi
        obtain ⟨rfl, rfl⟩ := hi
        exact ⟨fl, by simpa using hf, by simpa using ho⟩
      · obtain ⟨fl', hf', ho'⟩ := h4 i o' T' (by simpa using hi)
        refine ⟨fl', ?_, ?_⟩
        · simpa [Nat.add_assoc, Nat.add_comm 1 i] using hf'
        · simpa using ho'
structure Midway (R : World → World → Prop) (full : List (Oper × Ty)) (a0 : Act) (w0 : World) (listed : Array Bool) (a : Act) (w : World) : Prop where
  world : R w0 w
  defers : a.defers = a0.defers
  size : a.tmps.size = a0.tmps.size
  lsize : listed.size = full.length
  other : ∀ t, (∀ p ∈ full, p.1.dst ≠ some t) → a.tmps[t]? = a0.tmps[t]?
  done : ∀ (k : Nat) (o : Oper) (T : Ty), full[k]? = some (o, T) → listed.getD k false = true → T (dstVal o a) w
theorem getD_of_lt {listed : Array Bool} {i : Nat} (h : i < listed.size) (x y : Bool) : listed.getD i x = listed.getD i y := by
  simp [Array.getD, h]
theorem any_typed {ops : Array Oper} {full : List (Oper × Ty)} {a0 : Act} {w0 : World} (hR : Steady R) (hops : ops = (full.map (·.1)).toArray)
    (hok : regionOk a0.tmps.size (full.map (·.1)) = true) (hkeep : ∀ p ∈ full, Keeps R p.2)
    (hobl : ∀ i o T, full[i]? = some (o, T) → ∃ fl : List Bool, flagsOk ops i o fl = true ∧ ∀ w1, R w0 w1 → Given w1 (fun a => wpList P ops (Post R T o a w1) [o] a w1) fl (full.take i) a0)
    (hfin : ∀ w', R w0 w' → Fin w' (fun a => Q .normal a w') full a0) :
    ∀ (fuel : Nat) (listed : Array Bool) (a : Act) (w : World), Midway R full a0 w0 listed a w → full.length ≤ fuel + listed.toList.count true → wpAny P .any ops Q fuel listed a w := by
  simp only [regionOk, Bool.and_eq_true] at hok
  obtain ⟨⟨hdist, hall⟩, hback⟩ := hok
  have hdst : ∀ (k j : Nat) (o o' : Oper) (T T' : Ty) (d : Tmp), full[k]? = some (o, T) → full[j]? = some (o', T') → o.dst = some d → o'.dst = some d → k = j := by
    intro k j o o' T T' d hk hj hd hd'
    exact distinct_spec _ hdist k j o o' d (by simp [hk]) (by simp [hj]) hd hd'
  have hgood : ∀ (k : Nat) (o : Oper) (T : Ty), full[k]? = some (o, T) → goodOp o = true ∧ ∀ d, o.dst = some d → d < a0.tmps.size := by
    intro k o T hk
    have h1 := List.all_eq_true.1 hall o (List.mem_map.2 ⟨(o, T), List.mem_of_getElem? hk, rfl⟩)
    simp only [Bool.and_eq_true] at h1
    refine ⟨h1.1, fun d hd => ?_⟩
    have h2 := h1.2
    rw [hd] at h2
    simpa using h2
  have hedge : ∀ (k : Nat) (o : Oper) (T : Ty), full[k]? = some (o, T) → ∀ e ∈ o.after, Region.binds .any e = true → e.on < k := by
    intro k o T hk e he hb
    have hm : (o, k) ∈ (full.map (·.1)).zipIdx := by
      rw [List.mem_zipIdx_iff_getElem?]
      simp [hk]
    have h1 := List.all_eq_true.1 hback (o, k) hm
    have h2 := Array.all_eq_true_iff_forall_mem.1 h1 e he
    simpa [hb] using h2
  have hopsk : ∀ (k : Nat) (o : Oper) (T : Ty), full[k]? = some (o, T) → ops[k]? = some o := by
    intro k o T hk
    subst hops
    simp [hk]
  have hopsk' : ∀ (k : Nat) (o : Oper), ops[k]? = some o → ∃ T, full[k]? = some (o, T) := by
    intro k o hk
    subst hops
    simp only [List.getElem?_toArray, List.getElem?_map, Option.map_eq_some_iff] at hk
    obtain ⟨⟨o', T⟩, h1, h2⟩ := hk
    simp only at h2
    subst h2
    exact ⟨T, h1⟩
  have fin : ∀ (listed : Array Bool) (a : Act) (w : World), Midway R full a0 w0 listed a w → (∀ k, k < full.length → listed.getD k false = true) → Q .normal a w := by
    intro listed a w hm hl
    let g : Nat → Value := fun t => a.tmps.getD t undef
    have hT : ∀ p ∈ full, p.2 ((p.1.dst.map g).getD undef) w := by
      rintro ⟨o, T⟩ hp
      obtain ⟨k, hk⟩ := List.mem_iff_getElem?.1 hp
      have hlt : k < full.length := (List.getElem?_eq_some_iff.1 hk).1
      have := hm.done k o T hk (hl k hlt)
      unfold dstVal at this
      cases hd : o.dst with
      | none => simpa [hd] using this
      | some d => simpa [hd, g] using this
    have h1 := Fin.at_ g full a0 (hfin w hm.world) hT
    have e : canon (full.map fun _ => true) full g a0 = a := by
      have htm : (canon (full.map fun _ => true) full g a0).tmps = a.tmps := by
        refine Array.ext_getElem? fun t => ?_
        by_cases hex : ∃ (k : Nat) (o : Oper) (T : Ty), full[k]? = some (o, T) ∧ o.dst = some t
        · obtain ⟨k, o, T, hk, hd⟩ := hex
          have hlt := (hgood k o T hk).2 t hd
          have hkl : k < full.length := (List.getElem?_eq_some_iff.1 hk).1
          rw [canon_at g t _ full a0 k o T hlt (by simp [List.getElem?_map, hk]) hk hd]
          have hlt' : t < a.tmps.size := by rw [hm.size]; exact hlt
          simp [g, Array.getD, hlt']
        · rw [canon_other g t _ full a0, hm.other t]
          · rintro ⟨o, T⟩ hp hd
            obtain ⟨k, hk⟩ := List.mem_iff_getElem?.1 hp
            exact hex ⟨k, o, T, hk, hd⟩
          · rintro ⟨o, T⟩ hp hd
            obtain ⟨k, hk⟩ := List.mem_iff_getElem?.1 hp
            exact hex ⟨k, o, T, hk, hd⟩
      have hdf : (canon (full.map fun _ => true) full g a0).defers = a.defers := by rw [canon_defers, hm.defers]
      generalize canon (full.map fun _ => true) full g a0 = c at *
      cases c
      cases a
      simp only at htm hdf
      subst htm
      subst hdf
      rfl
    rw [e] at h1
    exact h1
  have ready_nil : ∀ (listed : Array Bool), listed.size = full.length → Region.ready .any ops listed = [] → ∀ k, k < full.length → listed.getD k false = true := by
    intro listed hls hr k
    induction k using Nat.strongRecOn with
    | _ k ih =>
      intro hk
      cases hc : listed.getD k false with
      | true => rfl
      | false =>
        exfalso
        obtain ⟨p, hp⟩ : ∃ p, full[k]? = some p := ⟨_, List.getElem?_eq_getElem hk⟩
        obtain ⟨o, T⟩ := p
        have : k ∈ Region.ready .any ops listed := by
          rw [mem_ready]
          refine ⟨by rw [getD_of_lt (by omega) true false]; exact hc, o, hopsk k o T hp, fun e he hb => ?_⟩
          have := hedge k o T hp e he hb
          exact ih e.on this (by omega)
        rw [hr] at this
        cases this
  have step : ∀ (listed : Array Bool) (a : Act) (w : World) (K : Act → World → Prop) (i : Nat), Midway R full a0 w0 listed a w → i ∈ Region.ready .any ops listed →
      (∀ a' w', Midway R full a0 w0 (listed.setIfInBounds i true) a' w' → K a' w') → wpOp P ops Q i K a w := by
    intro listed a w K i hm hi hK
    obtain ⟨hun, o, ho, hedges⟩ := mem_ready.1 hi
    obtain ⟨T, hiT⟩ := hopsk' i o ho
    obtain ⟨fl, hfl, hob⟩ := hobl i o T hiT
    have hil : i < full.length := (List.getElem?_eq_some_iff.1 hiT).1
    simp only [flagsOk, Bool.and_eq_true] at hfl
    obtain ⟨hlooks, hflag⟩ := hfl
    let g : Nat → Value := fun t => a.tmps.getD t undef
    have hflags : ∀ k, fl.getD k false = true → listed.getD k false = true := by
      intro k hk
      have hk' : fl[k]? = some true := by
        cases hc : fl[k]? with
        | none => simp [List.getD, hc] at hk
        | some b => simp only [List.getD, hc, Option.getD_some] at hk; rw [hk]
      have hmem : (true, k) ∈ fl.zipIdx := by rw [List.mem_zipIdx_iff_getElem?]; exact hk'
      have h1 := List.all_eq_true.1 hflag (true, k) hmem
      simp only [Bool.not_true, Bool.false_or] at h1
      obtain ⟨j, hj, h2⟩ := Array.any_eq_true.1 h1
      simp only [Bool.and_eq_true, beq_iff_eq] at h2
      have := hedges o.after[j] (Array.getElem_mem hj) h2.1
      rw [h2.2] at this
      exact this
    have hgiven := Given.at_ g fl (full.take i) a0 (hob w hm.world) (by
      intro k o' T' hk hl
      have hl' : full[k]? = some (o', T') := by
        rw [List.getElem?_take] at hl
        split at hl
        · exact hl
        · cases hl
      have h1 := hm.done k o' T' hl' (hflags k hk)
      unfold dstVal at h1
      cases hd : o'.dst with
      | none => simpa [hd] using h1
      | some d => simpa [hd, g] using h1)
    have hslot : ∀ t ∈ o.looksAt ops, a.tmps[t]? = (canon fl (full.take i) g a0).tmps[t]? := by
      intro t ht
      have h1 := List.all_eq_true.1 hlooks t ht
      by_cases hex : ∃ (k : Nat) (o' : Oper) (T' : Ty), full[k]? = some (o', T') ∧ o'.dst = some t
      · obtain ⟨k, o', T', hk, hd⟩ := hex
        have hmem : (o', k) ∈ ops.toList.zipIdx := by
          rw [List.mem_zipIdx_iff_getElem?]
          simpa using hopsk k o' T' hk
        have h2 := List.all_eq_true.1 h1 (o', k) hmem
        simp only [hd, bne_self_eq_false, Bool.false_or, Bool.and_eq_true, decide_eq_true_eq] at h2
        have hlt := (hgood k o' T' hk).2 t hd
        rw [canon_at g t fl (full.take i) a0 k o' T' hlt h2.1 (by rw [List.getElem?_take, if_pos h2.2]; exact hk) hd]
        have hlt' : t < a.tmps.size := by rw [hm.size]; exact hlt
        simp [g, Array.getD, hlt']
      · have hno : ∀ p ∈ full, p.1.dst ≠ some t := by
          rintro ⟨o', T'⟩ hp hd
          obtain ⟨k, hk⟩ := List.mem_iff_getElem?.1 hp
          exact hex ⟨k, o', T', hk, hd⟩
        rw [canon_other g t fl (full.take i) a0 fun p hp => hno p (List.mem_of_mem_take hp), hm.other t hno]
    have hgo := hgood i o T hiT
    have hnosel : ∀ cs b, o.op ≠ .select cs b := by
      intro cs b h
      have h1 := hgo.1
      simp [goodOp, h] at h1
    have hexec : execOp a.eval o = execOp (canon fl (full.take i) g a0).eval o := by
      refine execOp_congr o hnosel fun x hx => ?_
      cases x with
      | tmp t =>
        have ht : t ∈ o.looksAt ops := List.mem_append_left _ (List.mem_filterMap.2 ⟨.tmp t, by simpa using hx, rfl⟩)
        have h1 := hslot t ht
        simp only [Act.eval]
        simp only [Array.getD_eq_getD_getElem?, h1]
      | const v => rfl
      | global v => rfl
      | func f => rfl
    have hwant : Region.wanted o (yielded ops a.tmps) = Region.wanted o (yielded ops (canon fl (full.take i) g a0).tmps) := by
      unfold Region.wanted
      cases hg : o.guard with
      | none => rfl
      | some gw =>
        obtain ⟨gi, want⟩ := gw
        have : yielded ops a.tmps gi = yielded ops (canon fl (full.take i) g a0).tmps gi := by
          unfold yielded
          cases ht : (ops[gi]?).bind (·.dst) with
          | none => rfl
          | some t =>
            have hin : t ∈ o.looksAt ops := List.mem_append_right _ (by simp [hg, ht])
            have h1 := hslot t hin
            simp [h1]
        simp only [this]
    unfold wpOp
    simp only [ho]
    refine upon_transfer hexec hwant (fun d hd => by rw [canon_size]; exact hgo.2 d hd) hgiven fun v w' hww hTv => hK _ _ ?_
    refine ⟨hR.trans _ _ _ hm.world hww, ?_, ?_, by simpa using hm.lsize, ?_, ?_⟩
    · rw [← hm.defers]; cases o.dst <;> simp [Act.put]
    · rw [← hm.size]; cases o.dst <;> simp [Act.put]
    · intro t hno
      rw [← hm.other t hno]
      have h0 := hno (o, T) (List.mem_of_getElem? hiT)
      cases hd : o.dst with
      | none => simp [Act.put]
      | some d =>
        have : d ≠ t := fun e => h0 (by simp [hd, e])
        simp [Act.put, Array.getElem?_setIfInBounds_ne this]
    · intro k o' T' hk hlk
      by_cases hki : k = i
      · subst hki
        rw [hiT] at hk
        simp only [Option.some.injEq, Prod.mk.injEq] at hk
        obtain ⟨rfl, rfl⟩ := hk
        unfold dstVal
        cases hd : o.dst with
        | none => simpa [hd] using hTv
        | some d =>
          have hlt : d < a.tmps.size := by rw [hm.size]; exact hgo.2 d hd
          rw [hd] at hTv
          simpa [Act.put, hlt] using hTv
      · rw [getD_set_ne false (Ne.symm hki)] at hlk
        have h1 := hkeep (o', T') (List.mem_of_getElem? hk) _ _ _ hww (hm.done k o' T' hk hlk)
        have e : dstVal o' (a.put o.dst v) = dstVal o' a := by
          unfold dstVal
          cases hd' : o'.dst with
          | none => rfl
          | some d' =>
            cases hd : o.dst with
            | none => rfl
            | some d =>
              have hne : d ≠ d' := fun e => hki (hdst k i o' o T' T d' hk hiT hd' (by rw [hd, e]))
              simp [Act.put, Array.getElem?_setIfInBounds_ne hne]
        rw [e]
        exact h1
  intro fuel
  induction fuel with
  | zero =>
    intro listed a w hm hcount
    have hall' : ∀ k, k < full.length → listed.getD k false = true := by
      intro k hk
      have hlen : listed.toList.length = full.length := by simpa using hm.lsize
      have hc : listed.toList.count true = listed.toList.length := by
        have := List.count_le_length (a := true) (l := listed.toList)
        omega
      have := List.count_eq_length.1 hc
      have hk' : k < listed.size := by rw [hm.lsize]; exact hk
      have h2 := this listed[k] (by simp)
      simp [Array.getD, hk', ← h2]
    refine ⟨?_, fin listed a w hm hall'⟩
    rw [List.eq_nil_iff_forall_not_mem]
    intro i hi
    obtain ⟨hun, o, ho, _⟩ := mem_ready.1 hi
    obtain ⟨T, hiT⟩ := hopsk' i o ho
    have hil : i < full.length := (List.getElem?_eq_some_iff.1 hiT).1
    have h1 := hall' i hil
    rw [getD_of_lt (by rw [hm.lsize]; exact hil) false true, hun] at h1
    cases h1
  | succ fuel ih =>
    intro listed a w hm hcount
    refine ⟨fun h0 => fin listed a w hm (ready_nil listed hm.lsize h0), fun i hi => ?_⟩
    refine step listed a w _ i hm hi fun a' w' hm' => ih _ _ _ hm' ?_
    obtain ⟨hun, o, ho, _⟩ := mem_ready.1 hi
    obtain ⟨T, hiT⟩ := hopsk' i o ho
    have hil : i < full.length := (List.getElem?_eq_some_iff.1 hiT).1
    have hil' : i < listed.size := by rw [hm.lsize]; exact hil
    have hf : listed[i] = false := by simpa [Array.getD, hil'] using hun
    have hset : (listed.setIfInBounds i true).toList = listed.toList.set i true := by simp
    rw [hset, List.count_set (by simpa using hil')]
    have hf' : listed.toList[i]'(by simpa using hil') = false := by simpa using hf
    simp only [hf']
    simp
    have hc := hcount
    simp only [Array.count_toList] at hc
    omega
theorem wp_region_typed {id : Nat} {l : List Oper} {a0 : Act} {w0 : World} (hR : Steady R) (hm : P.follows .mixedOrders = true) (n : Nat) (hn : a0.tmps.size = n) (hok : regionOk n l = true)
    (h : Stage P l.toArray R a0 w0 (Q .normal) [] l) : (Code.region id l.toArray true).wp P Q a0 w0 := by
  obtain ⟨rest, h1, h2, h3, h4⟩ := Stage.all l [] h
  subst h1
  subst hn
  refine wp_region_any hm ?_
  refine any_typed (full := rest) (a0 := a0) (w0 := w0) hR rfl hok h2 (by simpa using h4) (by simpa using h3) _ _ _ _ ⟨hR.drew w0, rfl, rfl, by simp, fun _ _ => rfl, ?_⟩ (by simp)
  intro k o T hk hl
  have hlt : k < rest.length := (List.getElem?_eq_some_iff.1 hk).1
  simp [Array.getD, hlt] at hl
end
attribute [irreducible] Stage Given Fin
end Go.Proofs.Ytoeknbogaclfdaa

namespace Go.Proofs.Ytoeknbogaclfdaa
open Go.RowKit
set_option linter.unusedVariables false
def Ext (w w' : World) : Prop := Below w.heap.size w w'
theorem Ext.refl (w : World) : Ext w w := Below.refl _ _
theorem Ext.trans {a b c : World} (h : Ext a b) (k : Ext b c) : Ext a c := Below.trans h (k.mono h.size)
theorem Ext.size {a b : World} (h : Ext a b) : a.heap.size ≤ b.heap.size := Below.size h
theorem Ext.drew (w : World) : Ext w w.drew := (Below.refl _ _).drew
theorem Ext.alloc (w : World) (o : Obj) : Ext w (w.alloc o) := (Below.refl _ _).alloc (Nat.le_refl _) o
theorem Ext.cell {a b : World} (h : Ext a b) {p : Addr} {u : Value} (hc : a.cell? p = some u) : b.cell? p = some u :=
  (Below.cell h (World.block_lt_of_cell? a p hc)).trans hc
theorem Ext.steady : Steady Ext := ⟨Ext.refl, fun _ _ _ => Ext.trans, fun w => Ext.drew w⟩
abbrev bv (b : UInt8) : Value := .int .u8 (b.toNat : Int)
def Rd (w : World) (size : Nat) (A : Option Addr) (n : Nat) (xs : List Value) : Prop :=
  xs.length = n * size ∧ (0 < n → ∃ ad, A = some ad ∧ ∀ j u, xs[j]? = some u → w.cell? (ad.add j) = some u)
theorem Rd.keep {w w' : World} {size n : Nat} {A : Option Addr} {xs : List Value} (h : Rd w size A n xs) (hk : ∀ p u, w.cell? p = some u → w'.cell? p = some u) : Rd w' size A n xs :=
  ⟨h.1, fun hn => by obtain ⟨ad, e, hc⟩ := h.2 hn; exact ⟨ad, e, fun j u hu => hk _ _ (hc j u hu)⟩⟩
theorem Rd.ext {w w' : World} {size n : Nat} {A : Option Addr} {xs : List Value} (h : Rd w size A n xs) (hk : Ext w w') : Rd w' size A n xs := h.keep fun _ _ hc => hk.cell hc
structure Sl (w : World) (A : Option Addr) (n c : Nat) (l : List UInt8) : Prop where
  len : l.length = n
  cap : n ≤ c
  max : c ≤ maxLen
  rd : Rd w 1 A n (l.map bv)
theorem Sl.ext {w w' : World} {A : Option Addr} {n c : Nat} {l : List UInt8} (h : Sl w A n c l) (hk : Ext w w') : Sl w' A n c l := ⟨h.len, h.cap, h.max, h.rd.ext hk⟩
theorem Sl.nil (w : World) : Sl w none 0 0 [] := ⟨rfl, Nat.le_refl _, Nat.zero_le _, by simp, fun h => by omega⟩
theorem Sl.n63 {w : World} {A : Option Addr} {n c : Nat} {l : List UInt8} (h : Sl w A n c l) : n ≤ 9223372036854775807 ∧ c ≤ 9223372036854775807 := by
  have h1 := h.cap
  have h2 := h.max
  unfold maxLen at h2
  omega
theorem Sl.at_ {w : World} {A : Option Addr} {n c k : Nat} {l : List UInt8} (h : Sl w A n c l) (hk : k < n) : ∃ ad, A = some ad ∧ w.cell? (ad.add k) = some (.int .u8 ((l[k]'(by rw [h.len]; exact hk)).toNat : Int)) := by
  obtain ⟨ad, e, hc⟩ := h.rd.2 (by omega)
  exact ⟨ad, e, hc k _ (by rw [List.getElem?_map, List.getElem?_eq_getElem (by rw [h.len]; exact hk)]; rfl)⟩
theorem Sl.atD {w : World} {A : Option Addr} {n c k : Nat} {l : List UInt8} (h : Sl w A n c l) (hk : k < n) : ∃ ad, A = some ad ∧ w.cell? (ad.add k) = some (.int .u8 ((l.getD k 0).toNat : Int)) := by
  obtain ⟨ad, e, hc⟩ := h.at_ hk
  refine ⟨ad, e, ?_⟩
  rw [hc, List.getD_eq_getElem?_getD, List.getElem?_eq_getElem (by rw [h.len]; exact hk)]
  rfl
theorem block_of_add (a : Addr) (n : Nat) : (a.add n).block = a.block := by unfold Addr.add; split <;> rfl
theorem add_of_add (a : Addr) (i j : Nat) : (a.add i).add j = a.add (i + j) := by
  unfold Addr.add
  by_cases hi : i = 0 <;> by_cases hj : j = 0 <;> simp [hi, hj, Nat.add_assoc]
theorem Sl.cut {w : World} {A : Option Addr} {n c lo hi : Nat} {l : List UInt8} (h : Sl w A n c l) (h1 : lo ≤ hi) (h2 : hi ≤ n) :
    Sl w (if c = lo then A else A.map (·.add (lo * 1))) (hi - lo) (c - lo) ((l.drop lo).take (hi - lo)) := by
  have hl := h.len
  refine ⟨by simp; omega, by have := h.cap; omega, by have := h.max; omega, by simp; omega, fun hn => ?_⟩
  obtain ⟨ad, rfl, hc⟩ := h.rd.2 (by omega)
  have hcap := h.cap
  rw [if_neg (by omega)]
  refine ⟨ad.add (lo * 1), rfl, fun j u hu => ?_⟩
  rw [add_of_add]
  refine hc _ u ?_
  rw [List.getElem?_map, List.getElem?_take] at hu
  rw [List.getElem?_map]
  split at hu
  · rw [List.getElem?_drop] at hu
    simpa using hu
  · simp at hu
theorem Sl.upto {w : World} {A : Option Addr} {n c hi : Nat} {l : List UInt8} (h : Sl w A n c l) (h2 : hi ≤ n) : Sl w A hi c (l.take hi) := by
  have hl := h.len
  refine ⟨by simp; omega, Nat.le_trans h2 h.cap, h.max, by simp; omega, fun hn => ?_⟩
  obtain ⟨ad, rfl, hc⟩ := h.rd.2 (by omega)
  refine ⟨ad, rfl, fun j u hu => hc j u ?_⟩
  rw [List.getElem?_map, List.getElem?_take] at hu
  rw [List.getElem?_map]
  split at hu
  · exact hu
  · simp at hu
theorem run_text {P : Program} {w : World} {A : Option Addr} {n c : Nat} {l : List UInt8} (h : Sl w A n c l) (src dst e : TypeId) (hs : P.underlying src = some (.slice e)) (he : P.underlying e = some (.int .u8)) (hd : P.underlying dst = some .string) :
    (convert src dst (.slice A n c)).run P w = .ok (.string ⟨l.toArray⟩) w := by
  have hl := h.len
  subst hl
  rcases Nat.eq_zero_or_pos l.length with h0 | h0
  · have : l = [] := List.eq_nil_of_length_eq_zero h0
    subst this
    cases A with
    | none => exact run_convert_bytes_nil (P := P) w src e hs he 0 c dst hd
    | some ad => exact run_convert_bytes_back (P := P) w src dst e ad c [] hs he hd (by intro j hj; simp at hj)
  · obtain ⟨ad, rfl, hc⟩ := h.rd.2 h0
    exact run_convert_bytes_back (P := P) w src dst e ad c l hs he hd (fun j hj => hc j _ (by rw [List.getElem?_map, List.getElem?_eq_getElem hj]; rfl))
theorem Rd.src {P : Program} {w : World} {size n : Nat} {A : Option Addr} {xs : List Value} (h : Rd w size A n xs) (c : Nat) {tx e' : TypeId} (hk : P.underlying tx = some (.slice e')) (h1 : ∀ u ∈ xs, u.oneCell' = true) :
    Src P size tx (.slice A n c) n xs w := by
  cases A with
  | none =>
    have hn : n = 0 := by
      rcases Nat.eq_zero_or_pos n with h0 | h0
      · exact h0
      · obtain ⟨ad, e, _⟩ := h.2 h0; cases e
    subst hn
    have hx : xs = [] := List.eq_nil_of_length_eq_zero (by simpa using h.1)
    subst hx
    exact Src.ofNil (P := P) w hk c
  | some ad =>
    refine Src.ofSlice (P := P) w hk ad n c xs h.1 (fun j u hu => ?_) h1
    rcases Nat.eq_zero_or_pos n with h0 | h0
    · subst h0
      have hx : xs = [] := List.eq_nil_of_length_eq_zero (by simpa using h.1)
      subst hx
      simp at hu
    · obtain ⟨ad', e, hc⟩ := h.2 h0
      injection e with e
      subst e
      exact hc j u hu
def Own (w : World) (B : Nat) (e : TypeId) (size : Nat) (A : Option Addr) (n c : Nat) (xs : List Value) : Prop :=
  (c = 0 ∧ n = 0 ∧ xs = []) ∨
  ∃ g cur, A = some ⟨g, 0, none⟩ ∧ B ≤ g ∧ w.heap[g]? = some (.cells cur e (0, 0)) ∧ n ≤ c ∧ c ≤ maxLen ∧ cur.size = c * size ∧ xs.length = n * size ∧ cur.toList.take (n * size) = xs
def rowOf (A : Option Addr) (c : Nat) : Option Nat := if c = 0 then none else A.map (·.block)
section
variable {w w' : World} {B : Nat} {e : TypeId} {size n c : Nat} {A : Option Addr} {xs : List Value}
theorem Own.nil (w : World) (B : Nat) (e : TypeId) (size : Nat) (A : Option Addr) : Own w B e size A 0 0 [] := .inl ⟨rfl, rfl, rfl⟩
theorem Own.made (w : World) (B : Nat) (e : TypeId) (size : Nat) (cur : Array Value) (n c : Nat) (hB : B ≤ w.heap.size) (hn : n ≤ c) (hc : c ≤ maxLen) (hs : cur.size = c * size) :
    Own (w.alloc (.cells cur e)) B e size (some ⟨w.heap.size, 0, none⟩) n c (cur.toList.take (n * size)) :=
  .inr ⟨w.heap.size, cur, rfl, hB, heap_alloc_new w _, hn, hc, hs, by have := Nat.mul_le_mul_right size hn; rw [List.length_take, Array.length_toList, hs]; omega, rfl⟩
theorem Own.length (h : Own w B e size A n c xs) : xs.length = n * size := by
  rcases h with ⟨_, rfl, rfl⟩ | ⟨_, _, _, _, _, _, _, _, h, _⟩
  · simp
  · exact h
theorem Own.caps (h : Own w B e size A n c xs) : n ≤ c ∧ c ≤ maxLen := by
  rcases h with ⟨rfl, rfl, rfl⟩ | ⟨_, _, _, _, _, h1, h2, _⟩
  · exact ⟨Nat.le_refl _, Nat.zero_le _⟩
  · exact ⟨h1, h2⟩
theorem Own.row_ge (h : Own w B e size A n c xs) : ∀ k, rowOf A c = some k → B ≤ k ∧ k < w.heap.size := by
  intro k hk
  unfold rowOf at hk
  split at hk
  · cases hk
  · rename_i h0
    rcases h with ⟨rfl, _⟩ | ⟨g, cur, rfl, hB, hg, _⟩
    · exact absurd rfl h0
    · simp at hk
      subst hk
      exact ⟨hB, (Array.getElem?_eq_some_iff.1 hg).1⟩
theorem Own.keepBlock (h : Own w B e size A n c xs) (hk : ∀ g, rowOf A c = some g → w'.heap[g]? = w.heap[g]?) : Own w' B e size A n c xs := by
  rcases h with h | ⟨g, cur, rfl, hB, hg, h1, h2, h3⟩
  · exact .inl h
  · by_cases h0 : c = 0
    · subst h0
      obtain rfl : n = 0 := by omega
      exact .inl ⟨rfl, rfl, List.eq_nil_of_length_eq_zero (by simpa using h3.2.1)⟩
    · exact .inr ⟨g, cur, rfl, hB, by rw [hk g (by simp [rowOf, h0])]; exact hg, h1, h2, h3⟩
theorem Own.ext (h : Own w B e size A n c xs) (hk : Ext w w') : Own w' B e size A n c xs :=
  h.keepBlock fun g hg => Below.block hk g (h.row_ge g hg).2
theorem Own.grown (h : Own w B e size A n c xs) {row : Option Nat} (hk : w.grownBy w' row) (hne : ∀ g, rowOf A c = some g → some g ≠ row) : Own w' B e size A n c xs :=
  h.keepBlock fun g hg => hk.block g (h.row_ge g hg).2 (hne g hg)
theorem Own.alloc (h : Own w B e size A n c xs) (o : Obj) : Own (w.alloc o) B e size A n c xs := h.ext (Ext.alloc w o)
theorem Own.drew (h : Own w B e size A n c xs) : Own w.drew B e size A n c xs := h.ext (Ext.drew w)
theorem Own.low {B' : Nat} (h : Own w B e size A n c xs) (hB : B' ≤ B) : Own w B' e size A n c xs := by
  rcases h with h | ⟨g, cur, h1, h2, h3⟩
  · exact .inl h
  · exact .inr ⟨g, cur, h1, Nat.le_trans hB h2, h3⟩
theorem Own.rd (h : Own w B e size A n c xs) : Rd w size A n xs := by
  refine ⟨h.length, fun hn => ?_⟩
  rcases h with ⟨_, rfl, _⟩ | ⟨g, cur, rfl, hB, hg, h1, h2, h3, h4, h5⟩
  · omega
  · refine ⟨_, rfl, fun j u hu => ?_⟩
    have hadd : (⟨g, 0, none⟩ : Addr).add j = ⟨g, j, none⟩ := by unfold Addr.add; split <;> simp_all
    rw [hadd, cell_of_row w g j cur e (0, 0) hg]
    rw [← h5, List.getElem?_take] at hu
    split at hu
    · simpa using hu
    · cases hu
end
theorem Own.open_ {w : World} {B : Nat} {e : TypeId} {n c : Nat} {A : Option Addr} {xs : List Value} (h : Own w B e 1 A n c xs) (hn : 0 < n) :
    ∃ g, A = some ⟨g, 0, none⟩ ∧ B ≤ g ∧ g < w.heap.size ∧ (∀ k u, xs[k]? = some u → w.cell? ⟨g, k, none⟩ = some u) ∧ ∀ k, w.frozen? ⟨g, k, none⟩ = false := by
  have hr := h.rd.2 hn
  rcases h with ⟨_, rfl, _⟩ | ⟨g, cur, rfl, hB, hg, h1, h2, h3, h4, h5⟩
  · omega
  · refine ⟨g, rfl, hB, (Array.getElem?_eq_some_iff.1 hg).1, fun k u hu => ?_, fun k => by simp [World.frozen?, hg]⟩
    rw [cell_of_row w g k cur e (0, 0) hg]
    rw [← h5, List.getElem?_take] at hu
    split at hu
    · simpa using hu
    · cases hu
theorem Own.far {w : World} {B : Nat} {e : TypeId} {size n c : Nat} {A : Option Addr} {xs : List Value} (h : Own w B e size A n c xs) {p : Addr} (hp : ∀ g, rowOf A c = some g → g ≠ p.block) (u : Value) : Own (w.setCell p u) B e size A n c xs :=
  h.keepBlock fun g hg => Below.heap_setCell w p u g (hp g hg)
theorem setCells_row (w : World) (g : Nat) (cur : Array Value) (e : TypeId) (off : Nat) : ∀ (news : List Value), w.heap[g]? = some (.cells cur e (0, 0)) → off + news.length ≤ cur.size →
    ∃ cur', (w.setCells g off news).heap[g]? = some (.cells cur' e (0, 0)) ∧ cur'.size = cur.size ∧ cur'.toList.take (off + news.length) = cur.toList.take off ++ news ∧ w.grownBy (w.setCells g off news) (some g) := by
  intro news
  induction news generalizing w cur off with
  | nil => intro hg _; exact ⟨cur, hg, rfl, by simp, ⟨rfl, rfl, rfl, Nat.le_refl _, fun _ _ _ => rfl⟩⟩
  | cons v r ih =>
    intro hg hl
    simp only [List.length_cons] at hl
    have hg1 : (w.setCell ⟨g, off, none⟩ v).heap[g]? = some (.cells (cur.setIfInBounds off v) e (0, 0)) := by
      simp [World.setCell, Array.getElem?_modify, hg]
    obtain ⟨cur', h1, h2, h3, h4⟩ := ih (w.setCell ⟨g, off, none⟩ v) (cur.setIfInBounds off v) (off + 1) hg1 (by simp; omega)
    refine ⟨cur', by simpa [World.setCells] using h1, by simpa using h2, ?_, ?_⟩
    · rw [show off + (v :: r).length = off + 1 + r.length by simp; omega, h3]
      have : (cur.setIfInBounds off v).toList.take (off + 1) = cur.toList.take off ++ [v] := by
        rw [Array.toList_setIfInBounds]
        rw [List.take_succ_eq_append_getElem (by simp; omega)]
        simp [List.take_set_of_le]
      rw [this]
      simp
    · have hs : w.grownBy (w.setCell ⟨g, off, none⟩ v) (some g) := ⟨rfl, rfl, rfl, by simp [World.setCell], fun k _ hk => Below.heap_setCell w _ v k (fun e => hk (by rw [e]))⟩
      have h4' : (w.setCell ⟨g, off, none⟩ v).grownBy (w.setCells g off (v :: r)) (some g) := by simpa [World.setCells] using h4
      exact ⟨h4'.os.trans hs.os, h4'.tape.trans hs.tape, h4'.output.trans hs.output, Nat.le_trans hs.size h4'.size, fun k hk hne => (h4'.block k (Nat.lt_of_lt_of_le hk hs.size) hne).trans (hs.block k hk hne)⟩
section
variable {P : Program} (w : World)
theorem run_append_mine (B : Nat) (t tx ty e : TypeId) (i : TypeInfo) (z : Value) (size bytes : Nat) (ht : P.underlying t = some (.slice e)) (hi : P.info? e = some i) (hz : i.zero = some z)
    (hsize : i.size = size) (hby : i.bytes = bytes) (hzs : z.cells.size = size)
    (A : Option Addr) (n c : Nat) (xs : List Value) (hown : Own w B e size A n c xs) (x : Value) (m : Nat) (news : List Value) (hs : Src P size tx x m news w)
    (h63 : n + m ≤ maxLen) (hbytes : (n + m) * bytes ≤ 140737488355328) (hB : B ≤ w.heap.size) :
    ∃ A' c' w', (Builtin.append_ #[t, tx] ty #[.slice A n c, x]).run P w = .ok (.slice A' (n + m) c') w' ∧ Own w' B e size A' (n + m) c' (xs ++ news) ∧ w.grownBy w' (rowOf A c) ∧
      (rowOf A' c' = rowOf A c ∨ rowOf A' c' = some w.heap.size) := by
  subst hsize
  subst hby
  have hlen : (xs ++ news).length = (n + m) * i.size := by rw [List.length_append, hown.length, hs.newsLen, Nat.add_mul]
  by_cases hroom : n + m ≤ c
  · rcases hown with ⟨rfl, rfl, rfl⟩ | ⟨g, cur, rfl, hBg, hg, h1, h2, h3, h4, h5⟩
    · obtain rfl : m = 0 := by omega
      have hn : news = [] := List.eq_nil_of_length_eq_zero (by simpa using hs.newsLen)
      subst hn
      refine ⟨A, 0, w, ?_, .inl ⟨rfl, rfl, rfl⟩, ⟨rfl, rfl, rfl, Nat.le_refl _, fun _ _ _ => rfl⟩, .inl rfl⟩
      have hc := hs.cells
      cases A <;> rcases hs.kind with ⟨e', hk⟩ | hk <;> simp [Builtin.append_, run_underlying ht, run_underlying hk, sizeOf, typeInfo, hi, hs.len, hc, storeCells]
    · have hfit : n * i.size + news.length ≤ cur.size := by rw [hs.newsLen, h3, ← Nat.add_mul]; exact Nat.mul_le_mul_right _ hroom
      have hcell : ∀ j, j < news.length → (w.cell? ⟨g, 0 + n * i.size + j, none⟩).isSome = true := by
        intro j hj
        rw [cell_of_row w g _ cur e (0, 0) hg, Array.getElem?_eq_getElem (by omega)]
        rfl
      have hfr : ∀ j, j < news.length → w.frozen? ⟨g, 0 + n * i.size + j, none⟩ = false := by
        intro j _
        simp [World.frozen?, hg]
      have hr := run_append_room_src (P := P) w t tx ty e i ht hi g 0 n c x m news hs hroom hcell hfr
      obtain ⟨cur', k1, k2, k3, k4⟩ := setCells_row w g cur e (n * i.size) news hg hfit
      simp only [Nat.zero_add] at hr
      refine ⟨_, _, _, hr, .inr ⟨g, cur', rfl, hBg, k1, hroom, h2, by rw [k2, h3], hlen, ?_⟩, ?_, .inl rfl⟩
      · rw [Nat.add_mul, ← hs.newsLen, k3, h5]
      · by_cases h0 : c = 0
        · subst h0
          obtain rfl : m = 0 := by omega
          have hn : news = [] := List.eq_nil_of_length_eq_zero (by simpa using hs.newsLen)
          subst hn
          exact ⟨rfl, rfl, rfl, Nat.le_refl _, fun _ _ _ => rfl⟩
        · simpa [rowOf, h0] using k4
  · have hrd := hown.rd
    have hold : (Builtin.firstCells i.size n (.slice A n c)).run P w.drew = .ok xs.toArray w.drew := by
      rcases Nat.eq_zero_or_pos n with h0 | h0
      · subst h0
        have hx : xs = [] := List.eq_nil_of_length_eq_zero (by simpa using hown.length)
        subst hx
        cases A with
        | none => exact run_firstCells_none w.drew i.size 0 0 c
        | some ad => exact run_firstCells_some w.drew i.size 0 ad 0 c [] (by simp) (by intro j v hj; simp at hj)
      · obtain ⟨ad, rfl, hc⟩ := hrd.2 h0
        exact run_firstCells_some w.drew i.size n ad n c xs hown.length (by simpa using hc)
    have hcn := hown.caps
    have hr := run_append_grow_src (P := P) w t tx ty e i z ht hi hz A n c xs hold x m news hs (by omega) (by simp only [maxLen] at h63; omega) (growslice_fits (by omega) hbytes)
    have hge := grownCap_ge w (n + m) c e
    have hcm : grownCap w (n + m) c e ≤ maxLen := grownCap_le_maxLen w (n + m) c e h63
    have hBd : B ≤ w.drew.heap.size := hB
    refine ⟨_, _, _, hr, .inr ⟨w.heap.size, _, rfl, hB, heap_alloc_new w.drew _, hge, hcm, ?_, hlen, ?_⟩, ⟨rfl, rfl, rfl, by simp, fun k hk _ => Below.heap_alloc w.drew _ k hk⟩, ?_⟩
    · simp only [Array.size_append, List.size_toArray, size_zeroCells, hzs, hlen, ← Nat.add_mul]
      congr 1
      omega
    · simp only [Array.toList_append]
      rw [← hlen]
      exact List.take_left
    · right
      have : grownCap w (n + m) c e ≠ 0 := by omega
      simp [rowOf, this]
theorem wp_append_mine {o : Oper} {a : Act} {K : Act → World → Prop} {Q : Exit → Act → World → Prop} (s y : Operand) (t tx : TypeId)
    (ho : o.op = .call { callee := .builtin .append, args := #[s, y], argTypes := #[t, tx] })
    (B : Nat) (e : TypeId) (i : TypeInfo) (z : Value) (size bytes : Nat) (ht : P.underlying t = some (.slice e)) (hi : P.info? e = some i) (hz : i.zero = some z)
    (hsize : i.size = size) (hby : i.bytes = bytes) (hzs : z.cells.size = size)
    (A : Option Addr) (n c : Nat) (xs : List Value) (hsv : a.eval s = .slice A n c) (hown : Own w B e size A n c xs) (x : Value) (hy : a.eval y = x) (m : Nat) (news : List Value) (hs : Src P size tx x m news w)
    (h63 : n + m ≤ maxLen) (hbytes : (n + m) * bytes ≤ 140737488355328) (hB : B ≤ w.heap.size)
    (h : ∀ A' c' w', Own w' B e size A' (n + m) c' (xs ++ news) → w.grownBy w' (rowOf A c) → (rowOf A' c' = rowOf A c ∨ rowOf A' c' = some w.heap.size) → K (a.put o.dst (.slice A' (n + m) c')) w') : o.wp P a w K Q := by
  obtain ⟨A', c', w', hr, h2, h3, h4⟩ := run_append_mine (P := P) w B t tx o.type e i z size bytes ht hi hz hsize hby hzs A n c xs hown x m news hs h63 hbytes hB
  unfold Oper.wp execOp
  simp only [ho, resolve, invoke, builtin, Sem.run_bind, Sem.run_pure, Result.andThen_ok, List.map_toArray, List.map_cons, List.map_nil, hsv, hy, hr]
  exact h A' c' w' h2 h3 h4
theorem wpList_append_mine {ops : Array Oper} {rest : List Oper} {o : Oper} {a : Act} {Q : Exit → Act → World → Prop} (hgd : o.guard = none) (s y : Operand) (t tx : TypeId)
    (ho : o.op = .call { callee := .builtin .append, args := #[s, y], argTypes := #[t, tx] })
    (B : Nat) (e : TypeId) (i : TypeInfo) (z : Value) (size bytes : Nat) (ht : P.underlying t = some (.slice e)) (hi : P.info? e = some i) (hz : i.zero = some z)
    (hsize : i.size = size) (hby : i.bytes = bytes) (hzs : z.cells.size = size)
    (A : Option Addr) (n c : Nat) (xs : List Value) (hsv : a.eval s = .slice A n c) (hown : Own w B e size A n c xs) (x : Value) (hy : a.eval y = x) (m : Nat) (news : List Value) (hs : Src P size tx x m news w)
    (h63 : n + m ≤ maxLen) (hbytes : (n + m) * bytes ≤ 140737488355328) (hB : B ≤ w.heap.size)
    (h : ∀ A' c' w', Own w' B e size A' (n + m) c' (xs ++ news) → w.grownBy w' (rowOf A c) → (rowOf A' c' = rowOf A c ∨ rowOf A' c' = some w.heap.size) → wpList P ops Q rest (a.put o.dst (.slice A' (n + m) c')) w') : wpList P ops Q (o :: rest) a w :=
  wpList_plain hgd fun _ hK => wp_append_mine w s y t tx ho B e i z size bytes ht hi hz hsize hby hzs A n c xs hsv hown x hy m news hs h63 hbytes hB fun A' c' w' h2 h3 h4 => hK _ _ (h A' c' w' h2 h3 h4)
end
theorem below_grown {a w w' : World} {B : Nat} {A : Option Addr} {c : Nat} {e : TypeId} {size n : Nat} {xs : List Value} (h : Below B a w) (ho : Own w B e size A n c xs) (hg : w.grownBy w' (rowOf A c)) (hB : B ≤ w.heap.size) : Below B a w' :=
  Below.grown h hg hB fun k hk => (ho.row_ge k hk).1
structure Byt (E : TypeId) (w : World) (B : Nat) (A : Option Addr) (n c : Nat) (l : List UInt8) : Prop where
  len : l.length = n
  own : Own w B E 1 A n c (l.map bv)
theorem Byt.sl {E : TypeId} {w : World} {B : Nat} {A : Option Addr} {n c : Nat} {l : List UInt8} (h : Byt E w B A n c l) : Sl w A n c l :=
  ⟨h.len, h.own.caps.1, h.own.caps.2, h.own.rd⟩
theorem Byt.ext {E : TypeId} {w w' : World} {B : Nat} {A : Option Addr} {n c : Nat} {l : List UInt8} (h : Byt E w B A n c l) (hk : Ext w w') : Byt E w' B A n c l := ⟨h.len, h.own.ext hk⟩
theorem Byt.low {E : TypeId} {w : World} {B B' : Nat} {A : Option Addr} {n c : Nat} {l : List UInt8} (h : Byt E w B A n c l) (hB : B' ≤ B) : Byt E w B' A n c l := ⟨h.len, h.own.low hB⟩
theorem Byt.nil (E : TypeId) (w : World) (B : Nat) (A : Option Addr) : Byt E w B A 0 0 [] := ⟨rfl, Own.nil w B E 1 A⟩
theorem Byt.open_ {E : TypeId} {w : World} {B : Nat} {A : Option Addr} {n c : Nat} {l : List UInt8} (h : Byt E w B A n c l) (hn : 0 < n) :
    ∃ g, A = some ⟨g, 0, none⟩ ∧ B ≤ g ∧ g < w.heap.size ∧ ∀ k, k < n → w.cell? ⟨g, k, none⟩ = some (.int .u8 ((l.getD k 0).toNat : Int)) ∧ w.frozen? ⟨g, k, none⟩ = false := by
  obtain ⟨g, h1, h2, h3, h4, h5⟩ := h.own.open_ hn
  refine ⟨g, h1, h2, h3, fun k hk => ⟨h4 k _ ?_, h5 k⟩⟩
  rw [List.getElem?_map, List.getD_eq_getElem?_getD, List.getElem?_eq_getElem (by rw [h.len]; exact hk)]
  rfl
theorem Byt.far {E : TypeId} {w : World} {B : Nat} {A : Option Addr} {n c : Nat} {l : List UInt8} (h : Byt E w B A n c l) {p : Addr} (hp : ∀ g, rowOf A c = some g → g ≠ p.block) (u : Value) : Byt E (w.setCell p u) B A n c l := ⟨h.len, h.own.far hp u⟩
theorem bv_one (l : List UInt8) : ∀ u ∈ l.map bv, u.oneCell' = true := by
  intro u hu
  obtain ⟨b, _, rfl⟩ := List.mem_map.1 hu
  rfl
theorem Sl.src {P : Program} {w : World} {A : Option Addr} {n c : Nat} {l : List UInt8} (h : Sl w A n c l) {tx e' : TypeId} (hk : P.underlying tx = some (.slice e')) : Src P 1 tx (.slice A n c) n (l.map bv) w :=
  h.rd.src c hk (bv_one l)
theorem sl_new (w : World) (cs : Array Value) (e : TypeId) (fr : Nat × Nat) (l : List UInt8) (hcs : cs.toList = l.map bv) (hm : l.length ≤ maxLen) : Sl (w.alloc (.cells cs e fr)) (some ⟨w.heap.size, 0, none⟩) l.length l.length l := by
  refine ⟨rfl, Nat.le_refl _, hm, by simp, fun _ => ⟨_, rfl, fun j u hu => ?_⟩⟩
  have hadd : (⟨w.heap.size, 0, none⟩ : Addr).add j = ⟨w.heap.size, j, none⟩ := by unfold Addr.add; split <;> simp_all
  rw [hadd, cell_of_row _ _ j cs e fr (heap_alloc_new w _)]
  rw [← hcs] at hu
  simpa using hu
def SlT (l : List UInt8) : Ty := fun v w => ∃ A n c, v = .slice A n c ∧ Sl w A n c l
theorem SlT.keeps (l : List UInt8) : Keeps Ext (SlT l) := fun _ _ _ hx ⟨A, n, c, e, h⟩ => ⟨A, n, c, e, h.ext hx⟩
def BytT (E : TypeId) (B : Nat) (l : List UInt8) : Ty := fun v w => ∃ A n c, v = .slice A n c ∧ Byt E w B A n c l
theorem BytT.keeps (E : TypeId) (B : Nat) (l : List UInt8) : Keeps Ext (BytT E B l) := fun _ _ _ hx ⟨A, n, c, e, h⟩ => ⟨A, n, c, e, h.ext hx⟩
theorem src_one {P : Program} {w : World} {tx e e' : TypeId} (hk : P.underlying tx = some (.slice e')) (u : Value) (hu : u.oneCell' = true) : Src P 1 tx (.slice (some ⟨w.heap.size, 0, none⟩) 1 1) 1 [u] (w.alloc (.cells #[u] e)) := by
  refine Src.ofSlice (P := P) _ hk _ 1 1 _ (by simp) (fun j v hj => ?_) (fun v hv => ?_)
  · match j, hj with
    | 0, hj => simp at hj; subst hj; exact cell_of_row _ _ 0 #[u] e (0, 0) (heap_alloc_new w _)
    | j + 1, hj => simp at hj
  · simp at hv
    subst hv
    exact hu
theorem Byt.more {E : TypeId} {w' : World} {B : Nat} {A' : Option Addr} {n m c' : Nat} {l l2 : List UInt8} {news : List Value} (hl : l.length = n) (hm : l2.length = m) (h : Own w' B E 1 A' (n + m) c' (l.map bv ++ news)) (hn : news = l2.map bv) :
    Byt E w' B A' (n + m) c' (l ++ l2) := ⟨by simp [hl, hm], by subst hn; simpa using h⟩
theorem byte_of_nat (x k : Nat) : ((x : Int) / 2 ^ (8 * k) % 256) = ((UInt8.ofNat (x / 256 ^ k)).toNat : Int) := by
  have e : (2 : Int) ^ (8 * k) = ((256 ^ k : Nat) : Int) := by
    rw [Int.pow_mul, Int.natCast_pow]
    rfl
  rw [e]
  have : (UInt8.ofNat (x / 256 ^ k)).toNat = x / 256 ^ k % 256 := by simp
  rw [this]
  omega
end Go.Proofs.Ytoeknbogaclfdaa

namespace Go.Proofs.Ytoeknbogaclfdaa
open Go.RowKit
set_option linter.unusedVariables false
set_option maxRecDepth 100000
abbrev U8 : TypeId := 5
theorem info_u8 : (Try.prog.info? U8).map (fun i => (i.zero, i.size, i.bytes)) = some (some (.int .u8 0), 1, 1) := by kernel_rfl
theorem under_u8 : Try.prog.underlying U8 = some (.int .u8) := by kernel_rfl
theorem under_bytes : Try.prog.underlying 23 = some (.slice U8) := by kernel_rfl
theorem under_str : Try.prog.underlying 9 = some .string := by kernel_rfl
theorem run_text_u8 {w : World} {A : Option Addr} {n c : Nat} {l : List UInt8} (h : Sl w A n c l) : (convert 23 9 (.slice A n c)).run Try.prog w = .ok (.string ⟨l.toArray⟩) w :=
  run_text h _ _ U8 under_bytes under_u8 under_str
theorem run_conv_bytes (w : World) (C : Array Value) (n c : Nat) : (convert 23 23 (.slice (some ⟨w.heap.size, 0, none⟩) n c)).run Try.prog (w.alloc (.cells C U8)) = .ok (.slice (some ⟨w.heap.size, 0, none⟩) n c) (w.alloc (.cells C U8 (C.size, C.size + 1))) :=
  Lib.run_convert_bytes_const (P := Try.prog) w _ U8 C n c under_bytes under_u8
theorem run_cut (w : World) (A : Option Addr) (n c lo hi : Nat) (h1 : lo ≤ hi) (h2 : hi ≤ c) :
    (Instr.slice 23 (.slice A n c) (some (.int .i64 lo)) (some (.int .i64 hi)) none).run Try.prog w = .ok (.slice (if c = lo then A else A.map (·.add (lo * 1))) (hi - lo) (c - lo)) w := by
  obtain ⟨i0, hi0, hz0, hz1, hz2⟩ := info_parts info_u8
  have e1 : ((hi : Nat) : Int) ≤ (c : Int) := by omega
  have e2 : ((lo : Nat) : Int) ≤ (hi : Int) := by omega
  simp [Instr.slice, run_underlying under_bytes, Instr.sliceBounds, run_sliceBound, sizeOf, typeInfo, hi0, hz1, h1, h2]
theorem slices_Clone (A : Option Addr) (n c : Nat) (l : List UInt8) (w : World) (h : Sl w A n c l) (hn : n ≤ 1000000) :
    Calls Try.prog 80 #[.slice A n c] w fun e w' => ∃ A' c', e = .returned (.slice A' n c') ∧ Byt U8 w' w.heap.size A' n c' l ∧ Ext w w' := by
  have he := fun w => Lib.run_eql_slice_nil (P := Try.prog) w 23 U8 A n c 0 0 under_bytes
  obtain ⟨i0, hi0, hz0, hz1, hz2⟩ := info_parts info_u8
  cases A with
  | none =>
    have h0 : n = 0 := by
      rcases Nat.eq_zero_or_pos n with h0 | h0
      · exact h0
      · obtain ⟨ad, e, _⟩ := h.rd.2 h0; cases e
    have hl : l = [] := List.eq_nil_of_length_eq_zero (by rw [h.len, h0])
    subst h0
    subst hl
    go_enter Try.func80, Try.ntmps80
    go_wp2
    go_ret
    exact ⟨_, _, rfl, Byt.nil _ _ _ _, Ext.refl _⟩
  | some ad =>
    have hs := h.src (P := Try.prog) under_bytes
    go_enter Try.func80, Try.ntmps80
    go_wp2_with (at_builtin; refine wpList_append_mine _ rfl _ _ _ _ rfl w.heap.size U8 i0 _ 1 1 under_bytes hi0 hz0 hz1 hz2 rfl _ 0 0 [] rfl (Own.nil _ _ _ _ _) _ rfl n (l.map bv) ((h.ext (Ext.alloc _ _)).src under_bytes) (by simp only [maxLen]; omega) (by omega) (by simp) ?_; intro A' c' w1 hown hg _)
    have hx : Ext w w1 := below_grown (Ext.alloc w _) (Own.nil _ _ U8 1 _) hg (by simp)
    go_ret
    exact ⟨_, _, rfl, ⟨h.len, by simpa using hown⟩, hx⟩
theorem bytes_Equal (A : Option Addr) (n c : Nat) (l : List UInt8) (A2 : Option Addr) (n2 c2 : Nat) (l2 : List UInt8) (w : World) (h : Sl w A n c l) (h2 : Sl w A2 n2 c2 l2) :
    Calls Try.prog 50 #[.slice A n c, .slice A2 n2 c2] w fun e w' => e = .returned (.bool (l == l2)) ∧ w = w' := by
  have e1 := run_text_u8 h
  have e2 := run_text_u8 h2
  go_enter Try.func50, Try.ntmps50
  go_wp2
  go_ret
  exact ⟨by simp, rfl⟩
end Go.Proofs.Ytoeknbogaclfdaa

namespace Go.Proofs.Ytoeknbogaclfdaa
open Go.RowKit
structure Sp where
  o : Oper
  T : Ty
  st : Bool
abbrev Sp.pr (s : Sp) : Oper × Ty := (s.o, s.T)
def mbit (M : List Nat) (i k : Nat) : Bool := (M.getD i 0).testBit k
def maskOk (l : List Oper) (M : List Nat) : Bool :=
  l.zipIdx.all fun (o, i) => (List.range l.length).all fun k => !mbit M i k || o.after.any fun e => Region.binds .any e && decide (e.on < i) && (e.on == k || mbit M e.on k)
def noneBetween (M : List Nat) (W n i k : Nat) : Bool := (List.range n).all fun j => !W.testBit j || (j == k || j == i || mbit M j i || mbit M k j)
def flagsOk2 (ops : Array Oper) (M : List Nat) (W : Nat) (sts : List Bool) (n : Nat) (o : Oper) (fl : List Bool) : Bool :=
  ((o.looksAt ops).all fun t => ops.toList.zipIdx.all fun (o', k) => o'.dst != some t || (fl.getD k false && decide (k < n)) || (mbit M k n && decide (n ≤ k))) &&
  (fl.zipIdx.all fun (b, k) => !b || (mbit M n k && (sts.getD k false || noneBetween M W ops.size n k)))
def pureOk (M : List Nat) (W n i : Nat) : Bool := (List.range n).all fun j => !W.testBit j || (j == i || mbit M j i)
def aliveOk (M : List Nat) (W n : Nat) (sts al : List Bool) : Bool :=
  al.zipIdx.all fun (b, k) => !b || (sts.getD k false || (List.range n).all fun j => !W.testBit j || (j == k || mbit M k j))
def Sel (N R : World → World → Prop) : Bool → World → World → Prop
  | true => N
  | false => R
def Fin2 (w : World) (K : Act → Prop) : List Bool → List (Oper × Ty) → Act → Prop
  | true :: fl, (o, T) :: r, a => ∀ v, T v w → Fin2 w K fl r (a.put o.dst v)
  | _ :: fl, (o, _) :: r, a => ∀ v, Fin2 w K fl r (a.put o.dst v)
  | [], (o, _) :: r, a => ∀ v, Fin2 w K [] r (a.put o.dst v)
  | _, [], a => K a
theorem Fin2.is_ {w : World} {K : Act → Prop} {o : Oper} {x : Value} {fl : List Bool} {r : List (Oper × Ty)} {a : Act} (h : Fin2 w K fl r (a.put o.dst x)) : Fin2 w K (true :: fl) ((o, Is x) :: r) a := fun _ hv => by
  subst hv
  exact h
theorem Fin2.step_ {w : World} {K : Act → Prop} {o : Oper} {T : Ty} {fl : List Bool} {r : List (Oper × Ty)} {a : Act} (h : ∀ v, T v w → Fin2 w K fl r (a.put o.dst v)) : Fin2 w K (true :: fl) ((o, T) :: r) a := h
theorem Fin2.dead_ {w : World} {K : Act → Prop} {o : Oper} {T : Ty} {fl : List Bool} {r : List (Oper × Ty)} {a : Act} (h : ∀ v, Fin2 w K fl r (a.put o.dst v)) : Fin2 w K (false :: fl) ((o, T) :: r) a := h
theorem Fin2.nil_ {w : World} {K : Act → Prop} {a : Act} {fl : List Bool} (h : K a) : Fin2 w K fl [] a := by
  cases fl with
  | nil => exact h
  | cons b _ => cases b <;> exact h
theorem Fin2.at_ {w : World} {K : Act → Prop} (g : Nat → Value) : ∀ (fl : List Bool) (l : List (Oper × Ty)) (a : Act), Fin2 w K fl l a →
    (∀ (k : Nat) (p : Oper × Ty), l[k]? = some p → fl.getD k false = true → p.2 ((p.1.dst.map g).getD undef) w) → K (canon (l.map fun _ => true) l g a)
  | [], [], a, h, _ => h
  | true :: _, [], a, h, _ => h
  | false :: _, [], a, h, _ => h
  | true :: fl, (o, T) :: r, a, h, hT => by
    simp only [Fin2] at h
    simp only [List.map_cons, canon]
    exact Fin2.at_ g fl r _ (h _ (hT 0 _ rfl rfl)) fun k p hk hf => hT (k + 1) p (by simpa using hk) (by simpa using hf)
  | false :: fl, (o, T) :: r, a, h, hT => by
    simp only [Fin2] at h
    simp only [List.map_cons, canon]
    exact Fin2.at_ g fl r _ (h _) fun k p hk hf => hT (k + 1) p (by simpa using hk) (by simpa using hf)
  | [], (o, T) :: r, a, h, hT => by
    simp only [Fin2] at h
    simp only [List.map_cons, canon]
    exact Fin2.at_ g [] r _ (h _) fun k p hk hf => by simp at hf
def Stage2 (P : Program) (ops : Array Oper) (N R : World → World → Prop) (M : List Nat) (W : Nat) (a0 : Act) (w0 : World) (K : Act → World → Prop) : List Sp → List Oper → Prop
  | done, [] => ∃ al : List Bool, aliveOk M W ops.size (done.map Sp.st) al = true ∧ ∀ w', Sel N R (W == 0) w0 w' → Fin2 w' (fun a => K a w') al (done.map Sp.pr) a0
  | done, o :: r => ∃ (T : Ty) (st : Bool) (fl : List Bool) (pu wr : Bool), Keeps N T ∧ (st = true → Keeps R T) ∧ (flagsOk2 ops M W (done.map Sp.st) done.length o fl && (W.testBit done.length == wr) && (!pu || pureOk M W ops.size done.length)) = true ∧
      (∀ w1, Sel N R pu w0 w1 → Given w1 (fun a => wpList P ops (Post (Sel N R (!wr)) T o a w1) [o] a w1) fl (done.map Sp.pr) a0) ∧ Stage2 P ops N R M W a0 w0 K (done ++ [⟨o, T, st⟩]) r
section
variable {P : Program} {N R : World → World → Prop} {Q : Exit → Act → World → Prop}
theorem Stage2.all {ops : Array Oper} {M : List Nat} {W : Nat} {a0 : Act} {w0 : World} {K : Act → World → Prop} : ∀ (todo : List Oper) (done : List Sp), Stage2 P ops N R M W a0 w0 K done todo →
    ∃ rest : List Sp, rest.map Sp.o = todo ∧ (∀ p ∈ rest, Keeps N p.T ∧ (p.st = true → Keeps R p.T)) ∧
      (∃ al : List Bool, aliveOk M W ops.size ((done ++ rest).map Sp.st) al = true ∧ ∀ w', Sel N R (W == 0) w0 w' → Fin2 w' (fun a => K a w') al ((done ++ rest).map Sp.pr) a0) ∧
      ∀ i sp, rest[i]? = some sp → ∃ (fl : List Bool) (pu wr : Bool), (flagsOk2 ops M W ((done ++ rest.take i).map Sp.st) (done.length + i) sp.o fl && (W.testBit (done.length + i) == wr) && (!pu || pureOk M W ops.size (done.length + i))) = true ∧
        ∀ w1, Sel N R pu w0 w1 → Given w1 (fun a => wpList P ops (Post (Sel N R (!wr)) sp.T sp.o a w1) [sp.o] a w1) fl ((done ++ rest.take i).map Sp.pr) a0
  | [], done, h => ⟨[], rfl, by simp, by simpa [Stage2] using h, by simp⟩
  | o :: r, done, h => by
    obtain ⟨T, st, fl, pu, wr, hk, hk2, hf, ho, hs⟩ := h
    obtain ⟨rest, h1, h2, h3, h4⟩ := Stage2.all r _ hs
    refine ⟨⟨o, T, st⟩ :: rest, by simp [h1], ?_, by simpa using h3, ?_⟩
    · intro p hp
      rcases List.mem_cons.1 hp with rfl | hp
      · exact ⟨hk, hk2⟩
      · exact h2 p hp
    · intro i sp hi
      rcases i with _ | i
      · simp only [List.getElem?_cons_zero, Option.some.injEq] at hi
        subst hi
        exact ⟨fl, pu, wr, by simpa using hf, by simpa using ho⟩
      · obtain ⟨fl', pu', wr', hf', ho'⟩ := h4 i sp (by simpa using hi)
        refine ⟨fl', pu', wr', ?_, ?_⟩
        · simpa [Nat.add_assoc, Nat.add_comm 1 i] using hf'
        · simpa using ho'
structure Midway2 (N R : World → World → Prop) (full : List Sp) (M : List Nat) (W : Nat) (a0 : Act) (w0 : World) (listed : Array Bool) (a : Act) (w : World) : Prop where
  world : R w0 w
  clean : (∀ j, W.testBit j = true → listed.getD j false = false) → N w0 w
  defers : a.defers = a0.defers
  size : a.tmps.size = a0.tmps.size
  lsize : listed.size = full.length
  other : ∀ t, (∀ (k : Nat) (p : Sp), full[k]? = some p → p.o.dst = some t → listed.getD k false = false) → a.tmps[t]? = a0.tmps[t]?
  closed : ∀ (k : Nat) (sp : Sp), full[k]? = some sp → listed.getD k false = true → ∀ e ∈ sp.o.after, Region.binds .any e = true → listed.getD e.on false = true
  done : ∀ (k : Nat) (sp : Sp), full[k]? = some sp → listed.getD k false = true → (sp.st = true ∨ ∀ j, j < full.length → W.testBit j = true → listed.getD j false = true → j = k ∨ mbit M k j = true) → sp.T (dstVal sp.o a) w
theorem mask_reach {full : List Sp} {M : List Nat} (hM : maskOk (full.map Sp.o) M = true) {listed : Array Bool}
    (hc : ∀ (k : Nat) (sp : Sp), full[k]? = some sp → listed.getD k false = true → ∀ e ∈ sp.o.after, Region.binds .any e = true → listed.getD e.on false = true) :
    ∀ (i : Nat) (sp : Sp) (k : Nat), full[i]? = some sp → (∀ e ∈ sp.o.after, Region.binds .any e = true → listed.getD e.on false = true) → k < full.length → mbit M i k = true → listed.getD k false = true := by
  intro i
  induction i using Nat.strongRecOn with
  | _ i ih =>
    intro sp k hi he hk hb
    have hm : (sp.o, i) ∈ (full.map Sp.o).zipIdx := by
      rw [List.mem_zipIdx_iff_getElem?]
      simp [hi]
    have h1 := List.all_eq_true.1 hM _ hm
    have h2 := List.all_eq_true.1 h1 k (List.mem_range.2 (by simpa using hk))
    simp only [hb, Bool.not_true, Bool.false_or] at h2
    obtain ⟨j, hj, h3⟩ := Array.any_eq_true.1 h2
    simp only [Bool.and_eq_true, Bool.or_eq_true, decide_eq_true_eq, beq_iff_eq] at h3
    obtain ⟨⟨h4, h5⟩, h6⟩ := h3
    have hl := he _ (Array.getElem_mem hj) h4
    rcases h6 with h6 | h6
    · rw [← h6]; exact hl
    · have hlt : sp.o.after[j].on < full.length := by
        have := (List.getElem?_eq_some_iff.1 hi).1
        omega
      obtain ⟨sp', hs'⟩ : ∃ sp', full[sp.o.after[j].on]? = some sp' := ⟨_, List.getElem?_eq_getElem hlt⟩
      exact ih _ h5 sp' k hs' (hc _ _ hs' hl) hk h6
theorem sel_le (hNR : ∀ w w', N w w' → R w w') (b : Bool) : ∀ w w', Sel N R b w w' → R w w' := by
  intro w w' h
  cases b
  · exact h
  · exact hNR _ _ h
theorem any_typed2 {ops : Array Oper} {full : List Sp} {M : List Nat} {W : Nat} {a0 : Act} {w0 : World} (hN : Steady N) (hR : Steady R) (hNR : ∀ w w', N w w' → R w w') (hops : ops = (full.map Sp.o).toArray)
    (hok : regionOk a0.tmps.size (full.map Sp.o) = true) (hM : maskOk (full.map Sp.o) M = true) (hW : W < 2 ^ full.length) (hkeep : ∀ p ∈ full, Keeps N p.T ∧ (p.st = true → Keeps R p.T))
    (hobl : ∀ i sp, full[i]? = some sp → ∃ (fl : List Bool) (pu wr : Bool), (flagsOk2 ops M W ((full.take i).map Sp.st) i sp.o fl && (W.testBit i == wr) && (!pu || pureOk M W ops.size i)) = true ∧
        ∀ w1, Sel N R pu w0 w1 → Given w1 (fun a => wpList P ops (Post (Sel N R (!wr)) sp.T sp.o a w1) [sp.o] a w1) fl ((full.take i).map Sp.pr) a0)
    (hfin : ∃ al : List Bool, aliveOk M W ops.size (full.map Sp.st) al = true ∧ ∀ w', Sel N R (W == 0) w0 w' → Fin2 w' (fun a => Q .normal a w') al (full.map Sp.pr) a0) :
    ∀ (fuel : Nat) (listed : Array Bool) (a : Act) (w : World), Midway2 N R full M W a0 w0 listed a w → full.length ≤ fuel + listed.toList.count true → wpAny P .any ops Q fuel listed a w := by
  simp only [regionOk, Bool.and_eq_true] at hok
  obtain ⟨⟨hdist, hall⟩, hback⟩ := hok
  have hopsz : ops.size = full.length := by subst hops; simp
  have hWl : ∀ j, W.testBit j = true → j < full.length := by
    intro j hj
    by_cases h : j < full.length
    · exact h
    · have := Nat.testBit_lt_two_pow (Nat.lt_of_lt_of_le hW (Nat.pow_le_pow_right (by omega) (show full.length ≤ j by omega)))
      rw [this] at hj
      cases hj
  have hdst : ∀ (k j : Nat) (s s' : Sp) (d : Tmp), full[k]? = some s → full[j]? = some s' → s.o.dst = some d → s'.o.dst = some d → k = j := by
    intro k j s s' d hk hj hd hd'
    exact distinct_spec _ hdist k j s.o s'.o d (by simp [hk]) (by simp [hj]) hd hd'
  have hgood : ∀ (k : Nat) (s : Sp), full[k]? = some s → goodOp s.o = true ∧ ∀ d, s.o.dst = some d → d < a0.tmps.size := by
    intro k s hk
    have h1 := List.all_eq_true.1 hall s.o (List.mem_map.2 ⟨s, List.mem_of_getElem? hk, rfl⟩)
    simp only [Bool.and_eq_true] at h1
    refine ⟨h1.1, fun d hd => ?_⟩
    have h2 := h1.2
    rw [hd] at h2
    simpa using h2
  have hedge : ∀ (k : Nat) (s : Sp), full[k]? = some s → ∀ e ∈ s.o.after, Region.binds .any e = true → e.on < k := by
    intro k s hk e he hb
    have hm : (s.o, k) ∈ (full.map Sp.o).zipIdx := by
      rw [List.mem_zipIdx_iff_getElem?]
      simp [hk]
    have h1 := List.all_eq_true.1 hback (s.o, k) hm
    have h2 := Array.all_eq_true_iff_forall_mem.1 h1 e he
    simpa [hb] using h2
  have hopsk : ∀ (k : Nat) (s : Sp), full[k]? = some s → ops[k]? = some s.o := by
    intro k s hk
    subst hops
    simp [hk]
  have hopsk' : ∀ (k : Nat) (o : Oper), ops[k]? = some o → ∃ s, full[k]? = some s ∧ s.o = o := by
    intro k o hk
    subst hops
    simp only [List.getElem?_toArray, List.getElem?_map, Option.map_eq_some_iff] at hk
    exact hk
  have getl : ∀ {listed : Array Bool} {i : Nat}, i < listed.size → ∀ x y, listed.getD i x = listed.getD i y := fun h x y => getD_of_lt h x y
  have fin : ∀ (listed : Array Bool) (a : Act) (w : World), Midway2 N R full M W a0 w0 listed a w → (∀ k, k < full.length → listed.getD k false = true) → Q .normal a w := by
    intro listed a w hm hl
    obtain ⟨al, hal, hfin⟩ := hfin
    let g : Nat → Value := fun t => a.tmps.getD t undef
    have hrel : Sel N R (W == 0) w0 w := by
      cases h0 : (W == 0) with
      | true =>
        have hz : W = 0 := by simpa using h0
        exact hm.clean fun j hj => by rw [hz] at hj; simp at hj
      | false => exact hm.world
    have hT : ∀ (k : Nat) (p : Oper × Ty), (full.map Sp.pr)[k]? = some p → al.getD k false = true → p.2 ((p.1.dst.map g).getD undef) w := by
      intro k p hk hf
      rw [List.getElem?_map, Option.map_eq_some_iff] at hk
      obtain ⟨s, hk, rfl⟩ := hk
      have hlt : k < full.length := (List.getElem?_eq_some_iff.1 hk).1
      have hf' : al[k]? = some true := by
        cases hc : al[k]? with
        | none => simp [List.getD, hc] at hf
        | some b => simp only [List.getD, hc, Option.getD_some] at hf; rw [hf]
      have hmem : (true, k) ∈ al.zipIdx := by rw [List.mem_zipIdx_iff_getElem?]; exact hf'
      have h1 := List.all_eq_true.1 hal (true, k) hmem
      simp only [Bool.not_true, Bool.false_or, Bool.or_eq_true] at h1
      have := hm.done k s hk (hl k hlt) (by
        rcases h1 with h1 | h1
        · left
          simpa [List.getD, hk] using h1
        · right
          intro j hj hw _
          have h2 := List.all_eq_true.1 h1 j (List.mem_range.2 (by rw [hopsz]; exact hj))
          simp only [hw, Bool.not_true, Bool.false_or, Bool.or_eq_true, beq_iff_eq] at h2
          exact h2)
      unfold dstVal at this
      cases hd : s.o.dst with
      | none => simpa [hd] using this
      | some d => simpa [hd, g] using this
    have h1 := Fin2.at_ g al (full.map Sp.pr) a0 (hfin w hrel) hT
    have e : canon ((full.map Sp.pr).map fun _ => true) (full.map Sp.pr) g a0 = a := by
      have htm : (canon ((full.map Sp.pr).map fun _ => true) (full.map Sp.pr) g a0).tmps = a.tmps := by
        refine Array.ext_getElem? fun t => ?_
        by_cases hex : ∃ (k : Nat) (s : Sp), full[k]? = some s ∧ s.o.dst = some t
        · obtain ⟨k, s, hk, hd⟩ := hex
          have hlt := (hgood k s hk).2 t hd
          have hkl : k < full.length := (List.getElem?_eq_some_iff.1 hk).1
          rw [canon_at g t _ (full.map Sp.pr) a0 k s.o s.T hlt (by simp [hk]) (by simp [hk]) hd]
          have hlt' : t < a.tmps.size := by rw [hm.size]; exact hlt
          simp [g, Array.getD, hlt']
        · rw [canon_other g t _ (full.map Sp.pr) a0, hm.other t]
          · intro k s hk hd
            exact absurd ⟨k, s, hk, hd⟩ hex
          · intro p hp hd
            obtain ⟨s, hs, rfl⟩ := List.mem_map.1 hp
            obtain ⟨k, hk⟩ := List.mem_iff_getElem?.1 hs
            exact hex ⟨k, s, hk, hd⟩
      have hdf : (canon ((full.map Sp.pr).map fun _ => true) (full.map Sp.pr) g a0).defers = a.defers := by rw [canon_defers, hm.defers]
      generalize canon ((full.map Sp.pr).map fun _ => true) (full.map Sp.pr) g a0 = c at *
      cases c
      cases a
      simp only at htm hdf
      subst htm
      subst hdf
      rfl
    rw [e] at h1
    exact h1
  have ready_nil : ∀ (listed : Array Bool), listed.size = full.length → Region.ready .any ops listed = [] → ∀ k, k < full.length → listed.getD k false = true := by
    intro listed hls hr k
    induction k using Nat.strongRecOn with
    | _ k ih =>
      intro hk
      cases hc : listed.getD k false with
      | true => rfl
      | false =>
        exfalso
        obtain ⟨s, hp⟩ : ∃ p, full[k]? = some p := ⟨_, List.getElem?_eq_getElem hk⟩
        have : k ∈ Region.ready .any ops listed := by
          rw [mem_ready]
          refine ⟨by rw [getD_of_lt (by omega) true false]; exact hc, s.o, hopsk k s hp, fun e he hb => ?_⟩
          have := hedge k s hp e he hb
          exact ih e.on this (by omega)
        rw [hr] at this
        cases this
  have step : ∀ (listed : Array Bool) (a : Act) (w : World) (K : Act → World → Prop) (i : Nat), Midway2 N R full M W a0 w0 listed a w → i ∈ Region.ready .any ops listed →
      (∀ a' w', Midway2 N R full M W a0 w0 (listed.setIfInBounds i true) a' w' → K a' w') → wpOp P ops Q i K a w := by
    intro listed a w K i hm hi hK
    obtain ⟨hun, o, ho, hedges⟩ := mem_ready.1 hi
    obtain ⟨sp, hiT, rfl⟩ := hopsk' i o ho
    obtain ⟨fl, pu, wr, hchk, hob⟩ := hobl i sp hiT
    have hil : i < full.length := (List.getElem?_eq_some_iff.1 hiT).1
    have hunf : listed.getD i false = false := by rw [getD_of_lt (by rw [hm.lsize]; exact hil) false true, hun]
    simp only [flagsOk2, Bool.and_eq_true, beq_iff_eq, Bool.or_eq_true, Bool.not_eq_true'] at hchk
    obtain ⟨⟨⟨hlooks, hflag⟩, hwr⟩, hpu⟩ := hchk
    have hreach : ∀ k, k < full.length → mbit M i k = true → listed.getD k false = true := fun k hk hb => mask_reach hM hm.closed i sp k hiT hedges hk hb
    have hreach2 : ∀ j k, j < full.length → k < full.length → listed.getD j false = true → mbit M j k = true → listed.getD k false = true := by
      intro j k hj hk hl hb
      obtain ⟨s, hs⟩ : ∃ s, full[j]? = some s := ⟨_, List.getElem?_eq_getElem hj⟩
      exact mask_reach hM hm.closed j s k hs (hm.closed j s hs hl) hk hb
    have hnoti : ∀ j, j < full.length → listed.getD j false = true → mbit M j i = true → False := by
      intro j hj hl hb
      have := hreach2 j i hj hil hl hb
      rw [hunf] at this
      cases this
    let g : Nat → Value := fun t => a.tmps.getD t undef
    have hflagk : ∀ k, fl.getD k false = true → mbit M i k = true ∧ (((full.take i).map Sp.st).getD k false = true ∨ noneBetween M W ops.size i k = true) := by
      intro k hk
      have hk' : fl[k]? = some true := by
        cases hc : fl[k]? with
        | none => simp [List.getD, hc] at hk
        | some b => simp only [List.getD, hc, Option.getD_some] at hk; rw [hk]
      have hmem : (true, k) ∈ fl.zipIdx := by rw [List.mem_zipIdx_iff_getElem?]; exact hk'
      have h1 := List.all_eq_true.1 hflag (true, k) hmem
      simpa only [Bool.not_true, Bool.false_or, Bool.and_eq_true, Bool.or_eq_true] using h1
    have hrel : Sel N R pu w0 w := by
      cases pu with
      | false => exact hm.world
      | true =>
        refine hm.clean fun j hj => ?_
        have hjl := hWl j hj
        rcases hpu with h | h
        · cases h
        · have h2 := List.all_eq_true.1 h j (List.mem_range.2 (by rw [hopsz]; exact hjl))
          simp only [hj, Bool.not_true, Bool.false_or, Bool.or_eq_true, beq_iff_eq] at h2
          cases hl : listed.getD j false with
          | false => rfl
          | true =>
            rcases h2 with h2 | h2
            · subst h2; rw [hunf] at hl; cases hl
            · exact absurd h2 (fun h => hnoti j hjl hl h)
    have hgiven := Given.at_ g fl ((full.take i).map Sp.pr) a0 (hob w hrel) (by
      intro k o' T' hk hl
      rw [List.getElem?_map, Option.map_eq_some_iff] at hl
      obtain ⟨s, hl, he⟩ := hl
      simp only [Sp.pr, Prod.mk.injEq] at he
      obtain ⟨rfl, rfl⟩ := he
      have hl' : full[k]? = some s := by
        rw [List.getElem?_take] at hl
        split at hl
        · exact hl
        · cases hl
      have hkl : k < full.length := (List.getElem?_eq_some_iff.1 hl').1
      obtain ⟨hb, hst⟩ := hflagk k hk
      have hlk := hreach k hkl hb
      have h1 := hm.done k s hl' hlk (by
        rcases hst with hst | hst
        · left
          have e : ((full.take i).map Sp.st)[k]? = some s.st := by rw [List.getElem?_map, hl]; rfl
          rw [List.getD_eq_getElem?_getD, e] at hst
          exact hst
        · right
          intro j hj hw hlj
          have h2 := List.all_eq_true.1 hst j (List.mem_range.2 (by rw [hopsz]; exact hj))
          simp only [hw, Bool.not_true, Bool.false_or, Bool.or_eq_true, beq_iff_eq] at h2
          rcases h2 with ((h2 | h2) | h2) | h2
          · exact .inl h2
          · subst h2; rw [hunf] at hlj; cases hlj
          · exact absurd h2 (fun h => hnoti j hj hlj h)
          · exact .inr h2)
      unfold dstVal at h1
      cases hd : s.o.dst with
      | none => simpa [hd] using h1
      | some d => simpa [hd, g] using h1)
    have hslot : ∀ t ∈ sp.o.looksAt ops, a.tmps[t]? = (canon fl ((full.take i).map Sp.pr) g a0).tmps[t]? := by
      intro t ht
      have h1 := List.all_eq_true.1 hlooks t ht
      by_cases hex : ∃ (k : Nat) (s : Sp), full[k]? = some s ∧ s.o.dst = some t
      · obtain ⟨k, s, hk, hd⟩ := hex
        have hmem : (s.o, k) ∈ ops.toList.zipIdx := by
          rw [List.mem_zipIdx_iff_getElem?]
          simpa using hopsk k s hk
        have h2 := List.all_eq_true.1 h1 (s.o, k) hmem
        simp only [hd, bne_self_eq_false, Bool.false_or, Bool.and_eq_true, Bool.or_eq_true, decide_eq_true_eq] at h2
        have hlt := (hgood k s hk).2 t hd
        have hkl0 : k < full.length := (List.getElem?_eq_some_iff.1 hk).1
        rcases h2 with h2 | h2
        case inr =>
          have hul : listed.getD k false = false := by
            cases hl : listed.getD k false with
            | false => rfl
            | true => exact absurd h2.1 (fun h => hnoti k hkl0 hl h)
          rw [canon_other g t fl ((full.take i).map Sp.pr) a0 (by
            intro p hp hdp
            obtain ⟨s', hs', rfl⟩ := List.mem_map.1 hp
            obtain ⟨k', hk'⟩ := List.mem_iff_getElem?.1 hs'
            rw [List.getElem?_take] at hk'
            split at hk'
            · have := hdst k' k s' s t hk' hk hdp hd
              omega
            · cases hk'), hm.other t (by
            intro k' s' hk' hd'
            have := hdst k' k s' s t hk' hk hd' hd
            rw [this]
            exact hul)]
        rw [canon_at g t fl ((full.take i).map Sp.pr) a0 k s.o s.T hlt h2.1 (by rw [List.getElem?_map, List.getElem?_take, if_pos h2.2, hk]; rfl) hd]
        have hlt' : t < a.tmps.size := by rw [hm.size]; exact hlt
        simp [g, Array.getD, hlt']
      · have hno : ∀ p ∈ full, p.o.dst ≠ some t := by
          intro s hp hd
          obtain ⟨k, hk⟩ := List.mem_iff_getElem?.1 hp
          exact hex ⟨k, s, hk, hd⟩
        rw [canon_other g t fl ((full.take i).map Sp.pr) a0 (by
          intro p hp
          obtain ⟨s, hs, rfl⟩ := List.mem_map.1 hp
          exact hno s (List.mem_of_mem_take hs)), hm.other t (fun k s hk hd => absurd hd (hno s (List.mem_of_getElem? hk)))]
    have hgo := hgood i sp hiT
    have hnosel : ∀ cs b, sp.o.op ≠ .select cs b := by
      intro cs b h
      have h1 := hgo.1
      simp [goodOp, h] at h1
    have hexec : execOp a.eval sp.o = execOp (canon fl ((full.take i).map Sp.pr) g a0).eval sp.o := by
      refine execOp_congr sp.o hnosel fun x hx => ?_
      cases x with
      | tmp t =>
        have ht : t ∈ sp.o.looksAt ops := List.mem_append_left _ (List.mem_filterMap.2 ⟨.tmp t, by simpa using hx, rfl⟩)
        have h1 := hslot t ht
        simp only [Act.eval]
        simp only [Array.getD_eq_getD_getElem?, h1]
      | const v => rfl
      | global v => rfl
      | func f => rfl
    have hwant : Region.wanted sp.o (yielded ops a.tmps) = Region.wanted sp.o (yielded ops (canon fl ((full.take i).map Sp.pr) g a0).tmps) := by
      unfold Region.wanted
      cases hg : sp.o.guard with
      | none => rfl
      | some gw =>
        obtain ⟨gi, want⟩ := gw
        have : yielded ops a.tmps gi = yielded ops (canon fl ((full.take i).map Sp.pr) g a0).tmps gi := by
          unfold yielded
          cases ht : (ops[gi]?).bind (·.dst) with
          | none => rfl
          | some t =>
            have hin : t ∈ sp.o.looksAt ops := List.mem_append_right _ (by simp [hg, ht])
            have h1 := hslot t hin
            simp [h1]
        simp only [this]
    unfold wpOp
    simp only [ho]
    refine upon_transfer (R := Sel N R (!wr)) hexec hwant (fun d hd => by rw [canon_size]; exact hgo.2 d hd) hgiven fun v w' hww hTv => hK _ _ ?_
    have hRww := sel_le hNR _ _ _ hww
    have hset : ∀ k, k < full.length → (listed.setIfInBounds i true).getD k false = true → k = i ∨ listed.getD k false = true := by
      intro k hk h
      by_cases hki : k = i
      · exact .inl hki
      · right
        rwa [getD_set_ne false (Ne.symm hki)] at h
    have hmono : ∀ k, listed.getD k false = true → (listed.setIfInBounds i true).getD k false = true := by
      intro k h
      by_cases hki : k = i
      · subst hki; rw [hunf] at h; cases h
      · rw [getD_set_ne false (Ne.symm hki)]; exact h
    have hseti : (listed.setIfInBounds i true).getD i false = true := by
      have : i < listed.size := by rw [hm.lsize]; exact hil
      simp [Array.getD, this]
    refine ⟨hR.trans _ _ _ hm.world hRww, ?_, ?_, ?_, by simpa using hm.lsize, ?_, ?_, ?_⟩
    · intro hno
      have hwi : W.testBit i = false := by
        cases h : W.testBit i with
        | false => rfl
        | true => have := hno i h; rw [hseti] at this; cases this
      rw [hwi] at hwr
      subst hwr
      refine hN.trans _ _ _ (hm.clean fun j hj => ?_) hww
      cases hl : listed.getD j false with
      | false => rfl
      | true => have := hno j hj; rw [hmono j hl] at this; cases this
    · rw [← hm.defers]; cases sp.o.dst <;> simp [Act.put]
    · rw [← hm.size]; cases sp.o.dst <;> simp [Act.put]
    · intro t hno
      rw [← hm.other t (fun k s hk hd => by
        have h1 := hno k s hk hd
        cases hl : listed.getD k false with
        | false => rfl
        | true => rw [hmono k hl] at h1; cases h1)]
      have h0 : sp.o.dst ≠ some t := fun hd => by
        have h1 := hno i sp hiT hd
        rw [hseti] at h1
        cases h1
      cases hd : sp.o.dst with
      | none => simp [Act.put]
      | some d =>
        have : d ≠ t := fun e => h0 (by simp [hd, e])
        simp [Act.put, Array.getElem?_setIfInBounds_ne this]
    · intro k s hk hlk e he hb
      have hkl : k < full.length := (List.getElem?_eq_some_iff.1 hk).1
      rcases hset k hkl hlk with rfl | hlk'
      · rw [hiT] at hk
        simp only [Option.some.injEq] at hk
        subst hk
        exact hmono _ (hedges e he hb)
      · exact hmono _ (hm.closed k s hk hlk' e he hb)
    · intro k s hk hlk hal
      have hkl : k < full.length := (List.getElem?_eq_some_iff.1 hk).1
      by_cases hki : k = i
      · subst hki
        rw [hiT] at hk
        simp only [Option.some.injEq] at hk
        subst hk
        unfold dstVal
        cases hd : sp.o.dst with
        | none => simpa [hd] using hTv
        | some d =>
          have hlt : d < a.tmps.size := by rw [hm.size]; exact hgo.2 d hd
          rw [hd] at hTv
          simpa [Act.put, hlt] using hTv
      · have hlk' : listed.getD k false = true := by rwa [getD_set_ne false (Ne.symm hki)] at hlk
        have e : dstVal s.o (a.put sp.o.dst v) = dstVal s.o a := by
          unfold dstVal
          cases hd' : s.o.dst with
          | none => rfl
          | some d' =>
            cases hd : sp.o.dst with
            | none => rfl
            | some d =>
              have hne : d ≠ d' := fun e => hki (hdst k i s sp d' hk hiT hd' (by rw [hd, e]))
              simp [Act.put, Array.getElem?_setIfInBounds_ne hne]
        rw [e]
        obtain ⟨hkN, hkR⟩ := hkeep s (List.mem_of_getElem? hk)
        rcases hal with hst | hal
        · exact hkR hst _ _ _ hRww (hm.done k s hk hlk' (.inl hst))
        · have hwi : W.testBit i = false := by
            cases h : W.testBit i with
            | false => rfl
            | true =>
              rcases hal i hil h hseti with h2 | h2
              · exact absurd h2.symm hki
              · have := hreach2 k i hkl hil hlk' h2
                rw [hunf] at this
                cases this
          rw [hwi] at hwr
          subst hwr
          exact hkN _ _ _ hww (hm.done k s hk hlk' (.inr fun j hj hw hlj => hal j hj hw (hmono j hlj)))
  intro fuel
  induction fuel with
  | zero =>
    intro listed a w hm hcount
    have hall' : ∀ k, k < full.length → listed.getD k false = true := by
      intro k hk
      have hlen : listed.toList.length = full.length := by simpa using hm.lsize
      have hc : listed.toList.count true = listed.toList.length := by
        have := List.count_le_length (a := true) (l := listed.toList)
        omega
      have := List.count_eq_length.1 hc
      have hk' : k < listed.size := by rw [hm.lsize]; exact hk
      have h2 := this listed[k] (by simp)
      simp [Array.getD, hk', ← h2]
    refine ⟨?_, fin listed a w hm hall'⟩
    rw [List.eq_nil_iff_forall_not_mem]
    intro i hi
    obtain ⟨hun, o, ho, _⟩ := mem_ready.1 hi
    obtain ⟨T, hiT, _⟩ := hopsk' i o ho
    have hil : i < full.length := (List.getElem?_eq_some_iff.1 hiT).1
    have h1 := hall' i hil
    rw [getD_of_lt (by rw [hm.lsize]; exact hil) false true, hun] at h1
    cases h1
  | succ fuel ih =>
    intro listed a w hm hcount
    refine ⟨fun h0 => fin listed a w hm (ready_nil listed hm.lsize h0), fun i hi => ?_⟩
    refine step listed a w _ i hm hi fun a' w' hm' => ih _ _ _ hm' ?_
    obtain ⟨hun, o, ho, _⟩ := mem_ready.1 hi
    obtain ⟨T, hiT, _⟩ := hopsk' i o ho
    have hil : i < full.length := (List.getElem?_eq_some_iff.1 hiT).1
    have hil' : i < listed.size := by rw [hm.lsize]; exact hil
    have hf : listed[i] = false := by simpa [Array.getD, hil'] using hun
    have hset : (listed.setIfInBounds i true).toList = listed.toList.set i true := by simp
    rw [hset, List.count_set (by simpa using hil')]
    have hf' : listed.toList[i]'(by simpa using hil') = false := by simpa using hf
    simp only [hf']
    simp
    have hc := hcount
    simp only [Array.count_toList] at hc
    omega
theorem wp_region_typed2 {id : Nat} {l : List Oper} {a0 : Act} {w0 : World} (hN : Steady N) (hR : Steady R) (hNR : ∀ w w', N w w' → R w w') (hm : P.follows .mixedOrders = true) (n : Nat) (hn : a0.tmps.size = n) (M : List Nat) (W : Nat)
    (hok : (regionOk n l && maskOk l M && decide (W < 2 ^ l.length)) = true)
    (h : Stage2 P l.toArray N R M W a0 w0 (Q .normal) [] l) : (Code.region id l.toArray true).wp P Q a0 w0 := by
  obtain ⟨rest, h1, h2, h3, h4⟩ := Stage2.all l [] h
  subst h1
  subst hn
  simp only [Bool.and_eq_true, decide_eq_true_eq] at hok
  refine wp_region_any hm ?_
  refine any_typed2 (full := rest) (a0 := a0) (w0 := w0) hN hR hNR rfl hok.1.1 hok.1.2 (by simpa using hok.2) h2 (by simpa using h4) (by simpa using h3) _ _ _ _ ⟨hNR _ _ (hN.drew w0), fun _ => hN.drew w0, rfl, rfl, by simp, fun _ _ => rfl, ?_, ?_⟩ (by simp)
  · intro k sp hk hl
    have hlt : k < rest.length := (List.getElem?_eq_some_iff.1 hk).1
    simp [Array.getD, hlt] at hl
  · intro k sp hk hl
    have hlt : k < rest.length := (List.getElem?_eq_some_iff.1 hk).1
    simp [Array.getD, hlt] at hl
theorem Stage2.nil {ops : Array Oper} {M : List Nat} {W : Nat} {a0 : Act} {w0 : World} {K : Act → World → Prop} {done : List Sp} (al : List Bool) (hal : aliveOk M W ops.size (done.map Sp.st) al = true)
    (h : ∀ w', Sel N R (W == 0) w0 w' → Fin2 w' (fun a => K a w') al (done.map Sp.pr) a0) : Stage2 P ops N R M W a0 w0 K done [] := ⟨al, hal, h⟩
theorem Stage2.step {ops : Array Oper} {M : List Nat} {W : Nat} {a0 : Act} {w0 : World} {K : Act → World → Prop} {done : List Sp} {o : Oper} {r : List Oper} (T : Ty) (st : Bool) (fl : List Bool) (pu wr : Bool) (hk : Keeps N T) (hk2 : st = true → Keeps R T)
    (hf : (flagsOk2 ops M W (done.map Sp.st) done.length o fl && (W.testBit done.length == wr) && (!pu || pureOk M W ops.size done.length)) = true)
    (h : ∀ w1, Sel N R pu w0 w1 → Given w1 (fun a => wpList P ops (Post (Sel N R (!wr)) T o a w1) [o] a w1) fl (done.map Sp.pr) a0)
    (hr : Stage2 P ops N R M W a0 w0 K (done ++ [⟨o, T, st⟩]) r) : Stage2 P ops N R M W a0 w0 K done (o :: r) := ⟨T, st, fl, pu, wr, hk, hk2, hf, h, hr⟩
end
attribute [irreducible] Stage2 Fin2
end Go.Proofs.Ytoeknbogaclfdaa

namespace Go.Proofs.Ytoeknbogaclfdaa
open Go.RowKit
set_option linter.unusedVariables false
structure But (H : Nat) (S : Nat → Prop) (w w' : World) : Prop where
  os : w'.os = w.os
  tape : w'.tape = w.tape
  output : w'.output = w.output
  size : w.heap.size ≤ w'.heap.size
  block : ∀ k, k < H → ¬ S k → k < w.heap.size → w'.heap[k]? = w.heap[k]?
theorem But.refl (H : Nat) (S : Nat → Prop) (w : World) : But H S w w := ⟨rfl, rfl, rfl, Nat.le_refl _, fun _ _ _ _ => rfl⟩
theorem But.trans {H : Nat} {S : Nat → Prop} {a b c : World} (h : But H S a b) (k : But H S b c) : But H S a c :=
  ⟨k.os.trans h.os, k.tape.trans h.tape, k.output.trans h.output, Nat.le_trans h.size k.size, fun i hi hs hl => (k.block i hi hs (Nat.lt_of_lt_of_le hl h.size)).trans (h.block i hi hs hl)⟩
theorem But.of_ext {H : Nat} {S : Nat → Prop} {a b : World} (h : Ext a b) : But H S a b := ⟨Below.os h, Below.tape h, Below.output h, h.size, fun k _ _ hl => Below.block h k hl⟩
theorem But.steady (H : Nat) (S : Nat → Prop) : Steady (But H S) := ⟨But.refl H S, fun _ _ _ => But.trans, fun w => But.of_ext (Ext.drew w)⟩
theorem But.grown {H : Nat} {S : Nat → Prop} {a w w' : World} {row : Option Nat} (h : But H S a w) (hg : w.grownBy w' row) (hr : ∀ k, row = some k → S k ∨ H ≤ k) : But H S a w' :=
  h.trans ⟨hg.os, hg.tape, hg.output, hg.size, fun k hk hs hl => hg.block k hl (fun e => by rcases hr k e.symm with h | h; exact hs h; omega)⟩
theorem But.setCell {H : Nat} {S : Nat → Prop} {a w : World} (h : But H S a w) {p : Addr} (hp : S p.block ∨ H ≤ p.block) (u : Value) : But H S a (w.setCell p u) :=
  h.trans ⟨rfl, rfl, rfl, by simp [World.setCell], fun k hk hs _ => Below.heap_setCell _ _ _ _ (fun e => by rcases hp with hp | hp; exact hs (e ▸ hp); omega)⟩
theorem Ext.but {H : Nat} {S : Nat → Prop} {a b c : World} (h : Ext a b) (k : But H S b c) (hH : a.heap.size ≤ H) (hS : ∀ g, S g → a.heap.size ≤ g) : Ext a c :=
  Below.trans h ⟨k.os, k.tape, k.output, k.size, fun i hi => k.block i (by omega) (fun hs => by have := hS i hs; omega) (Nat.lt_of_lt_of_le hi h.size)⟩
theorem But.cell {H : Nat} {S : Nat → Prop} {a b : World} (h : But H S a b) {p : Addr} {u : Value} (hc : a.cell? p = some u) (hH : p.block < H) (hS : ¬ S p.block) : b.cell? p = some u := by
  have hb := World.block_lt_of_cell? a p hc
  rw [← hc]
  exact World.cell?_of_block (h.block p.block hH hS hb)
theorem Own.but {H : Nat} {S : Nat → Prop} {w w' : World} {B : Nat} {e : TypeId} {size n c : Nat} {A : Option Addr} {xs : List Value} (h : Own w B e size A n c xs) (k : But H S w w') (hr : ∀ g, rowOf A c = some g → g < H ∧ ¬ S g) : Own w' B e size A n c xs :=
  h.keepBlock fun g hg => k.block g (hr g hg).1 (hr g hg).2 (h.row_ge g hg).2
theorem no_keeps {R : World → World → Prop} {T : Ty} : false = true → Keeps R T := fun h => by cases h
end Go.Proofs.Ytoeknbogaclfdaa

namespace Go.Proofs.Ytoeknbogaclfdaa
open Go.RowKit
set_option linter.unusedVariables false
theorem Rd.keepBlk {w w' : World} {size n : Nat} {A : Option Addr} {xs : List Value} (h : Rd w size A n xs) (hk : ∀ ad, A = some ad → 0 < n → w'.heap[ad.block]? = w.heap[ad.block]?) : Rd w' size A n xs :=
  ⟨h.1, fun hn => by
    obtain ⟨ad, e, hc⟩ := h.2 hn
    refine ⟨ad, e, fun j u hu => ?_⟩
    rw [← hc j u hu]
    exact World.cell?_of_block (by rw [block_of_add]; exact hk ad e hn)⟩
theorem Sl.keepBlk {w w' : World} {A : Option Addr} {n c : Nat} {l : List UInt8} (h : Sl w A n c l) (hk : ∀ ad, A = some ad → 0 < n → w'.heap[ad.block]? = w.heap[ad.block]?) : Sl w' A n c l := ⟨h.len, h.cap, h.max, h.rd.keepBlk hk⟩
theorem Sl.blk {w : World} {A : Option Addr} {n c : Nat} {l : List UInt8} (h : Sl w A n c l) : ∀ ad, A = some ad → 0 < n → ad.block < w.heap.size := by
  intro ad e hn
  obtain ⟨ad', e', hc⟩ := h.at_ (k := 0) hn
  rw [e] at e'
  injection e' with e'
  subst e'
  have := World.block_lt_of_cell? _ _ hc
  rwa [block_of_add] at this
structure Fsl (w : World) (B : Nat) (A : Option Addr) (n c : Nat) (l : List UInt8) : Prop where
  sl : Sl w A n c l
  fr : ∀ ad, A = some ad → 0 < n → B ≤ ad.block
theorem Fsl.ext {w w' : World} {B : Nat} {A : Option Addr} {n c : Nat} {l : List UInt8} (h : Fsl w B A n c l) (hk : Ext w w') : Fsl w' B A n c l := ⟨h.sl.ext hk, h.fr⟩
theorem Fsl.low {w : World} {B B' : Nat} {A : Option Addr} {n c : Nat} {l : List UInt8} (h : Fsl w B A n c l) (hB : B' ≤ B) : Fsl w B' A n c l := ⟨h.sl, fun ad e hn => Nat.le_trans hB (h.fr ad e hn)⟩
theorem Fsl.nil (w : World) (B : Nat) : Fsl w B none 0 0 [] := ⟨Sl.nil w, fun _ e => by cases e⟩
theorem Fsl.sets {w : World} {B : Nat} {A : Option Addr} {n c : Nat} {l : List UInt8} (h : Fsl w B A n c l) {p : Addr} (hp : p.block < B) (u : Value) : Fsl (w.setCell p u) B A n c l :=
  ⟨h.sl.keepBlk fun ad e hn => Below.heap_setCell _ _ _ _ (by have := h.fr ad e hn; omega), h.fr⟩
theorem Byt.fsl {E : TypeId} {w : World} {B : Nat} {A : Option Addr} {n c : Nat} {l : List UInt8} (h : Byt E w B A n c l) : Fsl w B A n c l := by
  refine ⟨h.sl, fun ad e hn => ?_⟩
  obtain ⟨g, hA, hB, _⟩ := h.open_ hn
  rw [e] at hA
  injection hA with hA
  subst hA
  exact hB
theorem Fsl.cut {w : World} {B : Nat} {A : Option Addr} {n c : Nat} {l : List UInt8} (h : Fsl w B A n c l) {A1 : Option Addr} {m c1 : Nat} {l1 : List UInt8} (h1 : Sl w A1 m c1 l1) (hA : ∀ ad, A1 = some ad → 0 < m → ∃ ad', A = some ad' ∧ 0 < n ∧ ad'.block = ad.block) : Fsl w B A1 m c1 l1 :=
  ⟨h1, fun ad e hm => by obtain ⟨ad', e', hn, hb⟩ := hA ad e hm; rw [← hb]; exact h.fr ad' e' hn⟩
end Go.Proofs.Ytoeknbogaclfdaa

namespace Go.Proofs.Ytoeknbogaclfdaa
open Go.RowKit
set_option linter.unusedVariables false
def Pts (cs : List Value) (k : Nat) : Prop := ∃ ad n c, Value.slice (some ad) n c ∈ cs ∧ 0 < n ∧ ad.block = k
structure Rep {α : Type} (size : Nat) (R : α → List Value → World → Prop) : Prop where
  len : ∀ x cs w, R x cs w → cs.length = size
  one : ∀ x cs w, R x cs w → ∀ u ∈ cs, u.oneCell' = true
  keep : ∀ x cs w w', R x cs w → (∀ k, Pts cs k → w'.heap[k]? = w.heap[k]?) → R x cs w'
  lt : ∀ x cs w, R x cs w → ∀ k, Pts cs k → k < w.heap.size
inductive All2 {α : Type} (R : α → List Value → World → Prop) (w : World) : List α → List (List Value) → Prop
  | nil : All2 R w [] []
  | cons {x : α} {cs : List Value} {xs : List α} {css : List (List Value)} : R x cs w → All2 R w xs css → All2 R w (x :: xs) (cs :: css)
section
variable {α : Type} {size : Nat} {R : α → List Value → World → Prop}
theorem All2.mono {w w' : World} : ∀ {xs : List α} {css : List (List Value)}, All2 R w xs css → (∀ x cs, cs ∈ css → R x cs w → R x cs w') → All2 R w' xs css
  | _, _, .nil, _ => .nil
  | _, _, .cons h t, hk => .cons (hk _ _ (by simp) h) (t.mono fun x cs hm => hk x cs (by simp [hm]))
theorem All2.length {w : World} : ∀ {xs : List α} {css : List (List Value)}, All2 R w xs css → css.length = xs.length
  | _, _, .nil => rfl
  | _, _, .cons _ t => by simp [t.length]
theorem All2.append {w : World} : ∀ {xs ys : List α} {css dss : List (List Value)}, All2 R w xs css → All2 R w ys dss → All2 R w (xs ++ ys) (css ++ dss)
  | _, _, _, _, .nil, h => h
  | _, _, _, _, .cons h t, k => .cons h (t.append k)
theorem All2.flat {w : World} (hR : Rep size R) : ∀ {xs : List α} {css : List (List Value)}, All2 R w xs css → css.flatten.length = xs.length * size
  | _, _, .nil => by simp
  | _, _, .cons h t => by
    simp only [List.flatten_cons, List.length_append, List.length_cons]
    rw [hR.len _ _ _ h, t.flat hR, Nat.add_mul, Nat.one_mul, Nat.add_comm]
theorem All2.one {w : World} (hR : Rep size R) : ∀ {xs : List α} {css : List (List Value)}, All2 R w xs css → ∀ u ∈ css.flatten, u.oneCell' = true
  | _, _, .nil, u, hu => by simp at hu
  | _, _, .cons h t, u, hu => by
    simp only [List.flatten_cons, List.mem_append] at hu
    rcases hu with hu | hu
    · exact hR.one _ _ _ h u hu
    · exact t.one hR u hu
theorem All2.get {w : World} (hR : Rep size R) : ∀ {xs : List α} {css : List (List Value)}, All2 R w xs css → ∀ (i : Nat) (x : α), xs[i]? = some x → ∃ cs, cs ∈ css ∧ R x cs w ∧ ∀ (j : Nat) (u : Value), cs[j]? = some u → css.flatten[i * size + j]? = some u
  | _, _, .nil, i, x, hx => by simp at hx
  | _, _, @All2.cons _ _ _ y cs ys css h t, 0, x, hx => by
    simp at hx
    subst hx
    refine ⟨cs, by simp, h, fun j u hu => ?_⟩
    rw [List.flatten_cons, Nat.zero_mul, Nat.zero_add, List.getElem?_append_left (List.getElem?_eq_some_iff.1 hu).1]
    exact hu
  | _, _, @All2.cons _ _ _ y cs ys css h t, i + 1, x, hx => by
    obtain ⟨ds, hm, hr, hj⟩ := t.get hR i x (by simpa using hx)
    refine ⟨ds, by simp [hm], hr, fun j u hu => ?_⟩
    have := hR.len _ _ _ h
    rw [List.flatten_cons, List.getElem?_append_right (by rw [this, Nat.add_mul, Nat.one_mul]; omega), ← hj j u hu]
    congr 1
    rw [this, Nat.add_mul, Nat.one_mul]
    omega
theorem All2.take {w : World} : ∀ {xs : List α} {css : List (List Value)} (m : Nat), All2 R w xs css → All2 R w (xs.take m) (css.take m)
  | _, _, 0, _ => by simp; exact .nil
  | _, _, m + 1, .nil => by simp; exact .nil
  | _, _, m + 1, .cons h t => by simp only [List.take_succ_cons]; exact .cons h (t.take m)
theorem All2.drop {w : World} : ∀ {xs : List α} {css : List (List Value)} (m : Nat), All2 R w xs css → All2 R w (xs.drop m) (css.drop m)
  | _, _, 0, h => h
  | _, _, m + 1, .nil => by simp; exact .nil
  | _, _, m + 1, .cons h t => by simp only [List.drop_succ_cons]; exact t.drop m
theorem All2.flat_take {w : World} (hR : Rep size R) : ∀ {xs : List α} {css : List (List Value)} (m : Nat), All2 R w xs css → (css.take m).flatten = css.flatten.take (m * size)
  | _, _, 0, _ => by simp
  | _, _, m + 1, .nil => by simp
  | _, _, m + 1, @All2.cons _ _ _ y cs ys css h t => by
    have := hR.len _ _ _ h
    rw [List.take_succ_cons, List.flatten_cons, List.flatten_cons, t.flat_take hR m, show (m + 1) * size = cs.length + m * size by rw [this, Nat.add_mul, Nat.one_mul, Nat.add_comm]]
    exact (List.take_length_add_append _).symm
theorem All2.flat_drop {w : World} (hR : Rep size R) : ∀ {xs : List α} {css : List (List Value)} (m : Nat), All2 R w xs css → (css.drop m).flatten = css.flatten.drop (m * size)
  | _, _, 0, _ => by simp
  | _, _, m + 1, .nil => by simp
  | _, _, m + 1, @All2.cons _ _ _ y cs ys css h t => by
    have := hR.len _ _ _ h
    rw [List.drop_succ_cons, List.flatten_cons, t.flat_drop hR m, show (m + 1) * size = cs.length + m * size by rw [this, Nat.add_mul, Nat.one_mul, Nat.add_comm]]
    exact (List.drop_length_add_append _).symm
structure Lst (size : Nat) (R : α → List Value → World → Prop) (w : World) (A : Option Addr) (n c : Nat) (xs : List α) : Prop where
  len : xs.length = n
  cap : n ≤ c
  max : c ≤ maxLen
  rd : ∃ css, All2 R w xs css ∧ Rd w size A n css.flatten
theorem Lst.n63 {w : World} {A : Option Addr} {n c : Nat} {xs : List α} (h : Lst size R w A n c xs) : n ≤ 9223372036854775807 ∧ c ≤ 9223372036854775807 := by
  have h1 := h.cap
  have h2 := h.max
  unfold maxLen at h2
  omega
theorem Lst.nil (w : World) : Lst size R w none 0 0 ([] : List α) := ⟨rfl, Nat.le_refl _, Nat.zero_le _, [], .nil, by simp, fun h => by omega⟩
theorem Lst.ext (hR : Rep size R) {w w' : World} {A : Option Addr} {n c : Nat} {xs : List α} (h : Lst size R w A n c xs) (hk : Ext w w') : Lst size R w' A n c xs := by
  obtain ⟨css, h1, h2⟩ := h.rd
  exact ⟨h.len, h.cap, h.max, css, h1.mono fun x cs _ hr => hR.keep _ _ _ _ hr fun k hp => Below.block hk k (hR.lt _ _ _ hr k hp), h2.ext hk⟩
theorem Lst.at_ (hR : Rep size R) {w : World} {A : Option Addr} {n c i : Nat} {xs : List α} (h : Lst size R w A n c xs) (hi : i < n) :
    ∃ (ad : Addr) (x : α) (cs : List Value), A = some ad ∧ xs[i]? = some x ∧ R x cs w ∧ ∀ (j : Nat) (u : Value), cs[j]? = some u → w.cell? (ad.add (i * size + j)) = some u := by
  obtain ⟨css, h1, h2⟩ := h.rd
  obtain ⟨ad, e, hc⟩ := h2.2 (by omega)
  have hx : xs[i]? = some (xs[i]'(by rw [h.len]; exact hi)) := List.getElem?_eq_getElem _
  obtain ⟨cs, _, hr, hj⟩ := h1.get hR i _ hx
  exact ⟨ad, _, cs, e, hx, hr, fun j u hu => hc _ _ (hj j u hu)⟩
theorem spot_of_cell {w : World} {a : Addr} {u : Value} (h : w.cell? a = some u) : a.spot = none := by
  unfold World.cell? at h
  split at h
  · cases hs : a.spot with
    | none => rfl
    | some s => simp [hs] at h
  · simp at h
theorem Lst.at2 (hR : Rep size R) (h0 : 0 < size) {w : World} {A : Option Addr} {n c i : Nat} {xs : List α} (h : Lst size R w A n c xs) (hi : i < n) :
    ∃ (g o : Nat) (x : α) (cs : List Value), A = some ⟨g, o, none⟩ ∧ xs[i]? = some x ∧ R x cs w ∧ ∀ (j : Nat) (u : Value), cs[j]? = some u → w.cell? ⟨g, o + i * size + j, none⟩ = some u := by
  obtain ⟨ad, x, cs, e, hx, hr, hc⟩ := h.at_ hR hi
  obtain ⟨ad', x', cs', e', _, hr', hc'⟩ := h.at_ hR (show 0 < n by omega)
  have hl := hR.len _ _ _ hr'
  have hz : cs'[0]? = some (cs'[0]'(by omega)) := List.getElem?_eq_getElem _
  have hs := spot_of_cell (hc' 0 _ hz)
  rw [e] at e'
  injection e' with e'
  subst e'
  obtain ⟨g, o, sp⟩ := ad
  have hsp : sp = none := by simpa [Addr.add] using hs
  subst hsp
  refine ⟨g, o, x, cs, e, hx, hr, fun j u hu => ?_⟩
  have := hc j u hu
  unfold Addr.add at this
  split at this
  · rename_i h0
    rw [show o + i * size + j = o by omega]
    exact this
  · rw [Nat.add_assoc]
    exact this
theorem Lst.upto (hR : Rep size R) {w : World} {A : Option Addr} {n c m : Nat} {xs : List α} (h : Lst size R w A n c xs) (hm : m ≤ n) : Lst size R w A m c (xs.take m) := by
  obtain ⟨css, h1, h2⟩ := h.rd
  have hlen := h.len
  have hcap := h.cap
  refine ⟨by simp; omega, by omega, h.max, css.take m, h1.take m, ?_, fun h0 => ?_⟩
  · rw [(h1.take m).flat hR, List.length_take, hlen, Nat.min_eq_left hm]
  · obtain ⟨ad, e, hc⟩ := h2.2 (by omega)
    refine ⟨ad, e, fun j u hu => hc j u ?_⟩
    rw [h1.flat_take hR, List.getElem?_take] at hu
    split at hu
    · exact hu
    · cases hu
theorem Lst.src {P : Program} (hR : Rep size R) {w : World} {A : Option Addr} {n c : Nat} {xs : List α} (h : Lst size R w A n c xs) {tx e' : TypeId} (hk : P.underlying tx = some (.slice e')) : ∃ css, All2 R w xs css ∧ Src P size tx (.slice A n c) n css.flatten w := by
  obtain ⟨css, h1, h2⟩ := h.rd
  exact ⟨css, h1, h2.src c hk (h1.one hR)⟩
structure OwnL (e : TypeId) (size : Nat) (R : α → List Value → World → Prop) (w : World) (B : Nat) (A : Option Addr) (n c : Nat) (xs : List α) : Prop where
  len : xs.length = n
  own : ∃ css, All2 R w xs css ∧ Own w B e size A n c css.flatten ∧ ∀ cs ∈ css, ∀ k, Pts cs k → rowOf A c ≠ some k
theorem OwnL.lst {e : TypeId} {w : World} {B : Nat} {A : Option Addr} {n c : Nat} {xs : List α} (h : OwnL e size R w B A n c xs) : Lst size R w A n c xs := by
  obtain ⟨css, h1, h2, _⟩ := h.own
  exact ⟨h.len, h2.caps.1, h2.caps.2, css, h1, h2.rd⟩
theorem OwnL.nil (e : TypeId) (w : World) (B : Nat) (A : Option Addr) : OwnL e size R w B A 0 0 ([] : List α) := ⟨rfl, [], .nil, Own.nil _ _ _ _ _, by simp⟩
theorem OwnL.low {e : TypeId} {w : World} {B B' : Nat} {A : Option Addr} {n c : Nat} {xs : List α} (h : OwnL e size R w B A n c xs) (hB : B' ≤ B) : OwnL e size R w B' A n c xs := by
  obtain ⟨css, h1, h2, h3⟩ := h.own
  exact ⟨h.len, css, h1, h2.low hB, h3⟩
theorem OwnL.ext {e : TypeId} (hR : Rep size R) {w w' : World} {B : Nat} {A : Option Addr} {n c : Nat} {xs : List α} (h : OwnL e size R w B A n c xs) (hk : Ext w w') : OwnL e size R w' B A n c xs := by
  obtain ⟨css, h1, h2, h3⟩ := h.own
  exact ⟨h.len, css, h1.mono fun x cs _ hr => hR.keep _ _ _ _ hr fun k hp => Below.block hk k (hR.lt _ _ _ hr k hp), h2.ext hk, h3⟩
theorem OwnL.more {e : TypeId} (hR : Rep size R) {w w' : World} {B : Nat} {A A' : Option Addr} {n m c c' : Nat} {xs ys : List α} {css dss : List (List Value)}
    (hlx : xs.length = n) (hly : ys.length = m) (h1 : All2 R w xs css) (h3 : ∀ cs ∈ css, ∀ k, Pts cs k → rowOf A c ≠ some k)
    (k1 : All2 R w ys dss) (k3 : ∀ cs ∈ dss, ∀ k, Pts cs k → rowOf A c ≠ some k)
    (ho : Own w' B e size A' (n + m) c' (css.flatten ++ dss.flatten)) (hg : w.grownBy w' (rowOf A c)) (hr : rowOf A' c' = rowOf A c ∨ rowOf A' c' = some w.heap.size) :
    OwnL e size R w' B A' (n + m) c' (xs ++ ys) := by
  have step : ∀ {zs : List α} {ess : List (List Value)}, All2 R w zs ess → (∀ cs ∈ ess, ∀ k, Pts cs k → rowOf A c ≠ some k) → All2 R w' zs ess ∧ ∀ cs ∈ ess, ∀ k, Pts cs k → rowOf A' c' ≠ some k := by
    intro zs ess hz hp
    have hlt : ∀ {zs : List α} {ess : List (List Value)}, All2 R w zs ess → ∀ cs ∈ ess, ∀ k, Pts cs k → k < w.heap.size := by
      intro zs ess hz
      induction hz with
      | nil => intro cs hc; simp at hc
      | cons h t ih =>
        intro cs hc k hk
        rcases List.mem_cons.1 hc with rfl | hc
        · exact hR.lt _ _ _ h k hk
        · exact ih cs hc k hk
    refine ⟨hz.mono fun x cs hm hrx => hR.keep _ _ _ _ hrx fun k hk => hg.block k (hR.lt _ _ _ hrx k hk) fun e => hp cs hm k hk e.symm, fun cs hm k hk => ?_⟩
    rcases hr with hr | hr
    · rw [hr]; exact hp cs hm k hk
    · rw [hr]
      intro e
      injection e with e
      have := hlt hz cs hm k hk
      omega
  obtain ⟨a1, a2⟩ := step h1 h3
  obtain ⟨b1, b2⟩ := step k1 k3
  refine ⟨by simp [hlx, hly], css ++ dss, a1.append b1, by rw [List.flatten_append]; exact ho, fun cs hc k hk => ?_⟩
  rcases List.mem_append.1 hc with hc | hc
  · exact a2 cs hc k hk
  · exact b2 cs hc k hk
theorem OwnL.row_lt {e : TypeId} {w : World} {B : Nat} {A : Option Addr} {n c : Nat} {xs : List α} (h : OwnL e size R w B A n c xs) : ∀ k, rowOf A c = some k → B ≤ k ∧ k < w.heap.size := by
  obtain ⟨css, _, h2, _⟩ := h.own
  exact h2.row_ge
end
theorem src_cells {P : Program} {w : World} {size : Nat} {tx e e' : TypeId} (hk : P.underlying tx = some (.slice e')) (C : Array Value) (hC : C.size = size) (hu : ∀ u ∈ C.toList, u.oneCell' = true) : Src P size tx (.slice (some ⟨w.heap.size, 0, none⟩) 1 1) 1 C.toList (w.alloc (.cells C e)) := by
  refine Src.ofSlice (P := P) _ hk _ 1 1 _ (by simp [hC]) (fun j v hj => ?_) hu
  have hadd : (⟨w.heap.size, 0, none⟩ : Addr).add j = ⟨w.heap.size, j, none⟩ := by unfold Addr.add; split <;> simp_all
  rw [hadd, cell_of_row _ _ j C e (0, 0) (heap_alloc_new w _)]
  simpa using hj
structure En where
  t : Int
  s : Int
  d : List UInt8
  deriving DecidableEq
def enR (x : En) (cs : List Value) (w : World) : Prop := ∃ A n c, cs = [.int .i64 x.t, .int .i64 x.s, .slice A n c] ∧ Sl w A n c x.d
theorem pts_slice {cs : List Value} {A : Option Addr} {n k : Nat} (h : Pts cs k) (hcs : ∀ ad m c', Value.slice (some ad) m c' ∈ cs → A = some ad ∧ m = n) : ∃ ad, A = some ad ∧ 0 < n ∧ ad.block = k := by
  obtain ⟨ad, m, c', hm, h0, hb⟩ := h
  obtain ⟨e1, e2⟩ := hcs ad m c' hm
  exact ⟨ad, e1, by omega, hb⟩
theorem en_rep : Rep 3 enR where
  len := by rintro x cs w ⟨A, n, c, rfl, _⟩; rfl
  one := by
    rintro x cs w ⟨A, n, c, rfl, _⟩ u hu
    simp at hu
    rcases hu with rfl | rfl | rfl <;> rfl
  keep := by
    rintro x cs w w' ⟨A, n, c, rfl, hs⟩ hk
    exact ⟨A, n, c, rfl, hs.keepBlk fun ad e hn => hk _ ⟨ad, n, c, by simp [e], hn, rfl⟩⟩
  lt := by
    rintro x cs w ⟨A, n, c, rfl, hs⟩ k hp
    obtain ⟨ad, e, hn, rfl⟩ := pts_slice (A := A) (n := n) hp (by intro ad m c' hm; simp at hm; exact ⟨hm.1.symm, hm.2.1⟩)
    exact hs.blk ad e hn
end Go.Proofs.Ytoeknbogaclfdaa

namespace Go.Proofs.Ytoeknbogaclfdaa
open Go.RowKit
set_option linter.unusedVariables false
set_option linter.unusedSimpArgs false
theorem Ext.allocs {a w : World} (h : Ext a w) (o : Obj) : Ext a (w.alloc o) := h.trans (Ext.alloc w o)
theorem Ext.draws {a w : World} (h : Ext a w) : Ext a w.drew := h.trans (Ext.drew w)
theorem Ext.sets {a w : World} {p : Addr} (h : Ext a w) (hp : a.heap.size ≤ p.block) (u : Value) : Ext a (w.setCell p u) := Below.setCell h hp u
theorem grown_nil {w w' : World} {A : Option Addr} (hg : w.grownBy w' (rowOf A 0)) : Ext w w' := below_grown (Ext.refl w) (Own.nil w w.heap.size 0 1 A) hg (Nat.le_refl _)
theorem cut_from {w : World} {A : Option Addr} {n c : Nat} {l : List UInt8} (h : Sl w A n c l) (lo m : Nat) (x : Int) (hx : x = lo) (hm : lo + m = n) :
    ∃ A1 c1, (∀ w', (Instr.slice 23 (.slice A n c) (some (.int .i64 x)) none none).run Try.prog w' = .ok (.slice A1 m c1) w') ∧ Sl w A1 m c1 (l.drop lo) := by
  subst hx
  have hs := h.cut (lo := lo) (hi := n) (by omega) (by omega)
  have hcap := h.cap
  have hln := h.len
  rw [List.take_of_length_le (by rw [List.length_drop, hln]; omega), show n - lo = m by omega] at hs
  obtain ⟨i0, hi0, hz0, hz1, hz2⟩ := info_parts info_u8
  refine ⟨_, _, fun w' => ?_, hs⟩
  have e2 : ((lo : Nat) : Int) ≤ (n : Int) := by omega
  have e3 : lo ≤ n := by omega
  have e4 : n - lo = m := by omega
  simp [Instr.slice, run_underlying under_bytes, Instr.sliceBounds, run_sliceBound, sizeOf, typeInfo, hi0, hz1, e3, e4, hcap, e2]
theorem cut_mid {w : World} {A : Option Addr} {n c : Nat} {l : List UInt8} (h : Sl w A n c l) (lo m : Nat) (x y : Int) (hx : x = lo) (hy : y = ((lo + m : Nat) : Int)) (hm : lo + m ≤ n) :
    ∃ A1 c1, (∀ w', (Instr.slice 23 (.slice A n c) (some (.int .i64 x)) (some (.int .i64 y)) none).run Try.prog w' = .ok (.slice A1 m c1) w') ∧ Sl w A1 m c1 ((l.drop lo).take m) := by
  subst hx hy
  have hs := h.cut (lo := lo) (hi := lo + m) (by omega) (by omega)
  have hcap := h.cap
  rw [show lo + m - lo = m by omega] at hs
  refine ⟨_, _, fun w' => ?_, hs⟩
  have := run_cut w' A n c lo (lo + m) (by omega) (by omega)
  rw [show lo + m - lo = m by omega] at this
  exact this
theorem cut_upto {w : World} {A : Option Addr} {n c : Nat} {l : List UInt8} (h : Sl w A n c l) (m : Nat) (y : Int) (hy : y = (m : Int)) (hm : m ≤ n) :
    (∀ w', (Instr.slice 23 (.slice A n c) none (some (.int .i64 y)) none).run Try.prog w' = .ok (.slice A m c) w') ∧ Sl w A m c (l.take m) := by
  subst hy
  have hcap := h.cap
  obtain ⟨i0, hi0, hz0, hz1, hz2⟩ := info_parts info_u8
  refine ⟨fun w' => ?_, h.upto hm⟩
  have e1 : ((m : Nat) : Int) ≤ (c : Int) := by omega
  have e5 : m ≤ c := by omega
  by_cases hc : c = 0
  · have e6 : m = 0 := by omega
    subst hc e6
    cases A <;> simp [Instr.slice, run_underlying under_bytes, Instr.sliceBounds, run_sliceBound, sizeOf, typeInfo, hi0, hz1]
  · cases A <;> simp [Instr.slice, run_underlying under_bytes, Instr.sliceBounds, run_sliceBound, sizeOf, typeInfo, hi0, hz1, e1, e5, hc, Ne.symm hc, Addr.add]
end Go.Proofs.Ytoeknbogaclfdaa

namespace Go.Proofs.Ytoeknbogaclfdaa
open Go.RowKit
theorem cell_new (w : World) (cs : Array Value) (e : TypeId) (j : Nat) {u : Value} (hu : cs[j]? = some u := by rfl) : (w.alloc (.cells cs e)).cell? ⟨w.heap.size, j, none⟩ = some u :=
  (cell_of_row _ _ j cs e (0, 0) (heap_alloc_new w _)).trans hu
end Go.Proofs.Ytoeknbogaclfdaa

namespace Go.Proofs.Ytoeknbogaclfdaa
open Go.RowKit
set_option linter.unusedVariables false
set_option linter.unusedSimpArgs false
set_option linter.unnecessarySimpa false
set_option maxRecDepth 100000
def Feed (P : Program) {α : Type} (size : Nat) (R : α → List Value → World → Prop) (w : World) (tx : TypeId) (A : Option Addr) (c : Nat) (Y : Value) (m : Nat) (ys : List α) : Prop :=
  ys.length = m ∧ ∃ dss, All2 R w ys dss ∧ Src P size tx Y m dss.flatten w ∧ ∀ cs ∈ dss, ∀ k, Pts cs k → rowOf A c ≠ some k
theorem wpList_append_lst2 {P : Program} {α : Type} {size : Nat} {R : α → List Value → World → Prop} (hR : Rep size R)
    {ops : Array Oper} {rest : List Oper} {o : Oper} {a : Act} {Q : Exit → Act → World → Prop} {w w0 : World} (hgd : o.guard = none) (s y : Operand) (t tx : TypeId)
    (ho : o.op = .call { callee := .builtin .append, args := #[s, y], argTypes := #[t, tx] })
    (e : TypeId) (i : TypeInfo) (z : Value) (bytes : Nat) (ht : P.underlying t = some (.slice e)) (hi : P.info? e = some i) (hz : i.zero = some z)
    (hsize : i.size = size) (hby : i.bytes = bytes) (hzs : z.cells.size = size)
    (A : Option Addr) (n c : Nat) (xs : List α) (hsv : a.eval s = .slice A n c) (hown : OwnL e size R w w0.heap.size A n c xs) (Y : Value) (m : Nat) (ys : List α) (hy : a.eval y = Y) (hl : Feed P size R w tx A c Y m ys)
    (N : Nat) (hN : n + m = N) (zs : List α) (hzs' : xs ++ ys = zs) (h63 : N ≤ maxLen) (hbytes : N * bytes ≤ 140737488355328) (hx : Ext w0 w)
    (h : ∀ A' c' w', OwnL e size R w' w0.heap.size A' N c' zs → Ext w0 w' → w.grownBy w' (rowOf A c) → wpList P ops Q rest (a.put o.dst (.slice A' N c')) w') : wpList P ops Q (o :: rest) a w := by
  subst hN hzs'
  obtain ⟨css, ha, ho1, hp⟩ := hown.own
  obtain ⟨hlen, dss, hb, hsrc, hk⟩ := hl
  refine wpList_append_mine _ hgd s y t tx ho w0.heap.size e i z size bytes ht hi hz hsize hby hzs A n c _ hsv ho1 _ hy m _ hsrc h63 hbytes hx.size ?_
  intro A3 c3 w3 hown3 hg3 hr3
  exact h A3 c3 w3 (OwnL.more hR hown.len hlen ha hp hb hk hown3 hg3 hr3) (below_grown hx ho1 hg3 hx.size) hg3
theorem wpList_append_lst {P : Program} {α : Type} {size : Nat} {R : α → List Value → World → Prop} (hR : Rep size R)
    {ops : Array Oper} {rest : List Oper} {o : Oper} {a : Act} {Q : Exit → Act → World → Prop} {w w0 : World} (hgd : o.guard = none) (s y : Operand) (t tx : TypeId)
    (ho : o.op = .call { callee := .builtin .append, args := #[s, y], argTypes := #[t, tx] })
    (e : TypeId) (i : TypeInfo) (z : Value) (bytes : Nat) (ht : P.underlying t = some (.slice e)) (hi : P.info? e = some i) (hz : i.zero = some z)
    (hsize : i.size = size) (hby : i.bytes = bytes) (hzs : z.cells.size = size)
    (A : Option Addr) (n c : Nat) (xs : List α) (hsv : a.eval s = .slice A n c) (hown : OwnL e size R w w0.heap.size A n c xs) (Y : Value) (m : Nat) (ys : List α) (hy : a.eval y = Y) (hl : Feed P size R w tx A c Y m ys)
    (N : Nat) (hN : n + m = N) (zs : List α) (hzs' : xs ++ ys = zs) (h63 : N ≤ maxLen) (hbytes : N * bytes ≤ 140737488355328) (hx : Ext w0 w)
    (h : ∀ A' c' w', OwnL e size R w' w0.heap.size A' N c' zs → Ext w0 w' → wpList P ops Q rest (a.put o.dst (.slice A' N c')) w') : wpList P ops Q (o :: rest) a w :=
  wpList_append_lst2 hR hgd s y t tx ho e i z bytes ht hi hz hsize hby hzs A n c xs hsv hown Y m ys hy hl N hN zs hzs' h63 hbytes hx fun A' c' w' h1 h2 _ => h A' c' w' h1 h2
theorem Feed.lit {P : Program} {α : Type} {size : Nat} {R : α → List Value → World → Prop} (hR : Rep size R) {w : World} {e tx e' : TypeId} {A : Option Addr} {c : Nat} (C : Array Value) (x : α)
    (hr : R x C.toList w) (hk : P.underlying tx = some (.slice e')) (hp : ∀ k, Pts C.toList k → rowOf A c ≠ some k) {g : Nat} (hg : g = w.heap.size) : Feed P size R (w.alloc (.cells C e)) tx A c (.slice (some ⟨g, 0, none⟩) 1 1) 1 [x] := by
  subst hg
  refine ⟨rfl, [C.toList], .cons (hR.keep _ _ _ _ hr fun k hk => Below.block (Ext.alloc w _) k (hR.lt _ _ _ hr k hk)) .nil, ?_, fun cs hcs k hk => ?_⟩
  · have := src_cells (P := P) (w := w) (e := e) hk C (by have := hR.len _ _ _ hr; simpa using this) (by intro u hu; exact hR.one _ _ _ hr u hu)
    simpa using this
  · simp at hcs; subst hcs; exact hp k hk
end Go.Proofs.Ytoeknbogaclfdaa

namespace Go.Proofs.Ytoeknbogaclfdaa
open Go.RowKit
set_option linter.unusedVariables false
set_option linter.unusedSimpArgs false
theorem Lst.cut {α : Type} {size : Nat} {R : α → List Value → World → Prop} (hR : Rep size R) {w : World} {A : Option Addr} {n c lo hi : Nat} {l : List α} (h : Lst size R w A n c l) (h1 : lo ≤ hi) (h2 : hi ≤ n) :
    Lst size R w (if c = lo then A else A.map (·.add (lo * size))) (hi - lo) (c - lo) ((l.drop lo).take (hi - lo)) := by
  have hl := h.len
  have hcap := h.cap
  have hmax := h.max
  obtain ⟨css, q1, q2⟩ := h.rd
  refine ⟨by simp; omega, by omega, by omega, (css.drop lo).take (hi - lo), (q1.drop lo).take _, ?_, fun hn => ?_⟩
  · rw [((q1.drop lo).take _).flat hR, List.length_take, List.length_drop, hl, Nat.min_eq_left (by omega)]
  · obtain ⟨ad, rfl, hc⟩ := q2.2 (by omega)
    rw [if_neg (by omega)]
    refine ⟨ad.add (lo * size), rfl, fun j u hu => ?_⟩
    rw [add_of_add]
    refine hc _ u ?_
    rw [(q1.drop lo).flat_take hR, q1.flat_drop hR, List.getElem?_take] at hu
    split at hu
    · rw [List.getElem?_drop] at hu
      exact hu
    · cases hu
end Go.Proofs.Ytoeknbogaclfdaa

namespace Go.Proofs.Ytoeknbogaclfdaa
open Go.RowKit
set_option linter.unusedVariables false
set_option maxRecDepth 100000
theorem Sl.at2 {w : World} {A : Option Addr} {n c k : Nat} {l : List UInt8} (h : Sl w A n c l) (hk : k < n) : ∃ g o, A = some ⟨g, o, none⟩ ∧ w.cell? ⟨g, o + k, none⟩ = some (.int .u8 ((l.getD k 0).toNat : Int)) := by
  obtain ⟨ad, e, hc⟩ := h.atD hk
  obtain ⟨ad', e', hc'⟩ := h.atD (k := 0) (by omega)
  rw [e] at e'
  injection e' with e'
  subst e'
  have hs := spot_of_cell hc'
  obtain ⟨g, o, sp⟩ := ad
  have hsp : sp = none := by simpa [Addr.add] using hs
  subst hsp
  refine ⟨g, o, e, ?_⟩
  unfold Addr.add at hc
  split at hc
  · rename_i h0
    subst h0
    simpa using hc
  · exact hc
theorem Byt.grown {E : TypeId} {w w' : World} {B n c g : Nat} {l : List UInt8} (h : Byt E w B (some ⟨g, 0, none⟩) n c l) {row : Option Nat} (hk : w.grownBy w' row) (hne : row ≠ some g) : Byt E w' B (some ⟨g, 0, none⟩) n c l :=
  ⟨h.len, h.own.grown hk fun g' hg' e => by
    unfold rowOf at hg'
    split at hg'
    · cases hg'
    · simp at hg'; subst hg'; exact hne e.symm⟩
theorem Byt.row_lt {E : TypeId} {w : World} {B n c g : Nat} {l : List UInt8} (h : Byt E w B (some ⟨g, 0, none⟩) n c l) (hc : c ≠ 0) : B ≤ g ∧ g < w.heap.size := by
  refine h.own.row_ge g ?_
  unfold rowOf
  rw [if_neg hc]
  rfl
end Go.Proofs.Ytoeknbogaclfdaa

namespace Go.Proofs.Ytoeknbogaclfdaa
open Go.RowKit
set_option linter.unusedVariables false
section
variable {P : Program} {N R : World → World → Prop} {Q : Exit → Act → World → Prop}
theorem step_typed2 {ops : Array Oper} {full : List Sp} {M : List Nat} {W : Nat} {a0 : Act} {w0 : World} (hN : Steady N) (hR : Steady R) (hNR : ∀ w w', N w w' → R w w') (hops : ops = (full.map Sp.o).toArray)
    (hok : regionOk a0.tmps.size (full.map Sp.o) = true) (hM : maskOk (full.map Sp.o) M = true) (hW : W < 2 ^ full.length)
    (hkeep : ∀ p ∈ full, Keeps N p.T ∧ (p.st = true → Keeps R p.T)) (i : Nat)
    (hobl : ∀ sp, full[i]? = some sp → ∃ (fl : List Bool) (pu wr : Bool), (flagsOk2 ops M W ((full.take i).map Sp.st) i sp.o fl && (W.testBit i == wr) && (!pu || pureOk M W ops.size i)) = true ∧
        ∀ w1, Sel N R pu w0 w1 → Given w1 (fun a => wpList P ops (Post (Sel N R (!wr)) sp.T sp.o a w1) [sp.o] a w1) fl ((full.take i).map Sp.pr) a0) :
    ∀ (listed : Array Bool) (a : Act) (w : World) (K : Act → World → Prop), Midway2 N R full M W a0 w0 listed a w → i ∈ Region.ready .any ops listed →
      (∀ a' w', Midway2 N R full M W a0 w0 (listed.setIfInBounds i true) a' w' → K a' w') → wpOp P ops Q i K a w := by
  simp only [regionOk, Bool.and_eq_true] at hok
  obtain ⟨⟨hdist, hall⟩, hback⟩ := hok
  have hopsz : ops.size = full.length := by subst hops; simp
  have hWl : ∀ j, W.testBit j = true → j < full.length := by
    intro j hj
    by_cases h : j < full.length
    · exact h
    · have := Nat.testBit_lt_two_pow (Nat.lt_of_lt_of_le hW (Nat.pow_le_pow_right (by omega) (show full.length ≤ j by omega)))
      rw [this] at hj
      cases hj
  have hdst : ∀ (k j : Nat) (s s' : Sp) (d : Tmp), full[k]? = some s → full[j]? = some s' → s.o.dst = some d → s'.o.dst = some d → k = j := by
    intro k j s s' d hk hj hd hd'
    exact distinct_spec _ hdist k j s.o s'.o d (by simp [hk]) (by simp [hj]) hd hd'
  have hgood : ∀ (k : Nat) (s : Sp), full[k]? = some s → goodOp s.o = true ∧ ∀ d, s.o.dst = some d → d < a0.tmps.size := by
    intro k s hk
    have h1 := List.all_eq_true.1 hall s.o (List.mem_map.2 ⟨s, List.mem_of_getElem? hk, rfl⟩)
    simp only [Bool.and_eq_true] at h1
    refine ⟨h1.1, fun d hd => ?_⟩
    have h2 := h1.2
    rw [hd] at h2
    simpa using h2
  have hedge : ∀ (k : Nat) (s : Sp), full[k]? = some s → ∀ e ∈ s.o.after, Region.binds .any e = true → e.on < k := by
    intro k s hk e he hb
    have hm : (s.o, k) ∈ (full.map Sp.o).zipIdx := by
      rw [List.mem_zipIdx_iff_getElem?]
      simp [hk]
    have h1 := List.all_eq_true.1 hback (s.o, k) hm
    have h2 := Array.all_eq_true_iff_forall_mem.1 h1 e he
    simpa [hb] using h2
  have hopsk : ∀ (k : Nat) (s : Sp), full[k]? = some s → ops[k]? = some s.o := by
    intro k s hk
    subst hops
    simp [hk]
  have hopsk' : ∀ (k : Nat) (o : Oper), ops[k]? = some o → ∃ s, full[k]? = some s ∧ s.o = o := by
    intro k o hk
    subst hops
    simp only [List.getElem?_toArray, List.getElem?_map, Option.map_eq_some_iff] at hk
    exact hk
  have getl : ∀ {listed : Array Bool} {i : Nat}, i < listed.size → ∀ x y, listed.getD i x = listed.getD i y := fun h x y => getD_of_lt h x y
  intro listed a w K hm hi hK
  obtain ⟨hun, o, ho, hedges⟩ := mem_ready.1 hi
  obtain ⟨sp, hiT, rfl⟩ := hopsk' i o ho
  obtain ⟨fl, pu, wr, hchk, hob⟩ := hobl sp hiT
  have hil : i < full.length := (List.getElem?_eq_some_iff.1 hiT).1
  have hunf : listed.getD i false = false := by rw [getD_of_lt (by rw [hm.lsize]; exact hil) false true, hun]
  simp only [flagsOk2, Bool.and_eq_true, beq_iff_eq, Bool.or_eq_true, Bool.not_eq_true'] at hchk
  obtain ⟨⟨⟨hlooks, hflag⟩, hwr⟩, hpu⟩ := hchk
  have hreach : ∀ k, k < full.length → mbit M i k = true → listed.getD k false = true := fun k hk hb => mask_reach hM hm.closed i sp k hiT hedges hk hb
  have hreach2 : ∀ j k, j < full.length → k < full.length → listed.getD j false = true → mbit M j k = true → listed.getD k false = true := by
    intro j k hj hk hl hb
    obtain ⟨s, hs⟩ : ∃ s, full[j]? = some s := ⟨_, List.getElem?_eq_getElem hj⟩
    exact mask_reach hM hm.closed j s k hs (hm.closed j s hs hl) hk hb
  have hnoti : ∀ j, j < full.length → listed.getD j false = true → mbit M j i = true → False := by
    intro j hj hl hb
    have := hreach2 j i hj hil hl hb
    rw [hunf] at this
    cases this
  let g : Nat → Value := fun t => a.tmps.getD t undef
  have hflagk : ∀ k, fl.getD k false = true → mbit M i k = true ∧ (((full.take i).map Sp.st).getD k false = true ∨ noneBetween M W ops.size i k = true) := by
    intro k hk
    have hk' : fl[k]? = some true := by
      cases hc : fl[k]? with
      | none => simp [List.getD, hc] at hk
      | some b => simp only [List.getD, hc, Option.getD_some] at hk; rw [hk]
    have hmem : (true, k) ∈ fl.zipIdx := by rw [List.mem_zipIdx_iff_getElem?]; exact hk'
    have h1 := List.all_eq_true.1 hflag (true, k) hmem
    simpa only [Bool.not_true, Bool.false_or, Bool.and_eq_true, Bool.or_eq_true] using h1
  have hrel : Sel N R pu w0 w := by
    cases pu with
    | false => exact hm.world
    | true =>
      refine hm.clean fun j hj => ?_
      have hjl := hWl j hj
      rcases hpu with h | h
      · cases h
      · have h2 := List.all_eq_true.1 h j (List.mem_range.2 (by rw [hopsz]; exact hjl))
        simp only [hj, Bool.not_true, Bool.false_or, Bool.or_eq_true, beq_iff_eq] at h2
        cases hl : listed.getD j false with
        | false => rfl
        | true =>
          rcases h2 with h2 | h2
          · subst h2; rw [hunf] at hl; cases hl
          · exact absurd h2 (fun h => hnoti j hjl hl h)
  have hgiven := Given.at_ g fl ((full.take i).map Sp.pr) a0 (hob w hrel) (by
    intro k o' T' hk hl
    rw [List.getElem?_map, Option.map_eq_some_iff] at hl
    obtain ⟨s, hl, he⟩ := hl
    simp only [Sp.pr, Prod.mk.injEq] at he
    obtain ⟨rfl, rfl⟩ := he
    have hl' : full[k]? = some s := by
      rw [List.getElem?_take] at hl
      split at hl
      · exact hl
      · cases hl
    have hkl : k < full.length := (List.getElem?_eq_some_iff.1 hl').1
    obtain ⟨hb, hst⟩ := hflagk k hk
    have hlk := hreach k hkl hb
    have h1 := hm.done k s hl' hlk (by
      rcases hst with hst | hst
      · left
        have e : ((full.take i).map Sp.st)[k]? = some s.st := by rw [List.getElem?_map, hl]; rfl
        rw [List.getD_eq_getElem?_getD, e] at hst
        exact hst
      · right
        intro j hj hw hlj
        have h2 := List.all_eq_true.1 hst j (List.mem_range.2 (by rw [hopsz]; exact hj))
        simp only [hw, Bool.not_true, Bool.false_or, Bool.or_eq_true, beq_iff_eq] at h2
        rcases h2 with ((h2 | h2) | h2) | h2
        · exact .inl h2
        · subst h2; rw [hunf] at hlj; cases hlj
        · exact absurd h2 (fun h => hnoti j hj hlj h)
        · exact .inr h2)
    unfold dstVal at h1
    cases hd : s.o.dst with
    | none => simpa [hd] using h1
    | some d => simpa [hd, g] using h1)
  have hslot : ∀ t ∈ sp.o.looksAt ops, a.tmps[t]? = (canon fl ((full.take i).map Sp.pr) g a0).tmps[t]? := by
    intro t ht
    have h1 := List.all_eq_true.1 hlooks t ht
    by_cases hex : ∃ (k : Nat) (s : Sp), full[k]? = some s ∧ s.o.dst = some t
    · obtain ⟨k, s, hk, hd⟩ := hex
      have hmem : (s.o, k) ∈ ops.toList.zipIdx := by
        rw [List.mem_zipIdx_iff_getElem?]
        simpa using hopsk k s hk
      have h2 := List.all_eq_true.1 h1 (s.o, k) hmem
      simp only [hd, bne_self_eq_false, Bool.false_or, Bool.and_eq_true, Bool.or_eq_true, decide_eq_true_eq] at h2
      have hlt := (hgood k s hk).2 t hd
      have hkl0 : k < full.length := (List.getElem?_eq_some_iff.1 hk).1
      rcases h2 with h2 | h2
      case inr =>
        have hul : listed.getD k false = false := by
          cases hl : listed.getD k false with
          | false => rfl
          | true => exact absurd h2.1 (fun h => hnoti k hkl0 hl h)
        rw [canon_other g t fl ((full.take i).map Sp.pr) a0 (by
          intro p hp hdp
          obtain ⟨s', hs', rfl⟩ := List.mem_map.1 hp
          obtain ⟨k', hk'⟩ := List.mem_iff_getElem?.1 hs'
          rw [List.getElem?_take] at hk'
          split at hk'
          · have := hdst k' k s' s t hk' hk hdp hd
            omega
          · cases hk'), hm.other t (by
          intro k' s' hk' hd'
          have := hdst k' k s' s t hk' hk hd' hd
          rw [this]
          exact hul)]
      rw [canon_at g t fl ((full.take i).map Sp.pr) a0 k s.o s.T hlt h2.1 (by rw [List.getElem?_map, List.getElem?_take, if_pos h2.2, hk]; rfl) hd]
      have hlt' : t < a.tmps.size := by rw [hm.size]; exact hlt
      simp [g, Array.getD, hlt']
    · have hno : ∀ p ∈ full, p.o.dst ≠ some t := by
        intro s hp hd
        obtain ⟨k, hk⟩ := List.mem_iff_getElem?.1 hp
        exact hex ⟨k, s, hk, hd⟩
      rw [canon_other g t fl ((full.take i).map Sp.pr) a0 (by
        intro p hp
        obtain ⟨s, hs, rfl⟩ := List.mem_map.1 hp
        exact hno s (List.mem_of_mem_take hs)), hm.other t (fun k s hk hd => absurd hd (hno s (List.mem_of_getElem? hk)))]
  have hgo := hgood i sp hiT
  have hnosel : ∀ cs b, sp.o.op ≠ .select cs b := by
    intro cs b h
    have h1 := hgo.1
    simp [goodOp, h] at h1
  have hexec : execOp a.eval sp.o = execOp (canon fl ((full.take i).map Sp.pr) g a0).eval sp.o := by
    refine execOp_congr sp.o hnosel fun x hx => ?_
    cases x with
    | tmp t =>
      have ht : t ∈ sp.o.looksAt ops := List.mem_append_left _ (List.mem_filterMap.2 ⟨.tmp t, by simpa using hx, rfl⟩)
      have h1 := hslot t ht
      simp only [Act.eval]
      simp only [Array.getD_eq_getD_getElem?, h1]
    | const v => rfl
    | global v => rfl
    | func f => rfl
  have hwant : Region.wanted sp.o (yielded ops a.tmps) = Region.wanted sp.o (yielded ops (canon fl ((full.take i).map Sp.pr) g a0).tmps) := by
    unfold Region.wanted
    cases hg : sp.o.guard with
    | none => rfl
    | some gw =>
      obtain ⟨gi, want⟩ := gw
      have : yielded ops a.tmps gi = yielded ops (canon fl ((full.take i).map Sp.pr) g a0).tmps gi := by
        unfold yielded
        cases ht : (ops[gi]?).bind (·.dst) with
        | none => rfl
        | some t =>
          have hin : t ∈ sp.o.looksAt ops := List.mem_append_right _ (by simp [hg, ht])
          have h1 := hslot t hin
          simp [h1]
      simp only [this]
  unfold wpOp
  simp only [ho]
  refine upon_transfer (R := Sel N R (!wr)) hexec hwant (fun d hd => by rw [canon_size]; exact hgo.2 d hd) hgiven fun v w' hww hTv => hK _ _ ?_
  have hRww := sel_le hNR _ _ _ hww
  have hset : ∀ k, k < full.length → (listed.setIfInBounds i true).getD k false = true → k = i ∨ listed.getD k false = true := by
    intro k hk h
    by_cases hki : k = i
    · exact .inl hki
    · right
      rwa [getD_set_ne false (Ne.symm hki)] at h
  have hmono : ∀ k, listed.getD k false = true → (listed.setIfInBounds i true).getD k false = true := by
    intro k h
    by_cases hki : k = i
    · subst hki; rw [hunf] at h; cases h
    · rw [getD_set_ne false (Ne.symm hki)]; exact h
  have hseti : (listed.setIfInBounds i true).getD i false = true := by
    have : i < listed.size := by rw [hm.lsize]; exact hil
    simp [Array.getD, this]
  refine ⟨hR.trans _ _ _ hm.world hRww, ?_, ?_, ?_, by simpa using hm.lsize, ?_, ?_, ?_⟩
  · intro hno
    have hwi : W.testBit i = false := by
      cases h : W.testBit i with
      | false => rfl
      | true => have := hno i h; rw [hseti] at this; cases this
    rw [hwi] at hwr
    subst hwr
    refine hN.trans _ _ _ (hm.clean fun j hj => ?_) hww
    cases hl : listed.getD j false with
    | false => rfl
    | true => have := hno j hj; rw [hmono j hl] at this; cases this
  · rw [← hm.defers]; cases sp.o.dst <;> simp [Act.put]
  · rw [← hm.size]; cases sp.o.dst <;> simp [Act.put]
  · intro t hno
    rw [← hm.other t (fun k s hk hd => by
      have h1 := hno k s hk hd
      cases hl : listed.getD k false with
      | false => rfl
      | true => rw [hmono k hl] at h1; cases h1)]
    have h0 : sp.o.dst ≠ some t := fun hd => by
      have h1 := hno i sp hiT hd
      rw [hseti] at h1
      cases h1
    cases hd : sp.o.dst with
    | none => simp [Act.put]
    | some d =>
      have : d ≠ t := fun e => h0 (by simp [hd, e])
      simp [Act.put, Array.getElem?_setIfInBounds_ne this]
  · intro k s hk hlk e he hb
    have hkl : k < full.length := (List.getElem?_eq_some_iff.1 hk).1
    rcases hset k hkl hlk with rfl | hlk'
    · rw [hiT] at hk
      simp only [Option.some.injEq] at hk
      subst hk
      exact hmono _ (hedges e he hb)
    · exact hmono _ (hm.closed k s hk hlk' e he hb)
  · intro k s hk hlk hal
    have hkl : k < full.length := (List.getElem?_eq_some_iff.1 hk).1
    by_cases hki : k = i
    · subst hki
      rw [hiT] at hk
      simp only [Option.some.injEq] at hk
      subst hk
      unfold dstVal
      cases hd : sp.o.dst with
      | none => simpa [hd] using hTv
      | some d =>
        have hlt : d < a.tmps.size := by rw [hm.size]; exact hgo.2 d hd
        rw [hd] at hTv
        simpa [Act.put, hlt] using hTv
    · have hlk' : listed.getD k false = true := by rwa [getD_set_ne false (Ne.symm hki)] at hlk
      have e : dstVal s.o (a.put sp.o.dst v) = dstVal s.o a := by
        unfold dstVal
        cases hd' : s.o.dst with
        | none => rfl
        | some d' =>
          cases hd : sp.o.dst with
          | none => rfl
          | some d =>
            have hne : d ≠ d' := fun e => hki (hdst k i s sp d' hk hiT hd' (by rw [hd, e]))
            simp [Act.put, Array.getElem?_setIfInBounds_ne hne]
      rw [e]
      obtain ⟨hkN, hkR⟩ := hkeep s (List.mem_of_getElem? hk)
      rcases hal with hst | hal
      · exact hkR hst _ _ _ hRww (hm.done k s hk hlk' (.inl hst))
      · have hwi : W.testBit i = false := by
          cases h : W.testBit i with
          | false => rfl
          | true =>
            rcases hal i hil h hseti with h2 | h2
            · exact absurd h2.symm hki
            · have := hreach2 k i hkl hil hlk' h2
              rw [hunf] at this
              cases this
        rw [hwi] at hwr
        subst hwr
        exact hkN _ _ _ hww (hm.done k s hk hlk' (.inr fun j hj hw hlj => hal j hj hw (hmono j hlj)))
structure Sp3 where
  o : Oper
  T : Value → Ty
  st : Bool
abbrev Sp3.at (s : Sp3) (γ : Value) : Sp := ⟨s.o, s.T γ, s.st⟩
def Stage3 (P : Program) (ops : Array Oper) (N R : World → World → Prop) (M : List Nat) (W ia : Nat) (a0 : Act) (w0 : World) (K : Act → World → Prop) : List Sp3 → List Oper → Prop
  | done, [] => ∃ al : List Bool, aliveOk M W ops.size (done.map Sp3.st) al = true ∧ ∀ γ w', Sel N R (W == 0) w0 w' → Fin2 w' (fun a => K a w') al (done.map fun s => (s.at γ).pr) a0
  | done, o :: r => ∃ (T : Value → Ty) (st : Bool) (fl : List Bool) (pu wr : Bool), (∀ γ, Keeps N (T γ) ∧ (st = true → Keeps R (T γ))) ∧ (done.length ≠ ia → mbit M done.length ia = true ∨ ∀ γ γ' v w, T γ v w → T γ' v w) ∧ (flagsOk2 ops M W (done.map Sp3.st) done.length o fl && (W.testBit done.length == wr) && (!pu || pureOk M W ops.size done.length)) = true ∧
      (∀ γ w1, Sel N R pu w0 w1 → Given w1 (fun a => wpList P ops (Post (Sel N R (!wr)) (if done.length = ia then fun v w => T v v w else T γ) o a w1) [o] a w1) fl (done.map fun s => (s.at γ).pr) a0) ∧ Stage3 P ops N R M W ia a0 w0 K (done ++ [⟨o, T, st⟩]) r
theorem Stage3.all {ops : Array Oper} {M : List Nat} {W ia : Nat} {a0 : Act} {w0 : World} {K : Act → World → Prop} : ∀ (todo : List Oper) (done : List Sp3), Stage3 P ops N R M W ia a0 w0 K done todo →
    ∃ rest : List Sp3, rest.map Sp3.o = todo ∧ (∀ p ∈ rest, ∀ γ, Keeps N (p.T γ) ∧ (p.st = true → Keeps R (p.T γ))) ∧
      (∃ al : List Bool, aliveOk M W ops.size ((done ++ rest).map Sp3.st) al = true ∧ ∀ γ w', Sel N R (W == 0) w0 w' → Fin2 w' (fun a => K a w') al ((done ++ rest).map fun s => (s.at γ).pr) a0) ∧
      (∀ i sp, rest[i]? = some sp → done.length + i ≠ ia → mbit M (done.length + i) ia = true ∨ ∀ γ γ' v w, sp.T γ v w → sp.T γ' v w) ∧
      ∀ i sp, rest[i]? = some sp → ∃ (fl : List Bool) (pu wr : Bool), (flagsOk2 ops M W ((done ++ rest.take i).map Sp3.st) (done.length + i) sp.o fl && (W.testBit (done.length + i) == wr) && (!pu || pureOk M W ops.size (done.length + i))) = true ∧
        ∀ γ w1, Sel N R pu w0 w1 → Given w1 (fun a => wpList P ops (Post (Sel N R (!wr)) (if done.length + i = ia then fun v w => sp.T v v w else sp.T γ) sp.o a w1) [sp.o] a w1) fl ((done ++ rest.take i).map fun s => (s.at γ).pr) a0
  | [], done, h => ⟨[], rfl, by simp, by simpa [Stage3] using h, by simp, by simp⟩
  | o :: r, done, h => by
    obtain ⟨T, st, fl, pu, wr, hk, hc, hf, ho, hs⟩ := h
    obtain ⟨rest, h1, h2, h3, h5, h4⟩ := Stage3.all r _ hs
    refine ⟨⟨o, T, st⟩ :: rest, by simp [h1], ?_, by simpa using h3, ?_, ?_⟩
    · intro p hp
      rcases List.mem_cons.1 hp with rfl | hp
      · exact hk
      · exact h2 p hp
    · intro i sp hi hne
      rcases i with _ | i
      · simp only [List.getElem?_cons_zero, Option.some.injEq] at hi
        subst hi
        exact hc (by simpa using hne)
      · have := h5 i sp (by simpa using hi) (by simp; omega)
        simp only [List.length_append, List.length_singleton] at this
        rw [show done.length + 1 + i = done.length + (i + 1) by omega] at this
        exact this
    · intro i sp hi
      rcases i with _ | i
      · simp only [List.getElem?_cons_zero, Option.some.injEq] at hi
        subst hi
        exact ⟨fl, pu, wr, by simpa using hf, by simpa using ho⟩
      · obtain ⟨fl', pu', wr', hf', ho'⟩ := h4 i sp (by simpa using hi)
        simp only [List.length_append, List.length_singleton, List.append_assoc, List.singleton_append] at hf' ho'
        rw [show done.length + 1 + i = done.length + (i + 1) by omega] at hf' ho'
        exact ⟨fl', pu', wr', by simpa using hf', by simpa using ho'⟩
theorem Stage3.nil {ops : Array Oper} {M : List Nat} {W ia : Nat} {a0 : Act} {w0 : World} {K : Act → World → Prop} {done : List Sp3} (al : List Bool) (hal : aliveOk M W ops.size (done.map Sp3.st) al = true)
    (h : ∀ γ w', Sel N R (W == 0) w0 w' → Fin2 w' (fun a => K a w') al (done.map fun s => (s.at γ).pr) a0) : Stage3 P ops N R M W ia a0 w0 K done [] := ⟨al, hal, h⟩
theorem Stage3.step {ops : Array Oper} {M : List Nat} {W ia : Nat} {a0 : Act} {w0 : World} {K : Act → World → Prop} {done : List Sp3} {o : Oper} {r : List Oper} (T : Ty) (st : Bool) (fl : List Bool) (pu wr : Bool) (hk : Keeps N T) (hk2 : st = true → Keeps R T)
    (hf : ((flagsOk2 ops M W (done.map Sp3.st) done.length o fl && (W.testBit done.length == wr) && (!pu || pureOk M W ops.size done.length)) && (done.length != ia)) = true)
    (h : ∀ γ w1, Sel N R pu w0 w1 → Given w1 (fun a => wpList P ops (Post (Sel N R (!wr)) T o a w1) [o] a w1) fl (done.map fun s => (s.at γ).pr) a0)
    (hr : Stage3 P ops N R M W ia a0 w0 K (done ++ [⟨o, fun _ => T, st⟩]) r) : Stage3 P ops N R M W ia a0 w0 K done (o :: r) := by
  rw [Bool.and_eq_true] at hf
  have hne : done.length ≠ ia := by simpa using hf.2
  exact ⟨fun _ => T, st, fl, pu, wr, fun _ => ⟨hk, hk2⟩, fun _ => .inr fun _ _ _ _ h => h, hf.1, by simp only [hne, if_false]; exact h, hr⟩
end
attribute [irreducible] Stage3
end Go.Proofs.Ytoeknbogaclfdaa
