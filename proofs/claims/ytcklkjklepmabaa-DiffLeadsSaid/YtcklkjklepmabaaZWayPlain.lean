/-
  The way from one image to another: it leads there, and each of its events is taken and changes something; plain.
-/
import Derived.Test.YtcklkjklepmabaaZFoldLaws
import Derived.Test.YtcklkjklepmabaaZDiffLeastP
namespace Go.Proofs.Ytcklkjklepmabaa
open Go.RowKit
set_option linter.unusedVariables false

def alikeL : List Ol → List Ol → Nat
  | x :: xs, y :: ys => if x = y then alikeL xs ys + 1 else 0
  | [], _ => 0
  | _ :: _, [] => 0
def snapsW : List UInt8 → List Ol → List UInt8 → List Ev
  | now, [], last => bytesL now last
  | now, x :: xs, last => bytesL now x.d ++ ⟨5, 0, 0, [], x.nm⟩ :: snapsW x.d xs last
def unE (x : Ol) : Ev := ⟨6, 0, 0, [], x.nm⟩
def wayS (a b : St) : List Ev := if rightS a && rightS b then (a.sn.drop (alikeL a.sn b.sn)).reverse.map unE ++ snapsW a.d (b.sn.drop (alikeL a.sn b.sn)) b.d else []
def chkE (s : St) (e : Ev) : Nat := checkN s e.k e.o e.m e.l.length e.s
def appE (s : St) (e : Ev) : St := applyS s e.k e.o e.m e.l e.s
def ledS : St → List Ev → St → Prop
  | s, [], t => s = t
  | s, e :: l, t => chkE s e = 0 ∧ appE s e ≠ s ∧ ledS (appE s e) l t
theorem led_append : ∀ {l m : List Ev} {s u t : St}, ledS s l u → ledS u m t → ledS s (l ++ m) t
  | [], m, s, u, t, h, h2 => by cases h; exact h2
  | e :: l, m, s, u, t, h, h2 => ⟨h.1, h.2.1, led_append h.2.2 h2⟩
theorem led_fold : ∀ {l : List Ev} {s t : St}, ledS s l t → foldS s l = t
  | [], s, t, h => h
  | e :: l, s, t, h => by
    show foldS (stepS s e) l = t
    rw [step_yes h.1]
    exact led_fold h.2.2
theorem led_at : ∀ {l : List Ev} {s t : St}, ledS s l t → ∀ {k : Nat} {e : Ev}, l[k]? = some e → chkE (foldS s (l.take k)) e = 0 ∧ appE (foldS s (l.take k)) e ≠ foldS s (l.take k)
  | [], s, t, h, k, e, hk => by simp at hk
  | x :: l, s, t, h, 0, e, hk => by
    simp at hk
    subst hk
    exact ⟨h.1, h.2.1⟩
  | x :: l, s, t, h, k + 1, e, hk => by
    have h1 : foldS s ((x :: l).take (k + 1)) = foldS (appE s x) (l.take k) := by
      show foldS (stepS s x) (l.take k) = _
      rw [step_yes h.1]
      rfl
    rw [h1]
    exact led_at h.2.2 (by simpa using hk)
theorem mix_more {x b : List UInt8} {q N : Nat} (h : x.length = b.length) (hq : q + N ≤ b.length) : over (mixL x b q) q ((b.drop q).take N) = mixL x b (q + N) := by
  have hl : (b.take q).length = q := by rw [List.length_take]; omega
  have hl2 : ((b.drop q).take N).length = N := by rw [List.length_take, List.length_drop]; omega
  have e1 : ((b.take q) ++ x.drop q).drop (q + N) = x.drop (q + N) := by
    rw [List.drop_append, List.drop_of_length_le (by omega : (b.take q).length ≤ q + N), List.nil_append, hl, List.drop_drop]
    congr 1
    omega
  unfold over mixL
  rw [hl2, e1, List.take_append_of_le_length (by omega), List.take_of_length_le (l := b.take q) (by omega), List.take_add, List.append_assoc]
theorem led_way {x b : List UInt8} {sn : List Ol} (h : x.length = b.length) (hb : b.length ≤ 512) : ∀ (f p : Nat), b.length - p ≤ f → p ≤ b.length → ledS ⟨mixL x b p, sn⟩ (wayL x b p) ⟨b, sn⟩ := by
  intro f
  induction f with
  | zero =>
    intro p hf hp
    rw [way_end (by omega), mix_all h (by omega)]
    rfl
  | succ f ih =>
    intro p hf hp
    rcases way_next h (f + 1) p hf hp with ⟨h1, h2⟩ | ⟨q, N, h1, h2, h3, h4, h5, h6, h7, h8⟩
    · rw [h1, h2]; rfl
    · rw [h7, h8]
      have hm := mix_length h (p := q) (by omega)
      have hne : mixL x b (q + N) ≠ mixL x b q := by
        intro e
        have e2 := mix_getD h (p := q) (t := q) (Nat.le_refl _) (by omega)
        rw [← e] at e2
        apply h6
        rw [← e2]
        unfold mixL
        rw [List.getD_eq_getElem?_getD, List.getElem?_append_left (by rw [List.length_take]; omega), List.getElem?_take, if_pos (by omega), List.getD_eq_getElem?_getD]
      have hev : chkE ⟨mixL x b q, sn⟩ (evAt b q N) = 0 ∧ appE ⟨mixL x b q, sn⟩ (evAt b q N) = ⟨mixL x b (q + N), sn⟩ := by
        have hl2 : ((b.drop q).take N).length = N := by rw [List.length_take, List.length_drop]; omega
        by_cases hz : zeroB ((b.drop q).take N) = true
        · have e : evAt b q N = ⟨3, q, N, [], ⟨#[]⟩⟩ := by unfold evAt; rw [if_pos hz]
          rw [e]
          have hz2 : (b.drop q).take N = List.replicate N 0 := by
            unfold zeroB at hz
            rw [beq_iff_eq, hl2] at hz
            exact hz
          have hr : rightE 3 q N 0 ⟨#[]⟩ = true := by unfold rightE; simp [within_iff]; omega
          have hs := span_zero (q := q) h3 (by omega)
          constructor
          · show checkN _ 3 q N 0 ⟨#[]⟩ = 0
            rw [check_span hr (by omega), hs.1, hs.2, hm, if_neg (by omega)]
          · show applyS _ 3 q N [] ⟨#[]⟩ = _
            have : applyS ⟨mixL x b q, sn⟩ 3 q N [] ⟨#[]⟩ = ⟨over (mixL x b q) q (List.replicate N 0), sn⟩ := by simp [applyS]
            rw [this, ← hz2, mix_more h h2]
        · have e : evAt b q N = ⟨1, q, 0, (b.drop q).take N, ⟨#[]⟩⟩ := by unfold evAt; rw [if_neg hz]
          rw [e]
          have hr : rightE 1 q 0 N ⟨#[]⟩ = true := by unfold rightE; simp [within_iff]; omega
          have hs := span_write (q := q) h3 h4 (by omega)
          constructor
          · show checkN _ 1 q 0 ((b.drop q).take N).length ⟨#[]⟩ = 0
            rw [hl2, check_span hr (by omega), hs.1, hs.2, hm, if_neg (by omega)]
          · show applyS _ 1 q 0 ((b.drop q).take N) ⟨#[]⟩ = _
            have : applyS ⟨mixL x b q, sn⟩ 1 q 0 ((b.drop q).take N) ⟨#[]⟩ = ⟨over (mixL x b q) q ((b.drop q).take N), sn⟩ := by simp [applyS]
            rw [this, mix_more h h2]
      refine ⟨hev.1, ?_, ?_⟩
      · rw [hev.2]
        intro e
        injection e with e1
        exact hne e1
      · rw [hev.2]
        exact ih (q + N) (by omega) h2
theorem sized_self (a : List UInt8) : sizedL a a.length = a := by simp [sizedL]
theorem led_bytes {a b : List UInt8} {sn : List Ol} (ha : a.length ≤ 512) (hb : b.length ≤ 512) : ledS ⟨a, sn⟩ (bytesL a b) ⟨b, sn⟩ := by
  unfold bytesL
  rw [if_neg (by omega)]
  have hw : ledS ⟨sizedL a b.length, sn⟩ (wayL (sizedL a b.length) b 0) ⟨b, sn⟩ := by
    have := led_way (x := sizedL a b.length) (b := b) (sn := sn) (sized_length _ _) hb b.length 0 (by omega) (by omega)
    rw [mix_zero] at this
    exact this
  by_cases e : a.length = b.length
  · rw [if_neg (by simpa using e), List.nil_append]
    rw [← e, sized_self] at hw ⊢
    exact hw
  · rw [if_pos e, List.singleton_append]
    have h1 : appE ⟨a, sn⟩ ⟨4, 0, b.length, [], ⟨#[]⟩⟩ = ⟨sizedL a b.length, sn⟩ := by simp [appE, applyS]
    refine ⟨resize_check hb, ?_, ?_⟩
    · rw [h1]
      intro e2
      injection e2 with e2
      have := sized_length a b.length
      rw [e2] at this
      exact e this
    · rw [h1]
      exact hw
theorem led_un {d : List UInt8} {c : List Ol} : ∀ (l : List Ol), (∀ x ∈ l, nameB x.nm = true) → apartS (c ++ l.reverse) → ledS ⟨d, c ++ l.reverse⟩ (l.map unE) ⟨d, c⟩
  | [], hn, hp => by simp [ledS]
  | x :: l, hn, hp => by
    rw [List.reverse_cons, ← List.append_assoc] at hp ⊢
    have hx : ((c ++ l.reverse) ++ [x])[(c ++ l.reverse).length]? = some x := by simp
    have hf : findI ((c ++ l.reverse) ++ [x]) x.nm = ((c ++ l.reverse).length : Int) := by
      refine (find_first hx rfl).2 fun j hj y hy => ?_
      obtain ⟨hj', rfl⟩ := List.getElem?_eq_some_iff.1 hy
      obtain ⟨hk', hx'⟩ := List.getElem?_eq_some_iff.1 hx
      have := List.pairwise_iff_getElem.1 hp j _ hj' hk' hj
      rw [hx'] at this
      exact this
    have hr : rightE 6 0 0 0 x.nm = true := right_roll (by omega) (hn x (by simp))
    have ha : appE ⟨d, (c ++ l.reverse) ++ [x]⟩ (unE x) = ⟨d, c ++ l.reverse⟩ := by
      have e : appE ⟨d, (c ++ l.reverse) ++ [x]⟩ (unE x) = ⟨d, ((c ++ l.reverse) ++ [x]).take (findN ⟨d, (c ++ l.reverse) ++ [x]⟩ x.nm) ++ ((c ++ l.reverse) ++ [x]).drop (findN ⟨d, (c ++ l.reverse) ++ [x]⟩ x.nm + 1)⟩ := by simp only [appE, unE, applyS, show ¬ (6 : Int) = 1 by omega, show ¬ ((6 : Int) = 2 ∨ (6 : Int) = 3) by omega, show ¬ (6 : Int) = 4 by omega, show ¬ (6 : Int) = 5 by omega, if_false, if_true]
      rw [e]
      unfold findN
      simp only
      rw [hf, Int.toNat_natCast, List.take_left, List.drop_of_length_le (by simp; omega), List.append_nil]
    refine ⟨?_, ?_, ?_⟩
    · show checkN _ 6 0 0 0 x.nm = 0
      rw [check_gone hr (by omega)]
      simp only
      rw [if_neg (by rw [hf]; omega)]
    · rw [ha]
      intro e
      injection e with _ e
      have := congrArg List.length e
      simp at this
    · rw [ha]
      refine led_un l (fun y hy => hn y (by simp [hy])) (hp.sublist ?_)
      exact List.sublist_append_left _ _
theorem led_snaps {last : List UInt8} (hlast : last.length ≤ 512) : ∀ (l c : List Ol) (now : List UInt8), now.length ≤ 512 → (∀ x ∈ l, nameB x.nm = true ∧ x.d.length ≤ 512) → apartS (c ++ l) → c.length + l.length ≤ 8 → ledS ⟨now, c⟩ (snapsW now l last) ⟨last, c ++ l⟩
  | [], c, now, hw, hn, hp, h8 => by
    rw [List.append_nil]
    exact led_bytes hw hlast
  | x :: xs, c, now, hw, hn, hp, h8 => by
    have hx := hn x (by simp)
    refine led_append (u := ⟨x.d, c⟩) (led_bytes hw hx.2) ?_
    have hr : rightE 5 0 0 0 x.nm = true := right_roll (by omega) hx.1
    have ha : appE ⟨x.d, c⟩ ⟨5, 0, 0, [], x.nm⟩ = ⟨x.d, c ++ [x]⟩ := by simp [appE, applyS]
    refine ⟨?_, ?_, ?_⟩
    · show checkN _ 5 0 0 0 x.nm = 0
      rw [check_snap hr]
      simp only [List.length_cons] at h8 ⊢
      rw [if_neg ?_, if_neg (by omega)]
      rcases find_look c x.nm 0 with ⟨h1, _⟩ | ⟨p, y, _, h2, h3, _⟩
      · unfold findI; omega
      · exact absurd h3 ((List.pairwise_append.1 hp).2.2 y (List.mem_of_getElem? h2) x (by simp))
    · rw [ha]
      intro e
      injection e with _ e
      have := congrArg List.length e
      simp at this
    · rw [ha]
      have := led_snaps hlast xs (c ++ [x]) x.d hx.2 (fun y hy => hn y (by simp [hy])) (by simpa using hp) (by simp at h8 ⊢; omega)
      simpa using this
theorem alike_take : ∀ (xs ys : List Ol), xs.take (alikeL xs ys) = ys.take (alikeL xs ys)
  | [], ys => by simp [alikeL]
  | x :: xs, [] => by simp [alikeL]
  | x :: xs, y :: ys => by
    rw [alikeL]
    split
    · rename_i e
      rw [List.take_succ_cons, List.take_succ_cons, alike_take xs ys, e]
    · rfl
theorem alike_self : ∀ (xs : List Ol), alikeL xs xs = xs.length
  | [] => rfl
  | x :: xs => by rw [alikeL, if_pos rfl, alike_self xs]; rfl
theorem alike_le : ∀ (xs ys : List Ol), alikeL xs ys ≤ xs.length ∧ alikeL xs ys ≤ ys.length
  | [], ys => by simp [alikeL]
  | x :: xs, [] => by simp [alikeL]
  | x :: xs, y :: ys => by
    have := alike_le xs ys
    rw [alikeL]
    split
    · simp; omega
    · simp
theorem way_leads {a b : St} (ha : rightS a = true) (hb : rightS b = true) : ledS a (wayS a b) b := by
  obtain ⟨ad, asn⟩ := a
  obtain ⟨bd, bsn⟩ := b
  unfold wayS
  rw [ha, hb]
  obtain ⟨a1, a2, a3, a4⟩ := right_iff.1 ha
  obtain ⟨b1, b2, b3, b4⟩ := right_iff.1 hb
  simp only at a1 a2 a3 a4 b1 b2 b3 b4 ⊢
  obtain ⟨k, hk⟩ : ∃ k, alikeL asn bsn = k := ⟨_, rfl⟩
  have ht := alike_take asn bsn
  rw [hk] at ht ⊢
  have ea : asn = asn.take k ++ (asn.drop k).reverse.reverse := by rw [List.reverse_reverse, List.take_append_drop]
  have eb : bsn = asn.take k ++ bsn.drop k := by rw [ht, List.take_append_drop]
  simp only [Bool.and_self, if_true]
  refine led_append (u := ⟨ad, asn.take k⟩) ?_ ?_
  · have := led_un (d := ad) (c := asn.take k) (asn.drop k).reverse (fun x hx => (a1 x (List.mem_of_mem_drop (List.mem_reverse.1 hx))).1) (by rw [← ea]; exact a2)
    rw [← ea] at this
    exact this
  · have := led_snaps b3 (bsn.drop k) (asn.take k) ad a3 (fun x hx => b1 x (List.mem_of_mem_drop hx)) (by rw [← eb]; exact b2) (by have := congrArg List.length eb; rw [List.length_append] at this; omega)
    rw [← eb] at this
    exact this
theorem bytes_self (a : List UInt8) : bytesL a a = [] := by
  unfold bytesL
  split
  · rfl
  · rw [if_neg (by simp), List.nil_append, sized_self]
    have key : ∀ f i, a.length - i ≤ f → wayL a a i = [] := by
      intro f
      induction f with
      | zero => intro i hi; exact way_end (by omega)
      | succ f ih =>
        intro i hi
        by_cases h : i < a.length
        · rw [way_same h rfl]; exact ih (i + 1) (by omega)
        · exact way_end (by omega)
    exact key a.length 0 (by omega)
theorem way_self (a : St) : wayS a a = [] := by
  unfold wayS
  rw [alike_self]
  simp [snapsW, bytes_self]
theorem way_nil {a b : St} (ha : rightS a = true) (hb : rightS b = true) : wayS a b = [] ↔ a = b := by
  constructor
  · intro h
    have := way_leads ha hb
    rw [h] at this
    exact this
  · rintro rfl
    exact way_self a
end Go.Proofs.Ytcklkjklepmabaa
