/-
  The walk of one statement of chapter 23.
-/
import Derived.Test.YtkoknleopmlhcaaJudge
import Derived.Test.YtkoknleopmlhcaaEntries
import Derived.Test.YtkoknleopmlhcaaTagFlat
import Derived.Test.YtkoknleopmlhcaaOpenEvs
namespace Go.Proofs.Ytkoknleopmlhcaa
open Go.RowKit
set_option linter.unusedVariables false
set_option linter.unusedSimpArgs false
set_option linter.unnecessarySimpa false
set_option maxRecDepth 100000

/-! plain -/
theorem ripeF_append (ys : List En) : ∀ (xs : List En) (k n : Nat), ripeF (xs ++ ys) k n = ripeF ys (k + xs.length) (ripeF xs k n)
  | [], k, n => by simp [ripeF]
  | x :: xs, k, n => by rw [List.cons_append, ripeF, ripeF, ripeF_append ys xs, List.length_cons]; congr 1; omega
theorem ripeF_shift (c : Nat) : ∀ (xs : List En) (k n : Nat), ripeF xs (k + c) (n + c) = ripeF xs k n + c
  | [], k, n => by simp [ripeF]
  | x :: xs, k, n => by
    rw [ripeF, ripeF]
    split
    · rw [show k + c + 1 = (k + 1) + c by omega]; exact ripeF_shift c xs (k + 1) (k + 1)
    · rw [show k + c + 1 = (k + 1) + c by omega]; exact ripeF_shift c xs (k + 1) n
theorem ripeF_none : ∀ (xs : List En) (k n : Nat), (∀ (i : Nat) (x : En), xs[i]? = some x → isF x = false) → ripeF xs k n = n
  | [], k, n, _ => by simp [ripeF]
  | x :: xs, k, n, h => by
    rw [ripeF, if_neg (by rw [h 0 x rfl]; simp)]
    exact ripeF_none xs (k + 1) n fun i y hy => h (i + 1) y (by simpa using hy)
theorem ripeF_spec : ∀ (xs : List En) (k n : Nat), (ripeF xs k n = n ∧ ∀ (i : Nat) (x : En), xs[i]? = some x → isF x = false) ∨ ∃ (j : Nat) (x : En), xs[j]? = some x ∧ isF x = true ∧ ripeF xs k n = k + j + 1 ∧ ∀ (i : Nat) (y : En), j < i → xs[i]? = some y → isF y = false
  | [], k, n => .inl ⟨by simp [ripeF], by simp⟩
  | x :: xs, k, n => by
    rw [ripeF]
    rcases ripeF_spec xs (k + 1) (if isF x = true then k + 1 else n) with ⟨h1, h2⟩ | ⟨j, y, h1, h2, h3, h4⟩
    · by_cases hf : isF x = true
      · rw [if_pos hf] at h1 ⊢
        refine .inr ⟨0, x, rfl, hf, h1, fun i y hi hy => ?_⟩
        obtain ⟨i, rfl⟩ : ∃ i', i = i' + 1 := ⟨i - 1, by omega⟩
        exact h2 i y (by simpa using hy)
      · rw [if_neg hf] at h1 ⊢
        refine .inl ⟨h1, fun i y hy => ?_⟩
        cases i with
        | zero => simp at hy; subst hy; simpa using hf
        | succ i => exact h2 i y (by simpa using hy)
    · refine .inr ⟨j + 1, y, by simpa using h1, h2, by rw [h3]; omega, fun i z hi hz => ?_⟩
      obtain ⟨i, rfl⟩ : ∃ i', i = i' + 1 := ⟨i - 1, by omega⟩
      exact h4 i z (by omega) (by simpa using hz)
theorem ripe_le (xs : List En) : ripeL xs ≤ xs.length := by
  rcases ripeF_spec xs 0 0 with ⟨h1, _⟩ | ⟨j, x, h1, _, h3, _⟩
  · unfold ripeL; omega
  · have := (List.getElem?_eq_some_iff.1 h1).1
    unfold ripeL; omega
theorem ripe_last {xs : List En} {j : Nat} (h : ripeL xs = j + 1) : ∃ x, xs[j]? = some x ∧ isF x = true := by
  rcases ripeF_spec xs 0 0 with ⟨h1, _⟩ | ⟨i, x, h1, h2, h3, _⟩
  · unfold ripeL at h; omega
  · unfold ripeL at h
    obtain rfl : i = j := by omega
    exact ⟨x, h1, h2⟩
theorem ripe_behind {xs : List En} {i : Nat} {x : En} (h : ripeL xs ≤ i) (hx : xs[i]? = some x) : isF x = false := by
  rcases ripeF_spec xs 0 0 with ⟨_, h2⟩ | ⟨j, y, h1, h2, h3, h4⟩
  · exact h2 i x hx
  · unfold ripeL at h
    exact h4 i x (by omega) hx
theorem ripe_take (xs : List En) : ripeL (xs.take (ripeL xs)) = ripeL xs := by
  have hl := ripe_le xs
  have h := ripeF_append (xs.drop (ripeL xs)) (xs.take (ripeL xs)) 0 0
  rw [List.take_append_drop, ripeF_none (xs.drop (ripeL xs))] at h
  · exact h.symm
  · intro i x hx
    rw [List.getElem?_drop] at hx
    exact ripe_behind (by omega) hx
theorem ripe_both (xs ys : List En) : ripeL (xs.take (ripeL xs) ++ ys) = ripeL xs + ripeL ys := by
  have hl := ripe_le xs
  have ht := ripe_take xs
  unfold ripeL at ht ⊢
  rw [ripeF_append, ht, List.length_take, Nat.min_eq_left (show ripeF xs 0 0 ≤ xs.length from hl)]
  have := ripeF_shift (ripeF xs 0 0) ys 0 0
  simp only [Nat.zero_add] at this
  rw [Nat.zero_add, this]
  omega
theorem flush_bytes {k o m : Int} {l : List UInt8} {s : ByteArray} (h : rightE k o m l.length s = true) : parK (putE k o m l s) = 8 ↔ putE k o m l s = [8] := by
  rw [parK_put h]
  constructor
  · rintro rfl
    rcases right_cases h with ⟨h1, _⟩ | ⟨h1, _⟩ | ⟨h1, _⟩ | ⟨h1, _⟩ | ⟨_, hn, rfl, rfl, rfl⟩
    · omega
    · omega
    · omega
    · omega
    · obtain rfl : l = [] := List.eq_nil_of_length_eq_zero hn
      decide +kernel
  · intro he
    have := parK_put h
    rw [he] at this
    rw [← this]
    decide +kernel
theorem ent_isF {tags : List Tg} {e : Int} {l : List Ev} {i : Nat} {x : En} (hx : (entOf tags e (putsL l))[i]? = some x) : (isF x = true ↔ x.d = [8]) ∧ x.d.length ≤ 90 := by
  unfold entOf at hx
  rw [List.getElem?_mapIdx, Option.map_eq_some_iff] at hx
  obtain ⟨d, hd, rfl⟩ := hx
  have hm := List.mem_of_getElem? hd
  obtain ⟨ho, hl1, hl2⟩ := puts_ok hm
  refine ⟨?_, hl2⟩
  unfold isF enAt
  simp only [ho, Bool.true_and, decide_eq_true_eq]
  unfold putsL at hm
  obtain ⟨y, hy, rfl⟩ := List.mem_map.1 hm
  exact flush_bytes (List.mem_filter.1 hy).2
theorem ent_short {tags : List Tg} {e : Int} {l : List Ev} : ∀ x ∈ entOf tags e (putsL l), x.d.length ≤ 1000 := by
  intro x hx
  obtain ⟨i, hi⟩ := List.mem_iff_getElem?.1 hx
  have := (ent_isF hi).2
  omega
theorem small_of {xs : List Ev} {m : Nat} (h : smallB xs m = true) : xs.length ≤ m := (of_decide_eq_true h).2
theorem cut_en {w : World} {A : Option Addr} {n c : Nat} {l : List En} (h : Lst 3 enR w A n c l) (m : Nat) (y : Int) (hy : y = (m : Int)) (hm : m ≤ n) :
    (∀ w', (Instr.slice 32 (.slice A n c) none (some (.int .i64 y)) none).run Try.prog w' = .ok (.slice A m c) w') := by
  subst hy
  have hcap := h.cap
  obtain ⟨i0, hi0, hz0, hz1, hz2⟩ := info_parts info_en
  intro w'
  have e1 : ((m : Nat) : Int) ≤ (c : Int) := by omega
  have e5 : m ≤ c := by omega
  by_cases hc : c = 0
  · have e6 : m = 0 := by omega
    subst hc e6
    cases A <;> simp [Instr.slice, run_underlying under_ens, Instr.sliceBounds, run_sliceBound, sizeOf, typeInfo, hi0, hz1]
  · cases A <;> simp [Instr.slice, run_underlying under_ens, Instr.sliceBounds, run_sliceBound, sizeOf, typeInfo, hi0, hz1, e1, e5, hc, Ne.symm hc, Addr.add]
def Nil0 : Ty := fun v _ => ∃ A, v = .slice A 0 0
theorem Nil0.keeps {N : World → World → Prop} : Keeps N Nil0 := fun _ _ _ _ h => h
theorem Sl.first {w : World} {A : Option Addr} {n c : Nat} {l : List UInt8} (h : Sl w A n c l) (hn : 0 < n) : ∃ g o b r, A = some ⟨g, o, none⟩ ∧ l = b :: r ∧ w.cell? ⟨g, o, none⟩ = some (.int .u8 (b.toNat : Int)) := by
  obtain ⟨ad, e, hc⟩ := h.at_ hn
  cases l with
  | nil => have := h.len; simp at this; omega
  | cons b r =>
    simp only [List.getElem_cons_zero] at hc
    have hs := spot_of_cell hc
    obtain ⟨g, o, sp⟩ := ad
    have hsp : sp = none := by simpa [Addr.add] using hs
    subst hsp
    exact ⟨g, o, b, r, e, rfl, by simpa [Addr.add] using hc⟩
def EnT (B : Nat) (n : Nat) (xs : List En) : Ty := fun v w => ∃ A c, v = .slice A n c ∧ OwnL TEn 3 enR w B A n c xs
theorem EnT.keeps (B n : Nat) (xs : List En) : Keeps Ext (EnT B n xs) := fun _ _ _ hx ⟨A, c, e, h⟩ => ⟨A, c, e, h.ext en_rep hx⟩

set_option maxHeartbeats 4000000 in
theorem law_VerdictRipe (A : Option Addr) (n c : Nat) (l : List Ev) (A' : Option Addr) (n' c' : Nat) (m : List Ev) (w : World) (h1 : Lst 5 evR w A n c l) (h2 : Lst 5 evR w A' n' c' m) :
    Calls Try.prog 5 #[.slice A n c, .slice A' n' c'] w fun e w' => e = .returned (.bool true) ∧ Ext w w' := by
  have h63 := h1.n63
  have h63' := h2.n63
  obtain ⟨f1, hf1⟩ : ∃ q, smallB l 30 = q := ⟨_, rfl⟩
  obtain ⟨f2, hf2⟩ : ∃ q, smallB m 30 = q := ⟨_, rfl⟩
  have HF1 := Lib.hid hf1
  have HF2 := Lib.hid hf2
  cases f1 with
  | false =>
    clear hf1 hf2
    go_enter Try.func5, Try.ntmps5
    go_wp2_with fail
    refine (keep_Small h1 (m := 30) (by decide) HF1).mono ?_
    rintro e w1 ⟨rfl, g1⟩
    go_wp2_with fail
    refine (law23_known _).mono ?_
    rintro e w2 ⟨rfl, hx1⟩
    go_wp2_with fail
    go_ret
    exact ⟨rfl, g1.trans hx1⟩
  | true =>
    cases f2 with
    | false =>
      clear hf1 hf2
      go_enter Try.func5, Try.ntmps5
      go_wp2_with fail
      refine (keep_Small h1 (m := 30) (by decide) HF1).mono ?_
      rintro e w1 ⟨rfl, g1⟩
      go_wp2_with fail
      refine (keep_Small (h2.ext ev_rep g1) (m := 30) (by decide) HF2).mono ?_
      rintro e w1 ⟨rfl, g2⟩
      go_wp2_with fail
      refine (law23_known _).mono ?_
      rintro e w2 ⟨rfl, hx1⟩
      go_wp2_with fail
      go_ret
      exact ⟨rfl, (g1.trans g2).trans hx1⟩
    | true =>
      have hn := small_of hf1
      have hm := small_of hf2
      rw [h1.len] at hn
      rw [h2.len] at hm
      obtain ⟨i0, hi0, hz0, hz1, hz2⟩ := info_parts info_en
      obtain ⟨xa, has⟩ : ∃ q, entOf [tag1] 0 (putsL l) = q := ⟨_, rfl⟩
      obtain ⟨xb, hbs⟩ : ∃ q, entOf [tag1] 100 (putsL m) = q := ⟨_, rfl⟩
      have HAS := Lib.hid has
      have HBS := Lib.hid hbs
      have hal : xa.length ≤ 30 := by rw [← has, ent_len]; have := puts_len l; rw [h1.len] at this; omega
      have hbl : xb.length ≤ 30 := by rw [← hbs, ent_len]; have := puts_len m; rw [h2.len] at this; omega
      have ha1 : ∀ x ∈ xa, x.d.length ≤ 1000 := by rw [← has]; exact ent_short
      have hb1 : ∀ x ∈ xb, x.d.length ≤ 1000 := by rw [← hbs]; exact ent_short
      have haF : ∀ (i : Nat) (x : En), xa[i]? = some x → (isF x = true ↔ x.d = [8]) := by rw [← has]; exact fun i x hx => (ent_isF hx).1
      obtain ⟨K, hK⟩ : ∃ q, ripeL xa = q := ⟨_, rfl⟩
      obtain ⟨Kb, hKb⟩ : ∃ q, ripeL xb = q := ⟨_, rfl⟩
      have hKl : K ≤ xa.length := by rw [← hK]; exact ripe_le xa
      have hKbl : Kb ≤ xb.length := by rw [← hKb]; exact ripe_le xb
      have HK := Lib.hid hK
      have HKB := Lib.hid hKb
      have HKT : Hid (ripeL (xa.take K) = K) := by unfold Hid; rw [← hK]; exact ripe_take xa
      have HKK : Hid (ripeL (xa.take K ++ xb) = K + Kb) := by unfold Hid; rw [← hK, ← hKb]; exact ripe_both xa xb
      have hlast : ∀ j, K = j + 1 → ∃ x, xa[j]? = some x ∧ x.d = [8] := fun j hj => by
        obtain ⟨x, q1, q2⟩ := ripe_last (hK.trans hj)
        exact ⟨x, q1, (haF j x q1).1 q2⟩
      have hrest : ∀ (i : Nat) (x : En), K ≤ i → xa[i]? = some x → x.d ≠ [8] := fun i x hi hx he => by
        have := ripe_behind (by rw [hK]; exact hi) hx
        rw [(haF i x hx).2 he] at this
        cases this
      have hat1 : ∀ x ∈ xa.take K, x.d.length ≤ 1000 := fun x hx => ha1 x (List.mem_of_mem_take hx)
      have hab1 : ∀ x ∈ xa.take K ++ xb, x.d.length ≤ 1000 := fun x hx => by
        rcases List.mem_append.1 hx with hx | hx
        · exact hat1 x hx
        · exact hb1 x hx
      clear hf1 hf2 has hbs hK hKb haF
      go_enter Try.func5, Try.ntmps5
      go_wp2_with fail
      refine (keep_Small h1 (m := 30) (by decide) HF1).mono ?_
      rintro e w1 ⟨rfl, g1⟩
      go_wp2_with fail
      refine (keep_Small (h2.ext ev_rep g1) (m := 30) (by decide) HF2).mono ?_
      rintro e w1 ⟨rfl, g2⟩
      replace g1 := g1.trans g2
      clear g2
      go_wp2_with fail
      have hx1 := Ext.alloc w1 (.cells #[.int .i64 1, .int .i64 1, .int .i64 0, .int .i64 0] 35)
      refine (law23_entries (tag_made w1 tag1).lst ((h1.ext ev_rep g1).ext ev_rep hx1) (by omega) (by omega) (by omega) HAS).mono ?_
      rintro e w2 ⟨Aa, na, ca, rfl, la, g2⟩
      replace g1 := (g1.trans hx1).trans g2
      clear g2 hx1
      go_wp2_with fail
      have hx1 := Ext.alloc w2 (.cells #[.int .i64 1, .int .i64 1, .int .i64 0, .int .i64 0] 35)
      refine (law23_entries (tag_made w2 tag1).lst ((h2.ext ev_rep g1).ext ev_rep hx1) (by omega) (by omega) (by omega) HBS).mono ?_
      rintro e w3 ⟨Ab, nb, cb, rfl, lb, g2⟩
      have la := (la.lst.ext en_rep hx1).ext en_rep g2
      have lb := lb.lst
      replace g1 := (g1.trans hx1).trans g2
      clear g2 hx1
      have hna := la.len
      have hnb := lb.len
      rw [hna] at hal hKl
      rw [hnb] at hbl hKbl
      go_wp2_with fail
      refine (verdict_Ripe la (by omega) ha1 HK).mono ?_
      rintro e w4 ⟨rfl, g2⟩
      replace g1 := g1.trans g2
      replace la := la.ext en_rep g2
      replace lb := lb.ext en_rep g2
      clear g2 hna hnb
      have q1 : decide ((K : Int) < 0) = false := by simp
      have q2 : decide ((na : Int) < (K : Int)) = false := by simp; omega
      have q2' : decide (na < K) = false := by simp; omega
      have hw4 := g1
      have g2 := Ext.refl w4
      by_cases hK0 : K = 0
      · have q3 : decide ((0 : Int) < (K : Int)) = false := by simp; omega
        have q3' : decide (0 < K) = false := by simp; omega
        clear hlast hK0
        go_wp2_with fail
        go_loopw [8] (fun i wr => ∃ k : Nat, K ≤ k ∧ k ≤ na ∧ i = .int .i64 k ∧ Ext w4 wr) (fun i _ => na - (intOf i).toNat)
        case atStart => exact ⟨K, by omega, by omega, rfl, Ext.refl _⟩
        case round =>
          obtain ⟨k, hk1, hk, rfl, hxr⟩ := hrel
          by_cases hlt : k < na
          · obtain ⟨gy, oy, y, cs, e0, hy, ⟨Ay, ny, cy, rfl, sy⟩, hc⟩ := la.at2 (i := k) en_rep (by omega) hlt
            subst e0
            have b2 := hxr.cell (hc 2 _ rfl)
            have hyd := hrest k y hk1 hy
            have hyl := sy.len
            have hy63 := sy.n63
            by_cases hny : ny = 1
            · subst hny
              obtain ⟨gb', ob', b', r', rfl, hbr, b3⟩ := sy.first (by omega)
              rw [hbr] at hyd hyl
              have hr0 : r' = [] := List.eq_nil_of_length_eq_zero (by simp at hyl; simpa using hyl)
              subst hr0
              have hb8 : b'.toNat ≠ 8 := fun e => hyd (by rw [show b' = 8 from UInt8.toNat_inj.1 e])
              have q5 : ((b'.toNat : Int) == 8) = false := by simp; omega
              have b3 := hxr.cell b3
              clear hc hy hyd hyl hbr hb8
              go_wp2_with fail
              go_roundw
              case rel => exact ⟨k + 1, by omega, by omega, by go_num, hxr⟩
              case measure => simp [intOf]; omega
            · have q5 : ((ny : Int) == 1) = false := by simp; omega
              clear hc hy hyd hyl hny
              go_wp2_with fail
              go_roundw
              case rel => exact ⟨k + 1, by omega, by omega, by go_num, hxr⟩
              case measure => simp [intOf]; omega
          · replace la := la.ext en_rep hxr
            replace lb := lb.ext en_rep hxr
            have hcut := cut_en la K (K : Int) rfl (by omega)
            have lt := la.upto en_rep (m := K) (by omega)
            clear hrest hk1 hk
            have g3 := hw4.trans hxr
            go_wp2_with fail
            refine wp_region_typed2 (R := But wr.heap.size (fun _ => False)) Ext.steady (But.steady _ _) (fun _ _ => But.of_ext) rfl 113 rfl [0, 1, 0, 0, 0, 24, 63, 0, 255, 511, 1023, 2047] 256 (by kernel_rfl) ?_
            -- 0: Op.move t6
            apply Stage2.step (Is _) true [] true false (Is.keeps _) (fun _ => Is.keeps _) (by kernel_rfl)
            · intro w1 h1
              have h1 : Ext _ w1 := h1
              simp only [List.nil_append, List.cons_append, List.map_cons, List.map_nil, Given]
              go_wp2_with fail
              exact Post.isv (Ext.refl _) rfl rfl rfl
            -- 1: Op.call { value (Operand.func 22), args := #[t87], argTypes := #[32] }
            apply Stage2.step (Is (.int .i64 Kb)) true [true] true false (Is.keeps _) (fun _ => Is.keeps _) (by kernel_rfl)
            · intro w1 h1
              have h1 : Ext _ w1 := h1
              simp only [List.nil_append, List.cons_append, List.map_cons, List.map_nil, Sp.pr, Given]
              rintro _ rfl
              have g5 := h1
              go_wp2_with fail
              refine (verdict_Ripe (lb.ext en_rep g5) (by omega) hb1 HKB).mono ?_
              rintro e w6 ⟨rfl, g6⟩
              go_wp2_with fail
              exact Post.isv g6 rfl rfl rfl
            -- 2: Op.buildSlice 32 0 #[]
            apply Stage2.step (Nil0) false [] true false (Nil0.keeps) (no_keeps) (by kernel_rfl)
            · intro w1 h1
              have h1 : Ext _ w1 := h1
              simp only [List.nil_append, List.cons_append, List.map_cons, List.map_nil, Given]
              go_wp2_with fail
              exact ⟨rfl, rfl, Ext.alloc _ _, _, rfl⟩
            -- 3: Op.move t5
            apply Stage2.step (Is _) true [] true false (Is.keeps _) (fun _ => Is.keeps _) (by kernel_rfl)
            · intro w1 h1
              have h1 : Ext _ w1 := h1
              simp only [List.nil_append, List.cons_append, List.map_cons, List.map_nil, Given]
              go_wp2_with fail
              exact Post.isv (Ext.refl _) rfl rfl rfl
            -- 4: Op.move t7
            apply Stage2.step (Is _) true [] true false (Is.keeps _) (fun _ => Is.keeps _) (by kernel_rfl)
            · intro w1 h1
              have h1 : Ext _ w1 := h1
              simp only [List.nil_append, List.cons_append, List.map_cons, List.map_nil, Given]
              go_wp2_with fail
              exact Post.isv (Ext.refl _) rfl rfl rfl
            -- 5: Op.slice 32 t90 none (some t91) none
            apply Stage2.step (Is _) true [false, false, false, true, true] true false (Is.keeps _) (fun _ => Is.keeps _) (by kernel_rfl)
            · intro w1 h1
              have h1 : Ext _ w1 := h1
              simp only [List.nil_append, List.cons_append, List.map_cons, List.map_nil, Sp.pr, Given]
              rintro _ rfl
              rintro _ rfl
              go_wp2_with fail
              exact Post.isv (Ext.refl _) rfl rfl rfl
            -- 6: Op.call { builtin append, args := #[t89, t92], argTypes := #[32, 32] }
            apply Stage2.step (EnT wr.heap.size K (xa.take K)) false [false, false, true, false, false, true] true false (EnT.keeps _ _ _) (no_keeps) (by kernel_rfl)
            · intro w1 h1
              have h1 : Ext _ w1 := h1
              simp only [List.nil_append, List.cons_append, List.map_cons, List.map_nil, Sp.pr, Given]
              rintro _ ⟨A9, rfl⟩
              rintro _ rfl
              have hfd := Feed.old (P := Try.prog) (tx := 32) (w := w1) en_rep (OwnL.nil (size := 3) (R := enR) TEn w1 wr.heap.size A9) lt h1 under_ens
              go_wp2_with (
                at_builtin
                refine wpList_append_lst2 (w0 := wr) en_rep rfl _ _ _ _ rfl TEn i0 _ 40 under_ens hi0 hz0 hz1 hz2 rfl A9 0 0 [] rfl (OwnL.nil _ _ _ _) _ K (xa.take K) rfl hfd K (Nat.zero_add _) (xa.take K) rfl (by simp only [maxLen]; omega) (by omega) h1 ?_
                intro A6 c6 w6 hb6 hx6 hg6)
              exact ⟨rfl, rfl, grown_nil hg6, _, _, rfl, hb6⟩
            -- 7: Op.move t6
            apply Stage2.step (Is _) true [] true false (Is.keeps _) (fun _ => Is.keeps _) (by kernel_rfl)
            · intro w1 h1
              have h1 : Ext _ w1 := h1
              simp only [List.nil_append, List.cons_append, List.map_cons, List.map_nil, Given]
              go_wp2_with fail
              exact Post.isv (Ext.refl _) rfl rfl rfl
            -- 8: Op.call { builtin append, args := #[t93, t94], argTypes := #[32, 32] }
            apply Stage2.step (EnT wr.heap.size (K + nb) (xa.take K ++ xb)) false [false, false, false, false, false, false, true, true] true true (EnT.keeps _ _ _) (no_keeps) (by kernel_rfl)
            · intro w1 h1
              have h1 : Ext _ w1 := h1
              simp only [List.nil_append, List.cons_append, List.map_cons, List.map_nil, Sp.pr, Given]
              rintro _ ⟨A3, c3, rfl, h3⟩
              rintro _ rfl
              have hfd := Feed.old (P := Try.prog) (tx := 32) (w := w1) en_rep h3 lb h1 under_ens
              go_wp2_with (
                at_builtin
                refine wpList_append_lst2 (w0 := wr) en_rep rfl _ _ _ _ rfl TEn i0 _ 40 under_ens hi0 hz0 hz1 hz2 rfl A3 K c3 (xa.take K) rfl h3 _ nb xb rfl hfd (K + nb) rfl _ rfl (by simp only [maxLen]; omega) (by omega) h1 ?_
                intro A6 c6 w6 hb6 hx6 hg6)
              exact ⟨rfl, rfl, But.grown (But.refl _ _ _) hg6 (fun g hg => .inr (h3.row_lt g hg).1), _, _, rfl, hb6⟩
            -- 9: Op.call { value (Operand.func 22), args := #[t95], argTypes := #[32] }
            apply Stage2.step (Is (.int .i64 ((K + Kb : Nat) : Int))) true [false, false, false, false, false, false, false, false, true] false false (Is.keeps _) (fun _ => Is.keeps _) (by kernel_rfl)
            · intro w1 h1
              have h1 : (But wr.heap.size (fun _ => False)) _ w1 := h1
              simp only [List.nil_append, List.cons_append, List.map_cons, List.map_nil, Sp.pr, Given]
              rintro _ ⟨A4, c4, rfl, h4⟩
              go_wp2_with fail
              refine (verdict_Ripe h4.lst (by omega) hab1 HKK).mono ?_
              rintro e w6 ⟨rfl, g6⟩
              go_wp2_with fail
              exact Post.isv g6 rfl rfl rfl
            -- 10: Op.assign t88
            apply Stage2.step (Is _) true [false, true] false false (Is.keeps _) (fun _ => Is.keeps _) (by kernel_rfl)
            · intro w1 h1
              have h1 : (But wr.heap.size (fun _ => False)) _ w1 := h1
              simp only [List.nil_append, List.cons_append, List.map_cons, List.map_nil, Sp.pr, Given]
              rintro _ rfl
              go_wp2_with fail
              exact Post.isv (Ext.refl _) rfl rfl rfl
            -- 11: Op.assign t96
            apply Stage2.step (Is _) true [false, false, false, false, false, false, false, false, false, true] false false (Is.keeps _) (fun _ => Is.keeps _) (by kernel_rfl)
            · intro w1 h1
              have h1 : (But wr.heap.size (fun _ => False)) _ w1 := h1
              simp only [List.nil_append, List.cons_append, List.map_cons, List.map_nil, Sp.pr, Given]
              rintro _ rfl
              go_wp2_with fail
              exact Post.isv (Ext.refl _) rfl rfl rfl
            apply Stage2.nil [true, true, false, true, true, true, false, true, true, true, true, true] (by kernel_rfl)
            intro w1 h1
            have h1 : (But wr.heap.size (fun _ => False)) _ w1 := h1
            simp only [List.nil_append, List.cons_append, List.map_cons, List.map_nil, Sp.pr]
            refine Fin2.is_ ?_
            refine Fin2.is_ ?_
            refine Fin2.dead_ ?_
            intro dead2
            refine Fin2.is_ ?_
            refine Fin2.is_ ?_
            refine Fin2.is_ ?_
            refine Fin2.dead_ ?_
            intro dead6
            refine Fin2.is_ ?_
            refine Fin2.step_ ?_
            rintro _ ⟨A4, c4, rfl, h4⟩
            refine Fin2.is_ ?_
            refine Fin2.is_ ?_
            refine Fin2.is_ ?_
            refine Fin2.nil_ ?_
            go_simp
            have g5 := (Ext.refl wr).but h1 (Nat.le_refl _) (fun _ h => h.elim)
            replace g3 := g3.trans g5
            replace lt := lt.ext en_rep g5
            go_wp2_with fail
            refine (verdict_Ripe lt (by omega) hat1 HKT).mono ?_
            rintro e w7 ⟨rfl, g6⟩
            replace g3 := g3.trans g6
            clear g5 g6
            go_wp2_with fail
            refine (law23_known _).mono ?_
            rintro e w8 ⟨rfl, g6⟩
            go_wp2_with fail
            go_ret
            exact ⟨rfl, g3.trans g6⟩
      · obtain ⟨j, hj⟩ : ∃ j, K = j + 1 := ⟨K - 1, by omega⟩
        obtain ⟨x, hx, hxd⟩ := hlast j hj
        obtain ⟨gx, ox, y, cs, rfl, hy, ⟨Ax, nx, cx, rfl, sx⟩, hc⟩ := la.at2 (i := j) en_rep (by omega) (by omega)
        rw [hx] at hy
        injection hy with hy
        subst hy
        have a2 := hc 2 _ rfl
        have hxl := sx.len
        rw [hxd] at hxl
        obtain rfl : nx = 1 := hxl.symm
        obtain ⟨gb, ob, b, r, rfl, hbr, a3⟩ := sx.first (by omega)
        rw [hxd] at hbr
        injection hbr with hbr _
        subst hbr
        have hKj : (K : Int) - 1 = (j : Int) := by omega
        have q3 : decide ((0 : Int) < (K : Int)) = true := by simp; omega
        have q3' : decide (0 < K) = true := by simp; omega
        clear hlast hK0 hj hx hxd hc
        go_wp2_with fail
        go_loopw [8] (fun i wr => ∃ k : Nat, K ≤ k ∧ k ≤ na ∧ i = .int .i64 k ∧ Ext w4 wr) (fun i _ => na - (intOf i).toNat)
        case atStart => exact ⟨K, by omega, by omega, rfl, Ext.refl _⟩
        case round =>
          obtain ⟨k, hk1, hk, rfl, hxr⟩ := hrel
          by_cases hlt : k < na
          · obtain ⟨gy, oy, y, cs, e0, hy, ⟨Ay, ny, cy, rfl, sy⟩, hc⟩ := la.at2 (i := k) en_rep (by omega) hlt
            injection e0 with e0; injection e0 with e0 e0'; subst e0 e0'
            have b2 := hxr.cell (hc 2 _ rfl)
            have hyd := hrest k y hk1 hy
            have hyl := sy.len
            have hy63 := sy.n63
            by_cases hny : ny = 1
            · subst hny
              obtain ⟨gb', ob', b', r', rfl, hbr, b3⟩ := sy.first (by omega)
              rw [hbr] at hyd hyl
              have hr0 : r' = [] := List.eq_nil_of_length_eq_zero (by simp at hyl; simpa using hyl)
              subst hr0
              have hb8 : b'.toNat ≠ 8 := fun e => hyd (by rw [show b' = 8 from UInt8.toNat_inj.1 e])
              have q5 : ((b'.toNat : Int) == 8) = false := by simp; omega
              have b3 := hxr.cell b3
              clear hc hy hyd hyl hbr hb8
              go_wp2_with fail
              go_roundw
              case rel => exact ⟨k + 1, by omega, by omega, by go_num, hxr⟩
              case measure => simp [intOf]; omega
            · have q5 : ((ny : Int) == 1) = false := by simp; omega
              clear hc hy hyd hyl hny
              go_wp2_with fail
              go_roundw
              case rel => exact ⟨k + 1, by omega, by omega, by go_num, hxr⟩
              case measure => simp [intOf]; omega
          · replace la := la.ext en_rep hxr
            replace lb := lb.ext en_rep hxr
            have hcut := cut_en la K (K : Int) rfl (by omega)
            have lt := la.upto en_rep (m := K) (by omega)
            clear hrest hk1 hk
            have g3 := hw4.trans hxr
            go_wp2_with fail
            refine wp_region_typed2 (R := But wr.heap.size (fun _ => False)) Ext.steady (But.steady _ _) (fun _ _ => But.of_ext) rfl 113 rfl [0, 1, 0, 0, 0, 24, 63, 0, 255, 511, 1023, 2047] 256 (by kernel_rfl) ?_
            -- 0: Op.move t6
            apply Stage2.step (Is _) true [] true false (Is.keeps _) (fun _ => Is.keeps _) (by kernel_rfl)
            · intro w1 h1
              have h1 : Ext _ w1 := h1
              simp only [List.nil_append, List.cons_append, List.map_cons, List.map_nil, Given]
              go_wp2_with fail
              exact Post.isv (Ext.refl _) rfl rfl rfl
            -- 1: Op.call { value (Operand.func 22), args := #[t87], argTypes := #[32] }
            apply Stage2.step (Is (.int .i64 Kb)) true [true] true false (Is.keeps _) (fun _ => Is.keeps _) (by kernel_rfl)
            · intro w1 h1
              have h1 : Ext _ w1 := h1
              simp only [List.nil_append, List.cons_append, List.map_cons, List.map_nil, Sp.pr, Given]
              rintro _ rfl
              have g5 := h1
              go_wp2_with fail
              refine (verdict_Ripe (lb.ext en_rep g5) (by omega) hb1 HKB).mono ?_
              rintro e w6 ⟨rfl, g6⟩
              go_wp2_with fail
              exact Post.isv g6 rfl rfl rfl
            -- 2: Op.buildSlice 32 0 #[]
            apply Stage2.step (Nil0) false [] true false (Nil0.keeps) (no_keeps) (by kernel_rfl)
            · intro w1 h1
              have h1 : Ext _ w1 := h1
              simp only [List.nil_append, List.cons_append, List.map_cons, List.map_nil, Given]
              go_wp2_with fail
              exact ⟨rfl, rfl, Ext.alloc _ _, _, rfl⟩
            -- 3: Op.move t5
            apply Stage2.step (Is _) true [] true false (Is.keeps _) (fun _ => Is.keeps _) (by kernel_rfl)
            · intro w1 h1
              have h1 : Ext _ w1 := h1
              simp only [List.nil_append, List.cons_append, List.map_cons, List.map_nil, Given]
              go_wp2_with fail
              exact Post.isv (Ext.refl _) rfl rfl rfl
            -- 4: Op.move t7
            apply Stage2.step (Is _) true [] true false (Is.keeps _) (fun _ => Is.keeps _) (by kernel_rfl)
            · intro w1 h1
              have h1 : Ext _ w1 := h1
              simp only [List.nil_append, List.cons_append, List.map_cons, List.map_nil, Given]
              go_wp2_with fail
              exact Post.isv (Ext.refl _) rfl rfl rfl
            -- 5: Op.slice 32 t90 none (some t91) none
            apply Stage2.step (Is _) true [false, false, false, true, true] true false (Is.keeps _) (fun _ => Is.keeps _) (by kernel_rfl)
            · intro w1 h1
              have h1 : Ext _ w1 := h1
              simp only [List.nil_append, List.cons_append, List.map_cons, List.map_nil, Sp.pr, Given]
              rintro _ rfl
              rintro _ rfl
              go_wp2_with fail
              exact Post.isv (Ext.refl _) rfl rfl rfl
            -- 6: Op.call { builtin append, args := #[t89, t92], argTypes := #[32, 32] }
            apply Stage2.step (EnT wr.heap.size K (xa.take K)) false [false, false, true, false, false, true] true false (EnT.keeps _ _ _) (no_keeps) (by kernel_rfl)
            · intro w1 h1
              have h1 : Ext _ w1 := h1
              simp only [List.nil_append, List.cons_append, List.map_cons, List.map_nil, Sp.pr, Given]
              rintro _ ⟨A9, rfl⟩
              rintro _ rfl
              have hfd := Feed.old (P := Try.prog) (tx := 32) (w := w1) en_rep (OwnL.nil (size := 3) (R := enR) TEn w1 wr.heap.size A9) lt h1 under_ens
              go_wp2_with (
                at_builtin
                refine wpList_append_lst2 (w0 := wr) en_rep rfl _ _ _ _ rfl TEn i0 _ 40 under_ens hi0 hz0 hz1 hz2 rfl A9 0 0 [] rfl (OwnL.nil _ _ _ _) _ K (xa.take K) rfl hfd K (Nat.zero_add _) (xa.take K) rfl (by simp only [maxLen]; omega) (by omega) h1 ?_
                intro A6 c6 w6 hb6 hx6 hg6)
              exact ⟨rfl, rfl, grown_nil hg6, _, _, rfl, hb6⟩
            -- 7: Op.move t6
            apply Stage2.step (Is _) true [] true false (Is.keeps _) (fun _ => Is.keeps _) (by kernel_rfl)
            · intro w1 h1
              have h1 : Ext _ w1 := h1
              simp only [List.nil_append, List.cons_append, List.map_cons, List.map_nil, Given]
              go_wp2_with fail
              exact Post.isv (Ext.refl _) rfl rfl rfl
            -- 8: Op.call { builtin append, args := #[t93, t94], argTypes := #[32, 32] }
            apply Stage2.step (EnT wr.heap.size (K + nb) (xa.take K ++ xb)) false [false, false, false, false, false, false, true, true] true true (EnT.keeps _ _ _) (no_keeps) (by kernel_rfl)
            · intro w1 h1
              have h1 : Ext _ w1 := h1
              simp only [List.nil_append, List.cons_append, List.map_cons, List.map_nil, Sp.pr, Given]
              rintro _ ⟨A3, c3, rfl, h3⟩
              rintro _ rfl
              have hfd := Feed.old (P := Try.prog) (tx := 32) (w := w1) en_rep h3 lb h1 under_ens
              go_wp2_with (
                at_builtin
                refine wpList_append_lst2 (w0 := wr) en_rep rfl _ _ _ _ rfl TEn i0 _ 40 under_ens hi0 hz0 hz1 hz2 rfl A3 K c3 (xa.take K) rfl h3 _ nb xb rfl hfd (K + nb) rfl _ rfl (by simp only [maxLen]; omega) (by omega) h1 ?_
                intro A6 c6 w6 hb6 hx6 hg6)
              exact ⟨rfl, rfl, But.grown (But.refl _ _ _) hg6 (fun g hg => .inr (h3.row_lt g hg).1), _, _, rfl, hb6⟩
            -- 9: Op.call { value (Operand.func 22), args := #[t95], argTypes := #[32] }
            apply Stage2.step (Is (.int .i64 ((K + Kb : Nat) : Int))) true [false, false, false, false, false, false, false, false, true] false false (Is.keeps _) (fun _ => Is.keeps _) (by kernel_rfl)
            · intro w1 h1
              have h1 : (But wr.heap.size (fun _ => False)) _ w1 := h1
              simp only [List.nil_append, List.cons_append, List.map_cons, List.map_nil, Sp.pr, Given]
              rintro _ ⟨A4, c4, rfl, h4⟩
              go_wp2_with fail
              refine (verdict_Ripe h4.lst (by omega) hab1 HKK).mono ?_
              rintro e w6 ⟨rfl, g6⟩
              go_wp2_with fail
              exact Post.isv g6 rfl rfl rfl
            -- 10: Op.assign t88
            apply Stage2.step (Is _) true [false, true] false false (Is.keeps _) (fun _ => Is.keeps _) (by kernel_rfl)
            · intro w1 h1
              have h1 : (But wr.heap.size (fun _ => False)) _ w1 := h1
              simp only [List.nil_append, List.cons_append, List.map_cons, List.map_nil, Sp.pr, Given]
              rintro _ rfl
              go_wp2_with fail
              exact Post.isv (Ext.refl _) rfl rfl rfl
            -- 11: Op.assign t96
            apply Stage2.step (Is _) true [false, false, false, false, false, false, false, false, false, true] false false (Is.keeps _) (fun _ => Is.keeps _) (by kernel_rfl)
            · intro w1 h1
              have h1 : (But wr.heap.size (fun _ => False)) _ w1 := h1
              simp only [List.nil_append, List.cons_append, List.map_cons, List.map_nil, Sp.pr, Given]
              rintro _ rfl
              go_wp2_with fail
              exact Post.isv (Ext.refl _) rfl rfl rfl
            apply Stage2.nil [true, true, false, true, true, true, false, true, true, true, true, true] (by kernel_rfl)
            intro w1 h1
            have h1 : (But wr.heap.size (fun _ => False)) _ w1 := h1
            simp only [List.nil_append, List.cons_append, List.map_cons, List.map_nil, Sp.pr]
            refine Fin2.is_ ?_
            refine Fin2.is_ ?_
            refine Fin2.dead_ ?_
            intro dead2
            refine Fin2.is_ ?_
            refine Fin2.is_ ?_
            refine Fin2.is_ ?_
            refine Fin2.dead_ ?_
            intro dead6
            refine Fin2.is_ ?_
            refine Fin2.step_ ?_
            rintro _ ⟨A4, c4, rfl, h4⟩
            refine Fin2.is_ ?_
            refine Fin2.is_ ?_
            refine Fin2.is_ ?_
            refine Fin2.nil_ ?_
            go_simp
            have g5 := (Ext.refl wr).but h1 (Nat.le_refl _) (fun _ h => h.elim)
            replace g3 := g3.trans g5
            replace lt := lt.ext en_rep g5
            go_wp2_with fail
            refine (verdict_Ripe lt (by omega) hat1 HKT).mono ?_
            rintro e w7 ⟨rfl, g6⟩
            replace g3 := g3.trans g6
            clear g5 g6
            go_wp2_with fail
            refine (law23_known _).mono ?_
            rintro e w8 ⟨rfl, g6⟩
            go_wp2_with fail
            go_ret
            exact ⟨rfl, g3.trans g6⟩
end Go.Proofs.Ytkoknleopmlhcaa
