/-
  The walk of one statement of chapter 23.
-/
import Derived.Test.YtkoknleopmlhcaaJudge
import Derived.Test.YtkoknleopmlhcaaGrow
import Derived.Test.YtkoknleopmlhcaaEntries
import Derived.Test.YtkoknleopmlhcaaSameEn
import Derived.Test.YtkoknleopmlhcaaCut
import Derived.Test.YtkoknleopmlhcaaOpenI
import Derived.Test.YtkoknleopmlhcaaOpenEvs
namespace Go.Proofs.Ytkoknleopmlhcaa
open Go.RowKit
set_option linter.unusedVariables false
set_option linter.unusedSimpArgs false
set_option linter.unnecessarySimpa false
set_option maxRecDepth 100000


theorem Lst.cut {α : Type} {size : Nat} {R : α → List Value → World → Prop} (hR : Rep size R) {w : World} {A : Option Addr} {n c lo hi : Nat} {l : List α} (h : Lst size R w A n c l) (h1 : lo ≤ hi) (h2 : hi ≤ n) :
    Lst size R w (if c = lo then A else A.map (·.add (lo * size))) (hi - lo) (c - lo) ((l.drop lo).take (hi - lo)) := by
  have hl := h.len
  have hcap := h.cap
  have hmax := h.max
  obtain ⟨css, q1, q2⟩ := h.rd
  refine ⟨by simp; omega, by omega, by omega, (css.drop lo).take (hi - lo), (q1.drop lo).take _, ?_, fun hn => ?_⟩
  · rw [((q1.drop lo).take _).flat hR, List.length_take, List.length_drop, hl, Nat.min_eq_left (by omega)]
  · obtain ⟨ad, rfl, hc⟩ := q2.2 (by omega)
    rw [if_neg (by omega)]
    refine ⟨ad.add (lo * size), rfl, fun j u hu => ?_⟩
    rw [add_of_add]
    refine hc _ u ?_
    rw [(q1.drop lo).flat_take hR, q1.flat_drop hR, List.getElem?_take] at hu
    split at hu
    · rw [List.getElem?_drop] at hu
      exact hu
    · cases hu
theorem run_cutL {t e : TypeId} {i : TypeInfo} {size : Nat} (ht : Try.prog.underlying t = some (.slice e)) (hi0 : Try.prog.info? e = some i) (hz1 : i.size = size) (w : World) (A : Option Addr) (n c lo hi : Nat) (h1 : lo ≤ hi) (h2 : hi ≤ c) :
    (Instr.slice t (.slice A n c) (some (.int .i64 (lo : Int))) (some (.int .i64 (hi : Int))) none).run Try.prog w = .ok (.slice (if c = lo then A else A.map (·.add (lo * size))) (hi - lo) (c - lo)) w := by
  have e2 : ((lo : Nat) : Int) ≤ (hi : Int) := by omega
  have e3 : ((hi : Nat) : Int) ≤ (c : Int) := by omega
  simp [Instr.slice, run_underlying ht, Instr.sliceBounds, run_sliceBound, sizeOf, typeInfo, hi0, hz1, h1, h2, e2, e3]
theorem cutL_mid {α : Type} {R : α → List Value → World → Prop} {t e : TypeId} {i : TypeInfo} {size : Nat} (hR : Rep size R) (ht : Try.prog.underlying t = some (.slice e)) (hi0 : Try.prog.info? e = some i) (hz1 : i.size = size)
    {w : World} {A : Option Addr} {n c : Nat} {l : List α} (h : Lst size R w A n c l) (lo m : Nat) (x y : Int) (hx : x = lo) (hy : y = ((lo + m : Nat) : Int)) (hm : lo + m ≤ n) :
    ∃ A1 c1, (∀ w', (Instr.slice t (.slice A n c) (some (.int .i64 x)) (some (.int .i64 y)) none).run Try.prog w' = .ok (.slice A1 m c1) w') ∧ Lst size R w A1 m c1 ((l.drop lo).take m) := by
  subst hx hy
  have hs := h.cut hR (lo := lo) (hi := lo + m) (by omega) (by omega)
  have hcap := h.cap
  rw [show lo + m - lo = m by omega] at hs
  refine ⟨_, _, fun w' => ?_, hs⟩
  have := run_cutL ht hi0 hz1 w' A n c lo (lo + m) (by omega) (by omega)
  rw [show lo + m - lo = m by omega] at this
  exact this
theorem cutL_from {α : Type} {R : α → List Value → World → Prop} {t e : TypeId} {i : TypeInfo} {size : Nat} (hR : Rep size R) (ht : Try.prog.underlying t = some (.slice e)) (hi0 : Try.prog.info? e = some i) (hz1 : i.size = size)
    {w : World} {A : Option Addr} {n c : Nat} {l : List α} (h : Lst size R w A n c l) (lo m : Nat) (x : Int) (hx : x = lo) (hm : lo + m = n) :
    ∃ A1 c1, (∀ w', (Instr.slice t (.slice A n c) (some (.int .i64 x)) none none).run Try.prog w' = .ok (.slice A1 m c1) w') ∧ Lst size R w A1 m c1 (l.drop lo) := by
  subst hx
  have hs := h.cut hR (lo := lo) (hi := n) (by omega) (by omega)
  have hcap := h.cap
  have hln := h.len
  rw [List.take_of_length_le (by rw [List.length_drop, hln]; omega), show n - lo = m by omega] at hs
  refine ⟨_, _, fun w' => ?_, hs⟩
  have e2 : ((lo : Nat) : Int) ≤ (n : Int) := by omega
  have e3 : lo ≤ n := by omega
  have e4 : n - lo = m := by omega
  simp [Instr.slice, run_underlying ht, Instr.sliceBounds, run_sliceBound, sizeOf, typeInfo, hi0, hz1, e3, e4, hcap, e2]
theorem cutL_upto {α : Type} {R : α → List Value → World → Prop} {t e : TypeId} {i : TypeInfo} {size : Nat} (hR : Rep size R) (ht : Try.prog.underlying t = some (.slice e)) (hi0 : Try.prog.info? e = some i) (hz1 : i.size = size)
    {w : World} {A : Option Addr} {n c : Nat} {l : List α} (h : Lst size R w A n c l) (m : Nat) (y : Int) (hy : y = (m : Int)) (hm : m ≤ n) :
    (∀ w', (Instr.slice t (.slice A n c) none (some (.int .i64 y)) none).run Try.prog w' = .ok (.slice A m c) w') ∧ Lst size R w A m c (l.take m) := by
  subst hy
  have hcap := h.cap
  refine ⟨fun w' => ?_, h.upto hR hm⟩
  have e1 : ((m : Nat) : Int) ≤ (c : Int) := by omega
  have e5 : m ≤ c := by omega
  by_cases hc : c = 0
  · have e6 : m = 0 := by omega
    subst hc e6
    cases A <;> simp [Instr.slice, run_underlying ht, Instr.sliceBounds, run_sliceBound, sizeOf, typeInfo, hi0, hz1]
  · cases A <;> simp [Instr.slice, run_underlying ht, Instr.sliceBounds, run_sliceBound, sizeOf, typeInfo, hi0, hz1, e1, e5, hc, Ne.symm hc, Addr.add]
/-! plain -/
theorem ofI_mem : ∀ (xs : List Tg) (s d : Int), ofI xs s d = d ∨ ∃ x ∈ xs, ofI xs s d = x.id
  | [], s, d => .inl rfl
  | x :: xs, s, d => by
    rw [ofI]
    rcases ofI_mem xs s (if x.pt < s then x.id else d) with h | ⟨y, hy, h⟩
    · rw [h]
      split
      · exact .inr ⟨x, by simp, rfl⟩
      · exact .inl rfl
    · exact .inr ⟨y, by simp [hy], h⟩
theorem ofI_grown {out : List Tg} {e s : Int} (h : Grown out e) (hs : 0 < s) : 1 ≤ ofI out s 0 ∧ ofI out s 0 ≤ 40 := by
  obtain ⟨tl, rfl⟩ := h.head
  have h1 : ofI (tag1 :: tl) s 0 = ofI tl s 1 := by
    rw [ofI, if_pos (by simpa [tag1] using hs)]
    rfl
  have hm := h.most
  have hz := h.size
  rw [h1]
  rcases ofI_mem tl s 1 with h2 | ⟨y, hy, h2⟩
  · rw [h2]; omega
  · rw [h2]
    have h3 := (h.ok y (by simp [hy])).1
    have h4 : y.id ≤ mostI (tag1 :: tl) 0 := mostI_mem (by simp [hy])
    omega
theorem ent_at {tags : List Tg} {e : Int} {ds : List (List UInt8)} {k : Nat} {x : En} (hx : (entOf tags e ds)[k]? = some x) : ∃ d, ds[k]? = some d ∧ x = ⟨ofI tags (e + 1 + k) 0, e + 1 + k, d⟩ := by
  unfold entOf at hx
  rw [List.getElem?_mapIdx, Option.map_eq_some_iff] at hx
  obtain ⟨d, hd, rfl⟩ := hx
  exact ⟨d, hd, rfl⟩
theorem more_other {tags : List Tg} {e to : Int} {ds : List (List UInt8)} {B k : Nat} (hB : B ≤ ds.length) (hk : k ≠ B) (n : Nat) : moreF tags e to ((entOf tags e ds).take B) (((entOf tags e ds).drop k).take n) = (entOf tags e ds).take B := by
  cases hd : ((entOf tags e ds).drop k).take n with
  | nil => rw [moreF]
  | cons x r =>
    have hx : (((entOf tags e ds).drop k).take n)[0]? = some x := by rw [hd]; rfl
    have hx2 : (entOf tags e ds)[k]? = some x := by
      rw [List.getElem?_take] at hx
      split at hx
      · rw [List.getElem?_drop] at hx; simpa using hx
      · cases hx
    obtain ⟨d, _, rfl⟩ := ent_at hx2
    rw [moreF, if_neg]
    intro hc
    have := (goB_iff.1 hc.2).1
    rw [List.length_take, ent_len, Nat.min_eq_left hB] at this
    simp only at this
    omega
theorem more_take {tags : List Tg} {e : Int} {ds : List (List UInt8)} (hg : Grown tags e) (he : e ≤ 1000000) (hds : ∀ d ∈ ds, evOk d = true ∧ 1 ≤ d.length ∧ d.length ≤ 90) (hl : ds.length ≤ 1000) (T : Nat) :
    ∀ (n B : Nat), B ≤ ds.length → moreF tags e (e + T) ((entOf tags e ds).take B) (((entOf tags e ds).drop B).take n) = (entOf tags e ds).take (max B (min (min (min (B + n) 18) T) ds.length))
  | 0, B, hB => by
    rw [List.take_zero, moreF]
    congr 1
    omega
  | n + 1, B, hB => by
    have hp := hg.pos
    by_cases hlt : B < ds.length
    · obtain ⟨x, hx⟩ : ∃ x, (entOf tags e ds)[B]? = some x := ⟨_, List.getElem?_eq_getElem (by rw [ent_len]; exact hlt)⟩
      have hdr : (entOf tags e ds).drop B = x :: (entOf tags e ds).drop (B + 1) := drop_step hx
      obtain ⟨d, hd, hxd⟩ := ent_at hx
      obtain ⟨q1, q2, q3⟩ := hds d (List.mem_of_getElem? hd)
      have ho := ofI_grown hg (s := e + 1 + B) (by omega)
      have hgo : goB tags (e + T) (e + ((entOf tags e ds).take B).length + 1) x = decide (B + 1 ≤ T) := by
        rw [List.length_take, ent_len, Nat.min_eq_left hB, hxd]
        unfold goB
        rw [decide_eq_decide]
        simp only [q1]
        rw [show e + (B : Int) + 1 = e + 1 + B by omega]
        constructor
        · rintro ⟨_, _, h3, _⟩; omega
        · intro h
          refine ⟨rfl, rightN_iff.2 ?_, by omega, rfl, trivial⟩
          omega
      rw [hdr, List.take_succ_cons, moreF]
      have hlB : ((entOf tags e ds).take B).length = B := by rw [List.length_take, ent_len, Nat.min_eq_left hB]
      by_cases hc : B < 18 ∧ B + 1 ≤ T
      · rw [if_pos ⟨by rw [hlB]; exact hc.1, by rw [hgo]; simpa using hc.2⟩, take_step hx, more_take hg he hds hl T n (B + 1) (by omega)]
        congr 1
        omega
      · rw [if_neg (fun h => hc ⟨by rw [hlB] at h; exact h.1, by have := h.2; rw [hgo] at this; simpa using this⟩)]
        congr 1
        omega
    · rw [List.drop_of_length_le (by rw [ent_len]; omega), List.take_nil, moreF]
      congr 1
      omega
def wantN (B k n T la : Nat) : Nat := if k = B then max B (min (min (min (B + n) 18) T) la) else B
theorem want_le {B k n T la : Nat} (h : B ≤ la) : wantN B k n T la ≤ la := by unfold wantN; split <;> omega
theorem more_want {tags : List Tg} {e : Int} {ds : List (List UInt8)} (hg : Grown tags e) (he : e ≤ 1000000) (hds : ∀ d ∈ ds, evOk d = true ∧ 1 ≤ d.length ∧ d.length ≤ 90) (hl : ds.length ≤ 1000) (T n B k : Nat) (hB : B ≤ ds.length) :
    moreF tags e (e + T) ((entOf tags e ds).take B) (((entOf tags e ds).drop k).take n) = (entOf tags e ds).take (wantN B k n T ds.length) := by
  unfold wantN
  split
  · rename_i h
    subst h
    exact more_take hg he hds hl T n k hB
  · rename_i h
    exact more_other hB h n
theorem ent_bounds {tags : List Tg} {e : Int} {ds : List (List UInt8)} (hg : Grown tags e) (he : e ≤ 1000000) (hl : ds.length ≤ 1000) : ∀ x ∈ entOf tags e ds, enB x := by
  intro x hx
  obtain ⟨i, hi⟩ := List.mem_iff_getElem?.1 hx
  obtain ⟨d, hd, rfl⟩ := ent_at hi
  have hp := hg.pos
  have ho := ofI_grown hg (s := e + 1 + i) (by omega)
  have hi2 := (List.getElem?_eq_some_iff.1 hd).1
  unfold enB
  simp only
  omega

theorem ent_short2 {tags : List Tg} {e : Int} {ds : List (List UInt8)} (h : ∀ d ∈ ds, d.length ≤ 90) : ∀ x ∈ entOf tags e ds, x.d.length ≤ 1000 := by
  intro x hx
  obtain ⟨i, hi⟩ := List.mem_iff_getElem?.1 hx
  obtain ⟨d, hd, rfl⟩ := ent_at hi
  have := h d (List.mem_of_getElem? hd)
  simp only
  omega
theorem min_step (x y v : Int) (h : min x y = v) : (if y < x then y else x) = v := by
  subst h
  split <;> omega
theorem run_min4 {P : Program} {x y z u v1 v2 v : Int} (h1 : min x y = v1) (h2 : min v1 z = v2) (h3 : min v2 u = v) (ts : Array TypeId) (t : TypeId) (w : World) :
    (Builtin.min_ ts t #[.int .i64 x, .int .i64 y, .int .i64 z, .int .i64 u]).run P w = .ok (.int .i64 v) w := by
  have e1 := min_step _ _ _ h1
  have e2 := min_step _ _ _ h2
  have e3 := min_step _ _ _ h3
  simp [Builtin.min_, Builtin.min2, e1, e2, e3]
set_option maxHeartbeats 16000000 in
theorem law_VerdictMore (A : Option Addr) (n c : Nat) (gl : List Int) (A' : Option Addr) (n' c' : Nat) (l : List Ev) (A2 : Option Addr) (n2 c2 : Nat) (cl : List Int) (to : Int) (w : World) (h1 : Lst 1 intR w A n c gl) (h2 : Lst 5 evR w A' n' c' l) (h3 : Lst 1 intR w A2 n2 c2 cl) :
    Calls Try.prog 14 #[.slice A n c, .slice A' n' c', .slice A2 n2 c2, .int .i64 to] w fun e w' => e = .returned (.bool true) ∧ Ext w w' := by
  have h63 := h1.n63
  have h63' := h2.n63
  have h632 := h3.n63
  by_cases t1 : 30 < n
  · 
    go_enter Try.func14, Try.ntmps14
    go_wp2_with fail
    refine (law23_known _).mono ?_
    rintro e w2 ⟨rfl, hx1⟩
    go_wp2_with fail
    go_ret
    exact ⟨rfl, hx1⟩
  obtain ⟨f1, hf1⟩ : ∃ q, smallB l 40 = q := ⟨_, rfl⟩
  have HF1 := Lib.hid hf1
  cases f1 with
  | false =>
    clear hf1
    go_enter Try.func14, Try.ntmps14
    go_wp2_with fail
    refine (keep_Small h2 (m := 40) (by decide) HF1).mono ?_
    rintro e w1 ⟨rfl, g1⟩
    go_wp2_with fail
    refine (law23_known _).mono ?_
    rintro e w2 ⟨rfl, hx1⟩
    go_wp2_with fail
    go_ret
    exact ⟨rfl, g1.trans hx1⟩
  | true =>
    by_cases t2 : 40 < n2
    · clear hf1
      go_enter Try.func14, Try.ntmps14
      go_wp2_with fail
      refine (keep_Small h2 (m := 40) (by decide) HF1).mono ?_
      rintro e w1 ⟨rfl, g1⟩
      go_wp2_with fail
      refine (law23_known _).mono ?_
      rintro e w2 ⟨rfl, hx1⟩
      go_wp2_with fail
      go_ret
      exact ⟨rfl, g1.trans hx1⟩
    have hm := (of_decide_eq_true hf1).2
    rw [h2.len] at hm
    obtain ⟨i0, hi0, hz0, hz1, hz2⟩ := info_parts info_en
    obtain ⟨R1, hR1⟩ : ∃ q, growL gl = q := ⟨_, rfl⟩
    have b1 := growL_bounds gl
    have gr := grown gl
    rw [h1.len, hR1] at b1
    rw [hR1] at gr
    obtain ⟨R1, E1⟩ := R1
    simp only at b1 gr
    obtain ⟨E1, rfl⟩ := Int.eq_ofNat_of_zero_le b1.1
    have b1 : E1 ≤ 90 := by omega
    obtain ⟨T, hT, hT3⟩ : ∃ p : Nat, bits BinOp.and IntKind.i64 to 63 = (p : Int) ∧ p ≤ 63 := ⟨(to % 64).toNat, by rw [and63]; omega, by omega⟩
    obtain ⟨ds, hds⟩ : ∃ q, putsL l = q := ⟨_, rfl⟩
    have hdl : ds.length ≤ 40 := by rw [← hds]; have := puts_len l; rw [h2.len] at this; omega
    have hdo : ∀ d ∈ ds, evOk d = true ∧ 1 ≤ d.length ∧ d.length ≤ 90 := by rw [← hds]; exact fun d hd => puts_ok hd
    obtain ⟨xa, hxa⟩ : ∃ q, entOf R1 (E1 : Int) ds = q := ⟨_, rfl⟩
    have hal0 : xa.length = ds.length := by rw [← hxa, ent_len]
    have HW : Hid (∀ (n B k : Nat), B ≤ xa.length → moreF R1 (E1 : Int) ((E1 : Int) + T) (xa.take B) ((xa.drop k).take n) = xa.take (wantN B k n T xa.length)) := by
      unfold Hid
      rw [hal0, ← hxa]
      exact fun n B k hB => more_want gr (by omega) hdo (by omega) T n B k hB
    have hab : ∀ x ∈ xa, enB x := by rw [← hxa]; exact ent_bounds gr (by omega) (by omega)
    have has : ∀ x ∈ xa, x.d.length ≤ 1000 := by rw [← hxa]; exact ent_short2 fun d hd => (hdo d hd).2.2
    have HXA : Hid (entOf R1 (E1 : Int) (putsL l) = xa) := by unfold Hid; rw [hds]; exact hxa
    have hal : xa.length ≤ 40 := by omega
    have HR1 := Lib.hid hR1
    have hE63 : Hid (-9223372036854775808 ≤ (E1 : Int) ∧ (E1 : Int) ≤ 9223372036854775807) := by unfold Hid; omega
    subst hds
    clear hf1 hR1 gr hxa hdo hdl
    go_enter Try.func14, Try.ntmps14
    go_wp2_with fail
    refine (keep_Small h2 (m := 40) (by decide) HF1).mono ?_
    rintro e w1 ⟨rfl, g1⟩
    go_wp2_with fail
    refine (keep_Grow (h1.ext int_rep g1) (by omega) HR1).mono ?_
    rintro e w3 ⟨Ga, gn, gc, rfl, hg, g3⟩
    replace g1 := g1.trans g3
    have lg := hg.lst
    clear hg g3
    go_wp2_with fail
    refine (law23_entries lg (h2.ext ev_rep g1) (by omega) (by omega) (by omega) HXA).mono ?_
    rintro e w4 ⟨Aa, na, ca, rfl, la, g2⟩
    replace g1 := g1.trans g2
    replace lg := lg.ext tg_rep g2
    have la := la.lst
    have hna := la.len
    rw [hna] at HW
    have hxl := hna
    have hna40 : na ≤ 40 := by rw [← hna]; omega
    clear g2 hna hal hal0
    go_wp2_with fail
    go_loopw [12, 13] (fun v i wr => ∃ (k B : Nat) (Ab : Option Addr) (cb : Nat), k ≤ n2 ∧ B ≤ na ∧ B ≤ 18 ∧ B ≤ T ∧ v = .slice Ab B cb ∧ i = .int .i64 k ∧ Lst 3 enR wr Ab B cb (xa.take B) ∧ Ext w4 wr) (fun _ i _ => n2 - (intOf i).toNat)
    case atStart => exact ⟨0, 0, _, _, by omega, by omega, by omega, by omega, rfl, rfl, Lst.nil _, Ext.refl _⟩
    case round =>
      obtain ⟨k, B, Ab, cb, hk, hB, hB18, hBT, rfl, rfl, lb, hxr⟩ := hrel
      by_cases hlt : k < n2
      case neg =>
        go_wp2_with fail
        refine (law23_known _).mono ?_
        rintro e w9 ⟨rfl, g5⟩
        go_wp2_with fail
        go_ret
        exact ⟨rfl, (g1.trans hxr).trans g5⟩
      by_cases hna0 : 0 < na
      case neg =>
        have q0 : decide ((0 : Int) < (na : Int)) = false := by simp; omega
        have q0' : decide (0 < na) = false := by simp; omega
        go_wp2_with fail
        refine (law23_known _).mono ?_
        rintro e w9 ⟨rfl, g5⟩
        go_wp2_with fail
        go_ret
        exact ⟨rfl, (g1.trans hxr).trans g5⟩
      have q0 : decide ((0 : Int) < (na : Int)) = true := by simp; omega
      have q0' : decide (0 < na) = true := by simp; omega
      obtain ⟨ga, oa, x, rfl, hx, ax⟩ := h3.atI (i := k) hlt
      have ax := (g1.trans hxr).cell ax
      obtain ⟨r, hr, hr3⟩ : ∃ p : Nat, bits BinOp.and IntKind.i64 x 255 = (p : Int) ∧ p ≤ 255 := ⟨(x % 256).toNat, by rw [and255]; omega, by omega⟩
      have hkm : (r : Int) % (na : Int) = ((r % na : Nat) : Int) := by simp
      have hkl : r % na < na := Nat.mod_lt _ (by omega)
      obtain ⟨q, hq⟩ : ∃ q, r % na = q := ⟨_, rfl⟩
      rw [hq] at hkm hkl
      obtain ⟨p, hp, hp3⟩ : ∃ p : Nat, bits BinOp.and IntKind.i64 (x / 256) 7 = (p : Int) ∧ p ≤ 7 := ⟨(x / 256 % 8).toNat, by rw [i64_low _ 7 3 (by omega) (by decide)]; omega, by omega⟩
      obtain ⟨m, hm1⟩ : ∃ m : Nat, (na : Int) - (q : Int) = (m : Int) := ⟨na - q, by omega⟩
      have hm2 : q + m ≤ na := by omega
      clear hq hx
      by_cases hpm : p ≤ m
      · have hpm1 : (p : Int) ≤ (m : Int) ∨ (m : Int) < (p : Int) := by omega
        have hqn : q + p ≤ na := by omega
        obtain ⟨A9, c9, hcut, l9⟩ := cutL_mid (t := 32) en_rep under_ens hi0 hz1 (la.ext en_rep hxr) q p (q : Int) ((q : Int) + (p : Int)) rfl (by omega) hqn
        have HWn := Lib.hid (HW.out p B q hB)
        have hnz : p ≤ 40 := by omega
        clear hpm1
        by_cases hqB : q = B
        case neg =>
          have hWv : wantN B q p T na = B := by unfold wantN; rw [if_neg hqB]
          rw [hWv] at HWn
          have q6 : ((q : Int) == (B : Int)) = false := by simp; omega
          have hW6 : ¬ na < B := by omega
          clear hWv
          go_wp2_with fail
          clear hcut
          refine (verdict_More lb l9 (lg.ext tg_rep hxr) (by omega) (by omega) (fun y hy => has y (List.mem_of_mem_take hy)) (fun y hy => has y (List.mem_of_mem_drop (List.mem_of_mem_take hy))) (fun y hy => hab y (List.mem_of_mem_drop (List.mem_of_mem_take hy))) hE63 HWn).mono ?_
          rintro e w5 ⟨A3, n3, c3, rfl, lb2, g5⟩
          replace lb2 := lb2.lst
          obtain rfl : B = n3 := by rw [← lb2.len, List.length_take, hxl]; omega
          have hlc := cutL_upto (t := 32) en_rep under_ens hi0 hz1 ((la.ext en_rep hxr).ext en_rep g5) B (B : Int) rfl (by omega)
          obtain ⟨hcut2, l8⟩ := hlc
          go_wp2_with fail
          refine (ref_SameEntries lb2 l8).mono ?_
          rintro e w6 ⟨rfl, g6⟩
          rw [show sameEn (xa.take B) (xa.take B) = true by simp [sameEn]]
          go_wp2_with fail
          go_roundw
          case rel => exact ⟨k + 1, B, A3, c3, by omega, by omega, by omega, by omega, rfl, by go_num, lb2.ext en_rep g6, (hxr.trans g5).trans g6⟩
          case measure => simp [intOf]; omega
        have q6 : ((q : Int) == (B : Int)) = true := by simp; omega
        have hWd : wantN B q p T na = max B (min (min (min (B + p) 18) T) na) := by unfold wantN; rw [if_pos hqB]
        rw [hWd] at HWn
        obtain ⟨W, hW⟩ : ∃ W, max B (min (min (min (B + p) 18) T) na) = W := ⟨_, rfl⟩
        rw [hW] at HWn
        by_cases hg : W = B
        · subst hg
          have hmn : ∀ w', (Builtin.min_ #[3, 3, 3, 3] 3 #[.int .i64 ((W : Int) + (p : Int)), .int .i64 18, .int .i64 ((E1 : Int) + (T : Int) - (E1 : Int)), .int .i64 (na : Int)]).run Try.prog w' = .ok (.int .i64 (W : Int)) w' := fun w' => run_min4 (v1 := min ((W : Int) + (p : Int)) 18) (v2 := min (min ((W : Int) + (p : Int)) 18) (T : Int)) rfl (by omega) (by omega) _ _ _
          have hW6 : ¬ na < W := by omega
          clear hWd hqB hW
          go_wp2_with fail
          clear hcut
          refine (verdict_More lb l9 (lg.ext tg_rep hxr) (by omega) (by omega) (fun y hy => has y (List.mem_of_mem_take hy)) (fun y hy => has y (List.mem_of_mem_drop (List.mem_of_mem_take hy))) (fun y hy => hab y (List.mem_of_mem_drop (List.mem_of_mem_take hy))) hE63 HWn).mono ?_
          rintro e w5 ⟨A3, n3, c3, rfl, lb2, g5⟩
          replace lb2 := lb2.lst
          obtain rfl : W = n3 := by rw [← lb2.len, List.length_take, hxl]; omega
          have hlc := cutL_upto (t := 32) en_rep under_ens hi0 hz1 ((la.ext en_rep hxr).ext en_rep g5) W (W : Int) rfl (by omega)
          obtain ⟨hcut2, l8⟩ := hlc
          go_wp2_with fail
          refine (ref_SameEntries lb2 l8).mono ?_
          rintro e w6 ⟨rfl, g6⟩
          rw [show sameEn (xa.take W) (xa.take W) = true by simp [sameEn]]
          go_wp2_with fail
          go_roundw
          case rel => exact ⟨k + 1, W, A3, c3, by omega, by omega, by omega, by omega, rfl, by go_num, lb2.ext en_rep g6, (hxr.trans g5).trans g6⟩
          case measure => simp [intOf]; omega
        · have hBW : B < W := by omega
          have hmn : ∀ w', (Builtin.min_ #[3, 3, 3, 3] 3 #[.int .i64 ((B : Int) + (p : Int)), .int .i64 18, .int .i64 ((E1 : Int) + (T : Int) - (E1 : Int)), .int .i64 (na : Int)]).run Try.prog w' = .ok (.int .i64 (W : Int)) w' := fun w' => run_min4 (v1 := min ((B : Int) + (p : Int)) 18) (v2 := min (min ((B : Int) + (p : Int)) 18) (T : Int)) rfl (by omega) (by omega) _ _ _
          have hW2 : W ≤ 18 := by omega
          have hW3 : W ≤ T := by omega
          have hW4 : W ≤ na := by omega
          have hW6 : ¬ na < W := by omega
          clear hWd hqB hW hg
          go_wp2_with fail
          clear hcut
          refine (verdict_More lb l9 (lg.ext tg_rep hxr) (by omega) (by omega) (fun y hy => has y (List.mem_of_mem_take hy)) (fun y hy => has y (List.mem_of_mem_drop (List.mem_of_mem_take hy))) (fun y hy => hab y (List.mem_of_mem_drop (List.mem_of_mem_take hy))) hE63 HWn).mono ?_
          rintro e w5 ⟨A3, n3, c3, rfl, lb2, g5⟩
          replace lb2 := lb2.lst
          obtain rfl : W = n3 := by rw [← lb2.len, List.length_take, hxl]; omega
          have hlc := cutL_upto (t := 32) en_rep under_ens hi0 hz1 ((la.ext en_rep hxr).ext en_rep g5) W (W : Int) rfl (by omega)
          obtain ⟨hcut2, l8⟩ := hlc
          go_wp2_with fail
          refine (ref_SameEntries lb2 l8).mono ?_
          rintro e w6 ⟨rfl, g6⟩
          rw [show sameEn (xa.take W) (xa.take W) = true by simp [sameEn]]
          go_wp2_with fail
          go_roundw
          case rel => exact ⟨k + 1, W, A3, c3, by omega, by omega, by omega, by omega, rfl, by go_num, lb2.ext en_rep g6, (hxr.trans g5).trans g6⟩
          case measure => simp [intOf]; omega
      · have hpm1 : (p : Int) ≤ (m : Int) ∨ (m : Int) < (p : Int) := by omega
        have hqn : q + m ≤ na := by omega
        obtain ⟨A9, c9, hcut, l9⟩ := cutL_mid (t := 32) en_rep under_ens hi0 hz1 (la.ext en_rep hxr) q m (q : Int) ((q : Int) + (m : Int)) rfl (by omega) hqn
        have HWn := Lib.hid (HW.out m B q hB)
        have hnz : m ≤ 40 := by omega
        clear hpm1
        by_cases hqB : q = B
        case neg =>
          have hWv : wantN B q m T na = B := by unfold wantN; rw [if_neg hqB]
          rw [hWv] at HWn
          have q6 : ((q : Int) == (B : Int)) = false := by simp; omega
          have hW6 : ¬ na < B := by omega
          clear hWv
          go_wp2_with fail
          clear hcut
          refine (verdict_More lb l9 (lg.ext tg_rep hxr) (by omega) (by omega) (fun y hy => has y (List.mem_of_mem_take hy)) (fun y hy => has y (List.mem_of_mem_drop (List.mem_of_mem_take hy))) (fun y hy => hab y (List.mem_of_mem_drop (List.mem_of_mem_take hy))) hE63 HWn).mono ?_
          rintro e w5 ⟨A3, n3, c3, rfl, lb2, g5⟩
          replace lb2 := lb2.lst
          obtain rfl : B = n3 := by rw [← lb2.len, List.length_take, hxl]; omega
          have hlc := cutL_upto (t := 32) en_rep under_ens hi0 hz1 ((la.ext en_rep hxr).ext en_rep g5) B (B : Int) rfl (by omega)
          obtain ⟨hcut2, l8⟩ := hlc
          go_wp2_with fail
          refine (ref_SameEntries lb2 l8).mono ?_
          rintro e w6 ⟨rfl, g6⟩
          rw [show sameEn (xa.take B) (xa.take B) = true by simp [sameEn]]
          go_wp2_with fail
          go_roundw
          case rel => exact ⟨k + 1, B, A3, c3, by omega, by omega, by omega, by omega, rfl, by go_num, lb2.ext en_rep g6, (hxr.trans g5).trans g6⟩
          case measure => simp [intOf]; omega
        have q6 : ((q : Int) == (B : Int)) = true := by simp; omega
        have hWd : wantN B q m T na = max B (min (min (min (B + m) 18) T) na) := by unfold wantN; rw [if_pos hqB]
        rw [hWd] at HWn
        obtain ⟨W, hW⟩ : ∃ W, max B (min (min (min (B + m) 18) T) na) = W := ⟨_, rfl⟩
        rw [hW] at HWn
        by_cases hg : W = B
        · subst hg
          have hmn : ∀ w', (Builtin.min_ #[3, 3, 3, 3] 3 #[.int .i64 ((W : Int) + (m : Int)), .int .i64 18, .int .i64 ((E1 : Int) + (T : Int) - (E1 : Int)), .int .i64 (na : Int)]).run Try.prog w' = .ok (.int .i64 (W : Int)) w' := fun w' => run_min4 (v1 := min ((W : Int) + (m : Int)) 18) (v2 := min (min ((W : Int) + (m : Int)) 18) (T : Int)) rfl (by omega) (by omega) _ _ _
          have hW6 : ¬ na < W := by omega
          clear hWd hqB hW
          go_wp2_with fail
          clear hcut
          refine (verdict_More lb l9 (lg.ext tg_rep hxr) (by omega) (by omega) (fun y hy => has y (List.mem_of_mem_take hy)) (fun y hy => has y (List.mem_of_mem_drop (List.mem_of_mem_take hy))) (fun y hy => hab y (List.mem_of_mem_drop (List.mem_of_mem_take hy))) hE63 HWn).mono ?_
          rintro e w5 ⟨A3, n3, c3, rfl, lb2, g5⟩
          replace lb2 := lb2.lst
          obtain rfl : W = n3 := by rw [← lb2.len, List.length_take, hxl]; omega
          have hlc := cutL_upto (t := 32) en_rep under_ens hi0 hz1 ((la.ext en_rep hxr).ext en_rep g5) W (W : Int) rfl (by omega)
          obtain ⟨hcut2, l8⟩ := hlc
          go_wp2_with fail
          refine (ref_SameEntries lb2 l8).mono ?_
          rintro e w6 ⟨rfl, g6⟩
          rw [show sameEn (xa.take W) (xa.take W) = true by simp [sameEn]]
          go_wp2_with fail
          go_roundw
          case rel => exact ⟨k + 1, W, A3, c3, by omega, by omega, by omega, by omega, rfl, by go_num, lb2.ext en_rep g6, (hxr.trans g5).trans g6⟩
          case measure => simp [intOf]; omega
        · have hBW : B < W := by omega
          have hmn : ∀ w', (Builtin.min_ #[3, 3, 3, 3] 3 #[.int .i64 ((B : Int) + (m : Int)), .int .i64 18, .int .i64 ((E1 : Int) + (T : Int) - (E1 : Int)), .int .i64 (na : Int)]).run Try.prog w' = .ok (.int .i64 (W : Int)) w' := fun w' => run_min4 (v1 := min ((B : Int) + (m : Int)) 18) (v2 := min (min ((B : Int) + (m : Int)) 18) (T : Int)) rfl (by omega) (by omega) _ _ _
          have hW2 : W ≤ 18 := by omega
          have hW3 : W ≤ T := by omega
          have hW4 : W ≤ na := by omega
          have hW6 : ¬ na < W := by omega
          clear hWd hqB hW hg
          go_wp2_with fail
          clear hcut
          refine (verdict_More lb l9 (lg.ext tg_rep hxr) (by omega) (by omega) (fun y hy => has y (List.mem_of_mem_take hy)) (fun y hy => has y (List.mem_of_mem_drop (List.mem_of_mem_take hy))) (fun y hy => hab y (List.mem_of_mem_drop (List.mem_of_mem_take hy))) hE63 HWn).mono ?_
          rintro e w5 ⟨A3, n3, c3, rfl, lb2, g5⟩
          replace lb2 := lb2.lst
          obtain rfl : W = n3 := by rw [← lb2.len, List.length_take, hxl]; omega
          have hlc := cutL_upto (t := 32) en_rep under_ens hi0 hz1 ((la.ext en_rep hxr).ext en_rep g5) W (W : Int) rfl (by omega)
          obtain ⟨hcut2, l8⟩ := hlc
          go_wp2_with fail
          refine (ref_SameEntries lb2 l8).mono ?_
          rintro e w6 ⟨rfl, g6⟩
          rw [show sameEn (xa.take W) (xa.take W) = true by simp [sameEn]]
          go_wp2_with fail
          go_roundw
          case rel => exact ⟨k + 1, W, A3, c3, by omega, by omega, by omega, by omega, rfl, by go_num, lb2.ext en_rep g6, (hxr.trans g5).trans g6⟩
          case measure => simp [intOf]; omega
end Go.Proofs.Ytkoknleopmlhcaa
