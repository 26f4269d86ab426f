/-
  slices.Delete of one snapshot, in place.
-/
import Derived.Test.YtcklkjklepmabaaZOwnSt
import Derived.Test.YtcklkjklepmabaaZClear
import Derived.Test.YtcklkjklepmabaaZCore
namespace Go.Proofs.Ytcklkjklepmabaa
open Go.RowKit
set_option linter.unusedVariables false
set_option linter.unusedSimpArgs false
set_option linter.unnecessarySimpa false
set_option maxRecDepth 100000

theorem zero_olds (n : Nat) : (Builtin.zeroCells (Value.agg #[.string ⟨#[]⟩, .slice none 0 0]).cells n).toList.length = n * 2 ∧ ∀ v ∈ (Builtin.zeroCells (Value.agg #[.string ⟨#[]⟩, .slice none 0 0]).cells n).toList, v.oneCell' = true := by
  unfold Builtin.zeroCells
  refine ⟨by simp [Value.cells], fun v hv => ?_⟩
  simp only [Array.toList_map, List.mem_map] at hv
  obtain ⟨j, _, rfl⟩ := hv
  have h2 : j % 2 = 0 ∨ j % 2 = 1 := by omega
  rcases h2 with h2 | h2 <;> simp [Value.cells, h2] <;> rfl
/-- clear behind the end of a row of one's own -/
theorem wpList_clear_tail {P : Program} {w : World} {ops : Array Oper} {rest : List Oper} {o : Oper} {a : Act} {Q : Exit → Act → World → Prop} (hgd : o.guard = none) (d : Operand) (dT : TypeId)
    (ho : o.op = .call { callee := .builtin .clear, args := #[d], argTypes := #[dT] }) (hu : P.underlying dT = some (.slice TOl)) (i : TypeInfo) (hi : P.info? TOl = some i) (hz : i.zero = some (.agg #[.string ⟨#[]⟩, .slice none 0 0]))
    {R : Ol → List Value → World → Prop} (hR : Rep 2 R) (B : Nat) (A : Option Addr) (n c : Nat) (xs : List Ol) (dp : Option Addr) (dLen dCap : Nat) (hd : a.eval d = .slice dp dLen dCap) (hown : OwnL TOl 2 R w B A n c xs) (hoff : n + dLen ≤ c) (hdp : 0 < dLen → dp = A.map (·.add (n * 2)))
    (h : ∀ w', OwnL TOl 2 R w' B A n c xs → But w.heap.size (fun k => rowOf A c = some k) w w' → wpList P ops Q rest (a.put o.dst (.tuple #[])) w') : wpList P ops Q (o :: rest) a w := by
  refine wpList_plain hgd fun K hK => ?_
  by_cases h0 : dLen = 0
  · subst h0
    have hrun := run_clear_none (P := P) (w := w) (ty := o.type) hu dp dCap
    unfold Oper.wp
    simp [execOp, ho, resolve, invoke, builtin, hd, hrun, Result.andThen]
    exact hK _ _ (h w hown (But.refl _ _ _))
  · obtain ⟨css, q1, q2, q3⟩ := hown.own
    rcases q2 with ⟨hc0, hn0, _⟩ | ⟨g, cur, hA, hB, hg, hnc, hc, hcs, hlen, htk⟩
    · omega
    have hcl : cur.toList.length = c * 2 := by rw [Array.length_toList, hcs]
    obtain ⟨hzl, hzo⟩ := zero_olds dLen
    obtain ⟨zs, hzs⟩ : ∃ zs, (Builtin.zeroCells (Value.agg #[.string ⟨#[]⟩, .slice none 0 0]).cells dLen).toList = zs := ⟨_, rfl⟩
    have hdv : dp = some ⟨g, n * 2, none⟩ := by
      rw [hdp (by omega), hA]
      simp only [Option.map_some, Addr.add]
      split
      · rename_i e; rw [e]
      · simp
    have hrun := run_clear (P := P) (w := w) (t := dT) (ty := o.type) hu hi hz g (n * 2) dLen dCap (by omega) cur hg (by rw [hzl, ← Array.length_toList, hcl]; omega) hzo
    rw [hzs] at hrun hzl
    rw [hdv] at hd
    have hrg : rowOf A c = some g := by unfold rowOf; rw [if_neg (by omega), hA]; rfl
    have hL : (cur.toList.take (n * 2) ++ zs ++ cur.toList.drop (n * 2 + zs.length)).length = c * 2 := by
      simp only [List.length_append, List.length_take, List.length_drop, hcl, hzl]; omega
    have hT : (cur.toList.take (n * 2) ++ zs ++ cur.toList.drop (n * 2 + zs.length)).take (n * 2) = css.flatten := by
      rw [List.append_assoc, List.take_append_of_le_length (by rw [List.length_take, hcl]; omega), List.take_of_length_le (by rw [List.length_take]; omega)]
      exact htk
    obtain ⟨Z, hZ⟩ : ∃ Z, cur.toList.take (n * 2) ++ zs ++ cur.toList.drop (n * 2 + zs.length) = Z := ⟨_, rfl⟩
    rw [hZ] at hrun hL hT
    have hw : ∀ k, rowOf A c ≠ some k → (w.setRow g Z.toArray).heap[k]? = w.heap[k]? := fun k hk => setRow_other w g k _ (fun e => hk (by rw [hrg, e]))
    have hfin := hK _ _ (h (w.setRow g Z.toArray) ⟨hown.len, css, q1.mono fun x cs hm hr => hR.keep _ _ _ _ hr fun k hk => hw k (q3 cs hm k hk), .inr ⟨g, _, hA, hB, setRow_heap w g _ _ _ _ hg, hnc, hc, by simpa using hL, hlen, by simpa using hT⟩, q3⟩ ⟨rfl, rfl, rfl, by simp [World.setRow], fun k _ hs _ => hw k hs⟩)
    unfold Oper.wp
    simp only [execOp, ho, resolve, invoke, builtin]
    simp [hd, hrun, Result.andThen]
    exact hfin
theorem OwnL.upto {α : Type} {size : Nat} {R : α → List Value → World → Prop} {e : TypeId} {w : World} {B : Nat} {A : Option Addr} {n c m : Nat} {xs : List α} (hR : Rep size R) (h : OwnL e size R w B A n c xs) (hm : m ≤ n) : OwnL e size R w B A m c (xs.take m) := by
  have hlen := h.len
  obtain ⟨css, q1, q2, q3⟩ := h.own
  refine ⟨by rw [List.length_take, hlen]; omega, css.take m, q1.take m, ?_, fun cs hcs => q3 cs (List.mem_of_mem_take hcs)⟩
  rw [q1.flat_take hR]
  have hfl := q1.flat hR
  rcases q2 with ⟨rfl, rfl, hx⟩ | ⟨g, cur, hA, hB, hg, hnc, hc, hcs, hln, htk⟩
  · obtain rfl : m = 0 := by omega
    exact .inl ⟨rfl, rfl, by simp⟩
  · refine .inr ⟨g, cur, hA, hB, hg, by omega, hc, hcs, ?_, ?_⟩
    · rw [List.length_take, hln]
      have := Nat.mul_le_mul_right size hm
      omega
    · rw [← htk, List.take_take, Nat.min_eq_left (Nat.mul_le_mul_right size hm)]
theorem run_append_fits {P : Program} (w : World) (B : Nat) (t tx ty e : TypeId) (i : TypeInfo) (size : Nat) (ht : P.underlying t = some (.slice e)) (hi : P.info? e = some i) (hsize : i.size = size)
    (A : Option Addr) (n c : Nat) (xs : List Value) (hown : Own w B e size A n c xs) (x : Value) (m : Nat) (news : List Value) (hs : Src P size tx x m news w) (hroom : n + m ≤ c) (hc0 : 0 < c) :
    ∃ w', (Builtin.append_ #[t, tx] ty #[.slice A n c, x]).run P w = .ok (.slice A (n + m) c) w' ∧ Own w' B e size A (n + m) c (xs ++ news) ∧ w.grownBy w' (rowOf A c) := by
  subst hsize
  have hlen : (xs ++ news).length = (n + m) * i.size := by rw [List.length_append, hown.length, hs.newsLen, Nat.add_mul]
  rcases hown with ⟨rfl, rfl, rfl⟩ | ⟨g, cur, rfl, hBg, hg, h1, h2, h3, h4, h5⟩
  · omega
  · have hfit : n * i.size + news.length ≤ cur.size := by rw [hs.newsLen, h3, ← Nat.add_mul]; exact Nat.mul_le_mul_right _ hroom
    have hcell : ∀ j, j < news.length → (w.cell? ⟨g, 0 + n * i.size + j, none⟩).isSome = true := by
      intro j hj
      rw [cell_of_row w g _ cur e (0, 0) hg, Array.getElem?_eq_getElem (by omega)]
      rfl
    have hfr : ∀ j, j < news.length → w.frozen? ⟨g, 0 + n * i.size + j, none⟩ = false := by
      intro j _
      simp [World.frozen?, hg]
    have hr := run_append_room_src (P := P) w t tx ty e i ht hi g 0 n c x m news hs hroom hcell hfr
    obtain ⟨cur', k1, k2, k3, k4⟩ := setCells_row w g cur e (n * i.size) news hg hfit
    simp only [Nat.zero_add] at hr
    refine ⟨_, hr, .inr ⟨g, cur', rfl, hBg, k1, hroom, h2, by rw [k2, h3], hlen, ?_⟩, ?_⟩
    · rw [Nat.add_mul, ← hs.newsLen, k3, h5]
    · have h0 : c ≠ 0 := by omega
      simpa [rowOf, h0] using k4
theorem wpList_append_fits4 {P : Program} {α : Type} {size : Nat} {R : α → List Value → World → Prop} (hR : Rep size R)
    {ops : Array Oper} {rest : List Oper} {o : Oper} {a : Act} {Q : Exit → Act → World → Prop} {w : World} {B : Nat} (hgd : o.guard = none) (s y : Operand) (t tx : TypeId)
    (ho : o.op = .call { callee := .builtin .append, args := #[s, y], argTypes := #[t, tx] })
    (e : TypeId) (i : TypeInfo) (ht : P.underlying t = some (.slice e)) (hi : P.info? e = some i) (hsize : i.size = size)
    (A : Option Addr) (n c : Nat) (xs : List α) (hsv : a.eval s = .slice A n c) (hown : OwnL e size R w B A n c xs) (Y : Value) (m : Nat) (ys : List α) (hy : a.eval y = Y) (hl : Feed P size R w tx A c Y m ys)
    (N : Nat) (hN : n + m = N) (zs : List α) (hzs' : xs ++ ys = zs) (hroom : N ≤ c) (hc0 : 0 < c)
    (h : ∀ w', OwnL e size R w' B A N c zs → w.grownBy w' (rowOf A c) → wpList P ops Q rest (a.put o.dst (.slice A N c)) w') : wpList P ops Q (o :: rest) a w := by
  subst hN hzs'
  obtain ⟨css, ha, ho1, hp⟩ := hown.own
  obtain ⟨hlen, dss, hb, hsrc, hk⟩ := hl
  refine wpList_plain hgd fun K hK => ?_
  obtain ⟨w', hrun, hown', hg⟩ := run_append_fits (P := P) w B t tx o.type e i size ht hi hsize A n c _ ho1 _ m _ hsrc hroom hc0
  unfold Oper.wp
  simp [execOp, ho, resolve, invoke, builtin, hsv, hy, hrun, Result.andThen]
  exact hK _ _ (h w' (OwnL.more hR hown.len hlen ha hp hb hk hown' hg (.inl rfl)) hg)
/-- the rest of a row of one's own, as what an append takes -/
theorem OwnL.feed_cut {P : Program} {α : Type} {size : Nat} {R : α → List Value → World → Prop} (hR : Rep size R) {e tx e' : TypeId} {w : World} {B : Nat} {A : Option Addr} {n c lo : Nat} {xs : List α} (h : OwnL e size R w B A n c xs) (hlo : lo ≤ n) (hk : P.underlying tx = some (.slice e')) :
    Feed P size R w tx A c (.slice (if c = lo then A else A.map (·.add (lo * size))) (n - lo) (c - lo)) (n - lo) (xs.drop lo) := by
  have hl := h.len
  obtain ⟨css, q1, q2, q3⟩ := h.own
  have hrd := q2.rd
  have hcaps := q2.caps
  refine ⟨by rw [List.length_drop, hl], css.drop lo, q1.drop lo, ?_, fun cs hcs => q3 cs (List.mem_of_mem_drop hcs)⟩
  have hrd2 : Rd w size (if c = lo then A else A.map (·.add (lo * size))) (n - lo) (css.drop lo).flatten := by
    refine ⟨by rw [(q1.drop lo).flat hR, List.length_drop, hl], fun hn => ?_⟩
    obtain ⟨ad, rfl, hc⟩ := hrd.2 (by omega)
    rw [if_neg (by omega)]
    refine ⟨ad.add (lo * size), rfl, fun j u hu => ?_⟩
    rw [add_of_add]
    refine hc _ u ?_
    rw [q1.flat_drop hR, List.getElem?_drop] at hu
    exact hu
  exact hrd2.src (c - lo) hk ((q1.drop lo).one hR)
theorem run_cut3 {t e : TypeId} {i : TypeInfo} {size : Nat} (ht : Try.prog.underlying t = some (.slice e)) (hi0 : Try.prog.info? e = some i) (hz1 : i.size = size) (w : World) (A : Option Addr) (n c lo hi : Nat) (h1 : lo ≤ hi) (h2 : hi ≤ n) (h3 : n ≤ c) :
    (Instr.slice t (.slice A n c) (some (.int .i64 (lo : Int))) (some (.int .i64 (hi : Int))) (some (.int .i64 (n : Int)))).run Try.prog w = .ok (.slice (if n = lo then A else A.map (·.add (lo * size))) (hi - lo) (n - lo)) w := by
  have e2 : ((lo : Nat) : Int) ≤ (hi : Int) := by omega
  have e3 : ((hi : Nat) : Int) ≤ (n : Int) := by omega
  have e4 : ((n : Nat) : Int) ≤ (c : Int) := by omega
  simp [Instr.slice, run_underlying ht, Instr.sliceBounds, run_sliceBound, sizeOf, typeInfo, hi0, hz1, h1, h2, h3, e2, e3, e4]
theorem run_fromL {t e : TypeId} {i : TypeInfo} {size : Nat} (ht : Try.prog.underlying t = some (.slice e)) (hi0 : Try.prog.info? e = some i) (hz1 : i.size = size) (w : World) (A : Option Addr) (n c lo : Nat) (h1 : lo ≤ n) (h2 : n ≤ c) (x : Int) (hx : x = (lo : Int)) :
    (Instr.slice t (.slice A n c) (some (.int .i64 x)) none none).run Try.prog w = .ok (.slice (if c = lo then A else A.map (·.add (lo * size))) (n - lo) (c - lo)) w := by
  subst hx
  have e2 : ((lo : Nat) : Int) ≤ (n : Int) := by omega
  simp [Instr.slice, run_underlying ht, Instr.sliceBounds, run_sliceBound, sizeOf, typeInfo, hi0, hz1, h1, h2, e2]
def OlT (R : Ol → List Value → World → Prop) (B : Nat) (A : Option Addr) (n c : Nat) (xs : List Ol) : Ty := fun v w => v = .slice A n c ∧ OwnL TOl 2 R w B A n c xs
theorem OlT.keeps {R : Ol → List Value → World → Prop} (hR : Rep 2 R) (B : Nat) (A : Option Addr) (n c : Nat) (xs : List Ol) : Keeps Ext (OlT R B A n c xs) := fun _ _ _ hx ⟨e, h⟩ => ⟨e, h.ext hR hx⟩
set_option maxHeartbeats 4000000 in
theorem delete_olds {A : Option Addr} {n c : Nat} {xs : List Ol} {B i : Nat} {R : Ol → List Value → World → Prop} (hR : Rep 2 R) {w : World} (h : OwnL TOl 2 R w B A n c xs) (hi : i < n) (hn : n ≤ 1000) :
    Calls Try.prog 76 #[.slice A n c, .int .i64 i, .int .i64 ((i : Int) + 1)] w fun e w' => e = .returned (.slice A (n - 1) c) ∧ OwnL TOl 2 R w' B A (n - 1) c (xs.take i ++ xs.drop (i + 1)) ∧ But w.heap.size (fun k => rowOf A c = some k) w w' := by
  have hl := h.lst
  have hcap := hl.cap
  have h63 := hl.n63
  obtain ⟨i0, hi0, hz0, hz1, hz2⟩ := info_parts info_ol
  have hc3 : ∀ w' : World, ∃ A1 c1, (Instr.slice 33 (.slice A n c) (some (.int .i64 (i : Int))) (some (.int .i64 ((i : Int) + 1))) (some (.int .i64 (n : Int)))).run Try.prog w' = .ok (.slice A1 1 c1) w' := fun w' => by
    have := run_cut3 (t := 33) under_ols hi0 hz1 w' A n c i (i + 1) (by omega) (by omega) (by omega)
    rw [show i + 1 - i = 1 by omega, show ((i + 1 : Nat) : Int) = (i : Int) + 1 by omega] at this
    exact ⟨_, _, this⟩
  obtain ⟨A1, c1, hcw⟩ := hc3 w
  have q1 : ((i : Int) == (i : Int) + 1) = false := by simp; omega
  have hcu := (cutL_upto (t := 33) hR under_ols hi0 hz1 hl i (i : Int) rfl (by omega)).1
  have hcf := fun w' => run_fromL (t := 33) under_ols hi0 hz1 w' A n c (i + 1) (by omega) hcap ((i : Int) + 1) (by omega)
  have hfd := fun (w' : World) (hx : Ext w w') => (h.ext hR hx).feed_cut (P := Try.prog) (tx := 33) (e' := TOl) (lo := i + 1) hR (by omega) under_ols
  obtain ⟨A2, hA2⟩ : ∃ A2, (if c = i + 1 then A else A.map (·.add ((i + 1) * 2))) = A2 := ⟨_, rfl⟩
  obtain ⟨m, hm⟩ : ∃ m, n - (i + 1) = m := ⟨_, rfl⟩
  obtain ⟨c2, hc2⟩ : ∃ c2, c - (i + 1) = c2 := ⟨_, rfl⟩
  rw [hA2, hm, hc2] at hcf hfd
  obtain ⟨p, hp⟩ : ∃ p, n - 1 = p := ⟨_, rfl⟩
  have hmn : i + m = p := by omega
  have hpn : p + 1 = n := by omega
  have hcl := fun w' => run_cutL (t := 33) under_ols hi0 hz1 w' A p c p n (by omega) (by omega)
  obtain ⟨A4, hA4⟩ : ∃ A4, (if c = p then A else A.map (·.add (p * 2))) = A4 := ⟨_, rfl⟩
  have hA5 : A4 = A.map (·.add (p * 2)) := by rw [← hA4, if_neg (by omega)]
  rw [hA4, show n - p = 1 by omega] at hcl
  rw [hp]
  have hup := h.upto hR (m := i) (by omega)
  have HPN := Lib.hid hpn
  have hp40 : p ≤ 1000 := by omega
  have hpc : p + 1 ≤ c := by omega
  have HA5 := Lib.hid hA5
  clear hA2 hc2 hc3 hA4 hA5
  go_enter Try.func76, Try.ntmps76
  go_wp2_with fail
  refine wp_region_typed2 (R := But w.heap.size (fun k => rowOf A c = some k)) Ext.steady (But.steady _ _) (fun _ _ => But.of_ext) rfl 33 rfl [0, 0, 3, 0, 0, 24, 63, 127] 64 (by kernel_rfl) ?_
  -- 0: Op.move t0
  apply Stage2.step (Is _) true [] true false (Is.keeps _) (fun _ => Is.keeps _) (by kernel_rfl)
  · intro w1 h1
    have h1 : Ext _ w1 := h1
    simp only [List.nil_append, List.cons_append, List.map_cons, List.map_nil, Given]
    go_wp2_with fail
    exact Post.isv (Ext.refl _) rfl rfl rfl
  -- 1: Op.move t1
  apply Stage2.step (Is _) true [] true false (Is.keeps _) (fun _ => Is.keeps _) (by kernel_rfl)
  · intro w1 h1
    have h1 : Ext _ w1 := h1
    simp only [List.nil_append, List.cons_append, List.map_cons, List.map_nil, Given]
    go_wp2_with fail
    exact Post.isv (Ext.refl _) rfl rfl rfl
  -- 2: Op.slice 33 t20 none (some t21) none
  apply Stage2.step (Is _) true [true, true] true false (Is.keeps _) (fun _ => Is.keeps _) (by kernel_rfl)
  · intro w1 h1
    have h1 : Ext _ w1 := h1
    simp only [List.nil_append, List.cons_append, List.map_cons, List.map_nil, Sp.pr, Given]
    rintro _ rfl
    rintro _ rfl
    go_wp2_with fail
    exact Post.isv (Ext.refl _) rfl rfl rfl
  -- 3: Op.move t0
  apply Stage2.step (Is _) true [] true false (Is.keeps _) (fun _ => Is.keeps _) (by kernel_rfl)
  · intro w1 h1
    have h1 : Ext _ w1 := h1
    simp only [List.nil_append, List.cons_append, List.map_cons, List.map_nil, Given]
    go_wp2_with fail
    exact Post.isv (Ext.refl _) rfl rfl rfl
  -- 4: Op.move t2
  apply Stage2.step (Is _) true [] true false (Is.keeps _) (fun _ => Is.keeps _) (by kernel_rfl)
  · intro w1 h1
    have h1 : Ext _ w1 := h1
    simp only [List.nil_append, List.cons_append, List.map_cons, List.map_nil, Given]
    go_wp2_with fail
    exact Post.isv (Ext.refl _) rfl rfl rfl
  -- 5: Op.slice 33 t23 (some t24) none none
  apply Stage2.step (Is _) true [false, false, false, true, true] true false (Is.keeps _) (fun _ => Is.keeps _) (by kernel_rfl)
  · intro w1 h1
    have h1 : Ext _ w1 := h1
    simp only [List.nil_append, List.cons_append, List.map_cons, List.map_nil, Sp.pr, Given]
    rintro _ rfl
    rintro _ rfl
    go_wp2_with fail
    exact Post.isv (Ext.refl _) rfl rfl rfl
  -- 6: Op.call { builtin append, args := #[t22, t25], argTypes := #[33, 33] }
  apply Stage2.step (OlT R B A p c (xs.take i ++ xs.drop (i + 1))) false [false, false, true, false, false, true] true true (OlT.keeps hR _ _ _ _ _) (no_keeps) (by kernel_rfl)
  · intro w1 h1
    have h1 : Ext _ w1 := h1
    simp only [List.nil_append, List.cons_append, List.map_cons, List.map_nil, Sp.pr, Given]
    rintro _ rfl
    rintro _ rfl
    go_wp2_with (
      refine wpList_append_fits4 (B := B) hR rfl (.tmp 22) (.tmp 25) _ _ rfl TOl i0 under_ols hi0 hz1 A i c _ rfl (hup.ext hR h1) _ m _ rfl (hfd _ h1) p hmn _ rfl (by omega) (by omega) ?_
      intro w9 hb9 hg9)
    exact ⟨rfl, rfl, (show But w.heap.size (fun k => rowOf A c = some k) w1 _ from But.grown (But.refl _ _ _) hg9 (fun g hg => .inl hg)), rfl, hb9⟩
  -- 7: Op.assign t26
  apply Stage2.step (OlT R B A p c (xs.take i ++ xs.drop (i + 1))) false [false, false, false, false, false, false, true] false false (OlT.keeps hR _ _ _ _ _) (no_keeps) (by kernel_rfl)
  · intro w1 h1
    have h1 : (But w.heap.size (fun k => rowOf A c = some k)) _ w1 := h1
    simp only [List.nil_append, List.cons_append, List.map_cons, List.map_nil, Sp.pr, Given]
    rintro v hcp
    go_wp2_with fail
    exact ⟨rfl, rfl, Ext.refl _, hcp⟩
  apply Stage2.nil [true, true, true, true, true, true, true, true] (by kernel_rfl)
  intro w1 h1
  have h1 : (But w.heap.size (fun k => rowOf A c = some k)) _ w1 := h1
  simp only [List.nil_append, List.cons_append, List.map_cons, List.map_nil, Sp.pr]
  refine Fin2.is_ ?_
  refine Fin2.is_ ?_
  refine Fin2.is_ ?_
  refine Fin2.is_ ?_
  refine Fin2.is_ ?_
  refine Fin2.is_ ?_
  refine Fin2.step_ ?_
  rintro _ ⟨rfl, h6⟩
  refine Fin2.step_ ?_
  rintro _ ⟨rfl, h6⟩
  refine Fin2.nil_ ?_
  go_simp
  clear hfd hcf hcu hcw hm hmn hp hpn
  go_wp2_with (
    refine wpList_clear_tail rfl (.tmp 31) 33 rfl under_ols i0 hi0 hz0 hR B A p c _ A4 1 (c - p) rfl h6 (by omega) (fun _ => HA5.out) ?_
    intro w9 hb9 hbt9)
  go_ret
  have hsz := h1.size
  exact ⟨rfl, hb9, h1.trans ⟨hbt9.os, hbt9.tape, hbt9.output, hbt9.size, fun k hk hs hl => hbt9.block k (by omega) hs hl⟩⟩
end Go.Proofs.Ytcklkjklepmabaa
