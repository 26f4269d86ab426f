/-
  Images with snapshots: contract of the reference's Apply.
-/
import Derived.Test.YtcklkjklepmabaaZOutS
import Derived.Test.YtcklkjklepmabaaZCheck
import Derived.Test.YtcklkjklepmabaaZSized
import Derived.Test.YtcklkjklepmabaaZCore
import Derived.Test.YtcklkjklepmabaaZDelete
namespace Go.Proofs.Ytcklkjklepmabaa
open Go.RowKit
set_option linter.unusedVariables false
set_option linter.unusedSimpArgs false
set_option linter.unnecessarySimpa false
set_option maxRecDepth 100000

def NilT : Ty := fun v _ => ∃ A, v = .slice A 0 0
theorem NilT.keeps : Keeps Ext NilT := fun _ _ _ _ h => h
/-- the box as it stands once its bytes, or its snapshots, were set anew -/
def SetD (go B nx : Nat) (v1 : Value) (d : List UInt8) : Ty := fun _ w => ∃ A c, w.cell? ⟨go, 0, none⟩ = some (.slice A nx c) ∧ w.cell? ⟨go, 1, none⟩ = some v1 ∧ Byt U8 w B A nx c d
theorem SetD.keeps (go B nx : Nat) (v1 : Value) (d : List UInt8) : Keeps Ext (SetD go B nx v1 d) := fun _ _ _ hx ⟨A, c, h0, h1, h⟩ => ⟨A, c, hx.cell h0, hx.cell h1, h.ext hx⟩
def SetO (go B nx : Nat) (v0 : Value) (V : Nat → Prop) (sn : List Ol) : Ty := fun _ w => ∃ A c, w.cell? ⟨go, 0, none⟩ = some v0 ∧ w.cell? ⟨go, 1, none⟩ = some (.slice A nx c) ∧ OwnL TOl 2 (inR olR V) w B A nx c sn
theorem SetO.keeps (go B nx : Nat) (v0 : Value) (V : Nat → Prop) (sn : List Ol) : Keeps Ext (SetO go B nx v0 V sn) := fun _ _ _ hx ⟨A, c, h0, h1, h⟩ => ⟨A, c, hx.cell h0, hx.cell h1, h.ext (in_rep ol_rep V) hx⟩
/-- a row that grew, and the box beside it -/
def RowO (go B nx : Nat) (v0 v1 : Value) (V : Nat → Prop) (sn : List Ol) : Ty := fun v w => ∃ A c, v = .slice A nx c ∧ OwnL TOl 2 (inR olR V) w B A nx c sn ∧ rowOf A c ≠ some go ∧ w.cell? ⟨go, 0, none⟩ = some v0 ∧ w.cell? ⟨go, 1, none⟩ = some v1 ∧ (∀ q, w.frozen? ⟨go, q, none⟩ = false) ∧ go < w.heap.size
theorem RowO.keeps (go B nx : Nat) (v0 v1 : Value) (V : Nat → Prop) (sn : List Ol) : Keeps Ext (RowO go B nx v0 v1 V sn) := fun _ _ _ hx ⟨A, c, e, h, hr, h0, h1, hf, hg⟩ => ⟨A, c, e, h.ext (in_rep ol_rep V) hx, hr, hx.cell h0, hx.cell h1, fun q => frozen_ext hx hg (hf q), Nat.lt_of_lt_of_le hg hx.size⟩
theorem all2_in {V : Nat → Prop} {w : World} : ∀ {xs : List Ol} {css : List (List Value)}, All2 (inR olR V) w xs css → ∀ cs ∈ css, ∀ k, Pts cs k → V k
  | _, _, .nil, cs, hc, k, hk => by simp at hc
  | _, _, .cons h t, cs, hc, k, hk => by
    rcases List.mem_cons.1 hc with rfl | hc
    · exact h.2 k hk
    · exact all2_in t cs hc k hk
theorem Feed.in_ {P : Program} {tx e' : TypeId} {w : World} {V : Nat → Prop} {A : Option Addr} {c : Nat} {A2 : Option Addr} {m c2 : Nat} {ys : List Ol} (h : Lst 2 (inR olR V) w A2 m c2 ys) (hV : ∀ k, V k → rowOf A c ≠ some k) (hk : P.underlying tx = some (.slice e')) : Feed P 2 (inR olR V) w tx A c (.slice A2 m c2) m ys := by
  obtain ⟨dss, h1, h2⟩ := h.rd
  exact ⟨h.len, dss, h1, h2.src c2 hk (h1.one (in_rep ol_rep V)), fun cs hcs k hk => hV k (all2_in h1 cs hcs k hk)⟩
def LstV (n : Nat) (V : Nat → Prop) (sn : List Ol) : Ty := fun v w => ∃ A c, v = .slice A n c ∧ Lst 2 (inR olR V) w A n c sn
theorem LstV.keeps (n : Nat) (V : Nat → Prop) (sn : List Ol) : Keeps Ext (LstV n V sn) := fun _ _ _ hx ⟨A, c, e, h⟩ => ⟨A, c, e, h.ext (in_rep ol_rep V) hx⟩
def OlF (B n : Nat) (s : ByteArray) (d : List UInt8) : Ty := fun v w => ∃ A c, v = .agg #[.string s, .slice A n c] ∧ Fsl w B A n c d
theorem OlF.keeps (B n : Nat) (s : ByteArray) (d : List UInt8) : Keeps Ext (OlF B n s d) := fun _ _ _ hx ⟨A, c, e, h⟩ => ⟨A, c, e, h.ext hx⟩
theorem over_next {d : List UInt8} {so j : Nat} (h : so + j < d.length) : (over d so (List.replicate j 0)).set (so + j) 0 = over d so (List.replicate (j + 1) 0) := by
  unfold over
  have hl : (d.take so).length = so := by rw [List.length_take]; omega
  rw [List.set_append_right _ _ (by omega), hl, List.length_replicate, List.length_replicate, List.set_append_right _ _ (by simp), List.length_replicate, show so + j - so - j = 0 by omega, List.drop_eq_getElem_cons (by omega), List.set_cons_zero, List.replicate_succ', List.append_assoc]
  rfl
set_option maxHeartbeats 8000000 in
theorem ref14_Apply {A : Option Addr} {n c : Nat} {A2 : Option Addr} {n2 c2 : Nat} {st : St} {k o m : Int} {Ae : Option Addr} {ne ce : Nat} {l : List UInt8} {s : ByteArray} {w : World} (hst : StR w A n c A2 n2 c2 st) (hn : n ≤ 1000) (hn2 : n2 ≤ 1000) (hd : ∀ x ∈ st.sn, x.d.length ≤ 1000) (hsl : Sl w Ae ne ce l) (hs : s.size ≤ maxLen) {r : Nat} (hr : Hid (checkN st k o m ne s = r)) {S : St} (hS : Hid (appliedS r st k o m l s = S)) :
    Calls Try.prog 55 #[stV A n c A2 n2 c2, evV k o m Ae ne ce s] w fun e w' => ∃ A' n' c' A3 n3 c3, e = .returned (.tuple #[stV A' n' c' A3 n3 c3, .int .i64 r]) ∧ StR w' A' n' c' A3 n3 c3 S ∧ Ext w w' := by
  have h63 := hst.1.n63
  have h632 := hst.2.n63
  have hdl := hst.1.len
  have hsn := hst.2.len
  have bne := hsl.n63
  have bll := hsl.len
  obtain ⟨W, hW⟩ : ∃ W, ((w.alloc (.cells #[.slice A n c, .slice A2 n2 c2] TSt)).alloc (.cells #[.int .i64 k, .int .i64 o, .int .i64 m, .slice Ae ne ce, .string s] 28)).alloc (.cells #[.slice none 0 0, .slice none 0 0] TSt) = W := ⟨_, rfl⟩
  have g0 : Ext w W := by rw [← hW]; exact ((Ext.alloc _ _).trans (Ext.alloc _ _)).trans (Ext.alloc _ _)
  have hWs : W.heap.size = w.heap.size + 3 := by rw [← hW]; simp
  have s0 : W.cell? ⟨w.heap.size, 0, none⟩ = some (.slice A n c) := by rw [← hW]; exact ((Ext.alloc _ _).trans (Ext.alloc _ _)).cell (cell_new w _ _ 0)
  have s1 : W.cell? ⟨w.heap.size, 1, none⟩ = some (.slice A2 n2 c2) := by rw [← hW]; exact ((Ext.alloc _ _).trans (Ext.alloc _ _)).cell (cell_new w _ _ 1)
  have v0 : W.cell? ⟨w.heap.size + 1, 0, none⟩ = some (.int .i64 k) := by rw [← hW]; exact (Ext.alloc _ _).cell (by have := cell_new (w.alloc (.cells #[.slice A n c, .slice A2 n2 c2] TSt)) #[.int .i64 k, .int .i64 o, .int .i64 m, .slice Ae ne ce, .string s] 28 0; simpa using this)
  have v1 : W.cell? ⟨w.heap.size + 1, 1, none⟩ = some (.int .i64 o) := by rw [← hW]; exact (Ext.alloc _ _).cell (by have := cell_new (w.alloc (.cells #[.slice A n c, .slice A2 n2 c2] TSt)) #[.int .i64 k, .int .i64 o, .int .i64 m, .slice Ae ne ce, .string s] 28 1; simpa using this)
  have v2 : W.cell? ⟨w.heap.size + 1, 2, none⟩ = some (.int .i64 m) := by rw [← hW]; exact (Ext.alloc _ _).cell (by have := cell_new (w.alloc (.cells #[.slice A n c, .slice A2 n2 c2] TSt)) #[.int .i64 k, .int .i64 o, .int .i64 m, .slice Ae ne ce, .string s] 28 2; simpa using this)
  have v3 : W.cell? ⟨w.heap.size + 1, 3, none⟩ = some (.slice Ae ne ce) := by rw [← hW]; exact (Ext.alloc _ _).cell (by have := cell_new (w.alloc (.cells #[.slice A n c, .slice A2 n2 c2] TSt)) #[.int .i64 k, .int .i64 o, .int .i64 m, .slice Ae ne ce, .string s] 28 3; simpa using this)
  have v4 : W.cell? ⟨w.heap.size + 1, 4, none⟩ = some (.string s) := by rw [← hW]; exact (Ext.alloc _ _).cell (by have := cell_new (w.alloc (.cells #[.slice A n c, .slice A2 n2 c2] TSt)) #[.int .i64 k, .int .i64 o, .int .i64 m, .slice Ae ne ce, .string s] 28 4; simpa using this)
  have z0 : W.cell? ⟨w.heap.size + 2, 0, none⟩ = some (.slice none 0 0) := by rw [← hW]; have := cell_new ((w.alloc (.cells #[.slice A n c, .slice A2 n2 c2] TSt)).alloc (.cells #[.int .i64 k, .int .i64 o, .int .i64 m, .slice Ae ne ce, .string s] 28)) #[.slice none 0 0, .slice none 0 0] TSt 0; simpa using this
  have z1 : W.cell? ⟨w.heap.size + 2, 1, none⟩ = some (.slice none 0 0) := by rw [← hW]; have := cell_new ((w.alloc (.cells #[.slice A n c, .slice A2 n2 c2] TSt)).alloc (.cells #[.int .i64 k, .int .i64 o, .int .i64 m, .slice Ae ne ce, .string s] 28)) #[.slice none 0 0, .slice none 0 0] TSt 1; simpa using this
  have zf : ∀ q, W.frozen? ⟨w.heap.size + 2, q, none⟩ = false := fun q => by
    have e : ((w.alloc (.cells #[.slice A n c, .slice A2 n2 c2] TSt)).alloc (.cells #[.int .i64 k, .int .i64 o, .int .i64 m, .slice Ae ne ce, .string s] 28)).heap.size = w.heap.size + 2 := by simp
    rw [← hW, ← e]
    unfold World.frozen?
    rw [heap_alloc_new]
    simp
  by_cases hr0 : r = 0
  case neg =>
    obtain rfl : (⟨[], []⟩ : St) = S := by rw [← hS.out]; unfold appliedS; rw [if_neg hr0]
    have qr : ((r : Int) != 0) = true := by simp; omega
    clear hS hr0
    go_enter Try.func55, Try.ntmps55
    go_wp2_with fail
    refine (ref_Check (hst.ext g0) (hsl.ext g0) hs hr).mono ?_
    rintro e wb ⟨rfl, h1⟩
    have zf0 := frozen_ext h1 (by rw [hWs]; simp) (zf 0)
    have zf1 := frozen_ext h1 (by rw [hWs]; simp) (zf 1)
    replace s0 := h1.cell s0
    replace s1 := h1.cell s1
    replace v0 := h1.cell v0
    replace v1 := h1.cell v1
    replace v2 := h1.cell v2
    replace v3 := h1.cell v3
    replace v4 := h1.cell v4
    replace z0 := h1.cell z0
    replace z1 := h1.cell z1
    replace g0 := g0.trans h1
    clear hW
    go_wp2_with fail
    refine bodyPost_ret (v := .tuple #[stV none 0 0 none 0 0, .int .i64 r]) (by simp [results, Try.results55, go_sem, z0, z1]) rfl ⟨_, _, _, _, _, _, rfl, StR.nil _, ?_⟩
    exact (g0.sets (by simp; omega) _).sets (by simp; omega) _
  subst hr0
  have hre := check_right hr.out
  have hkk := right_kind hre
  have hS2 := hS.out
  unfold appliedS at hS2
  rw [if_pos rfl] at hS2
  obtain ⟨i8, hi8, hy0, hy1, hy2⟩ := info_parts info_u8
  obtain ⟨j0, hj0, hx0, hx1, hx2⟩ := info_parts info_ol
  clear hS
  rcases hkk with rfl | rfl | rfl | rfl | rfl | rfl | rfl | rfl
  · have hck := hr.out
    have hpl : plainE 1 o m ne s = true := by unfold plainE; rw [hre]; simp
    rw [check_span hre (by omega)] at hck
    unfold spanO spanN at hck
    rw [if_pos hpl, if_pos hpl, if_pos rfl] at hck
    obtain ⟨ho0, hne0, hne1, hom⟩ : 0 ≤ o ∧ 1 ≤ ne ∧ ne ≤ 64 ∧ o ≤ 512 - (ne : Int) := by
      rcases right_cases hre with ⟨_, h0, ⟨h1, h2, h3, h4⟩, _⟩ | ⟨h, _⟩ | ⟨h, _⟩ | ⟨h, _⟩ | ⟨h, _⟩
      · exact ⟨h1, by omega, h0, h4⟩
      · omega
      · omega
      · omega
      · omega
    obtain ⟨so, rfl⟩ := Int.eq_ofNat_of_zero_le ho0
    have hfit : so + ne ≤ n := by
      rw [hdl] at hck
      split at hck
      · cases hck
      · omega
    obtain rfl : (⟨over st.d so l, st.sn⟩ : St) = S := by rw [← hS2]; simp [applyS]
    have hsz8 : (Try.prog.info? U8).map (·.size) = some 1 := by kernel_rfl
    clear hS2 hre hck hpl
    go_enter Try.func55, Try.ntmps55
    go_wp2_with fail
    refine (ref_Check (hst.ext g0) (hsl.ext g0) hs hr).mono ?_
    rintro e wb ⟨rfl, h1⟩
    replace zf : ∀ q, wb.frozen? ⟨w.heap.size + 2, q, none⟩ = false := fun q => frozen_ext h1 (by rw [hWs]; simp) (zf q)
    have hw1 : w.heap.size + 3 ≤ wb.heap.size := by have := h1.size; omega
    replace s0 := h1.cell s0
    replace s1 := h1.cell s1
    replace v0 := h1.cell v0
    replace v1 := h1.cell v1
    replace v2 := h1.cell v2
    replace v3 := h1.cell v3
    replace v4 := h1.cell v4
    replace z0 := h1.cell z0
    replace z1 := h1.cell z1
    replace g0 := g0.trans h1
    clear hW h1
    have hlo : Lst 2 (inR olR (· < wb.heap.size)) wb A2 n2 c2 st.sn := (hst.v.snaps.weak fun x cs q => ⟨q.1, fun k hk => Nat.lt_of_lt_of_le (q.2 k hk) g0.size⟩).ext (in_rep ol_rep _) g0
    have hsd := hst.1.ext g0
    go_wp2_with fail
    refine wp_region_typed3 (R := Buy wb.heap.size (fun _ => False)) Ext.steady (Buy.steady _ _) (fun _ _ => Buy.of_ext) rfl 110 rfl [0, 0, 2, 7, 0, 0, 32, 127, 255, 0, 1023] 1024 9 (by kernel_rfl) ?_
    -- 0: Op.buildSlice 22 0 #[]
    apply Stage3.step (NilT) false [] true false (NilT.keeps) (no_keeps) (by kernel_rfl)
    · intro γ w1 h1
      have h1 : Ext _ w1 := h1
      simp only [List.nil_append, List.cons_append, List.map_cons, List.map_nil, Given]
      go_wp2_with fail
      exact ⟨rfl, rfl, Ext.alloc _ _, _, rfl⟩
    -- 1: Op.fieldAddr 35 t2 0
    apply Stage3.step (Is _) true [] true false (Is.keeps _) (fun _ => Is.keeps _) (by kernel_rfl)
    · intro γ w1 h1
      have h1 : Ext _ w1 := h1
      simp only [List.nil_append, List.cons_append, List.map_cons, List.map_nil, Given]
      go_wp2_with fail
      exact Post.isv (Ext.refl _) rfl rfl rfl
    -- 2: Op.load 22 t18
    apply Stage3.step (Is _) true [false, true] true false (Is.keeps _) (fun _ => Is.keeps _) (by kernel_rfl)
    · intro γ w1 h1
      have h1 : Ext _ w1 := h1
      simp only [List.nil_append, List.cons_append, List.map_cons, List.map_nil, Sp3.at, Sp.pr, Given]
      rintro _ rfl
      have hq := h1.cell s0
      go_wp2_with fail
      exact Post.isv (Ext.refl _) rfl rfl rfl
    -- 3: Op.call { builtin append, args := #[t17, t19], argTypes := #[22, 22] }
    apply Stage3.step (ByoT wb.heap.size n st.d) false [true, false, true] true false (ByoT.keeps _ _ _) (no_keeps) (by kernel_rfl)
    · intro γ w1 h1
      have h1 : Ext _ w1 := h1
      simp only [List.nil_append, List.cons_append, List.map_cons, List.map_nil, Sp3.at, Sp.pr, Given]
      rintro _ ⟨A9, rfl⟩
      rintro _ rfl
      have hsr := hsd.ext h1
      go_wp2_with (
        at_builtin
        refine wpList_append_mine _ rfl _ _ _ _ rfl wb.heap.size U8 i8 _ 1 1 under_bytes hi8 hy0 hy1 hy2 rfl A9 0 0 _ rfl (Own.nil _ _ _ _ _) _ rfl n (st.d.map bv) (hsr.src under_bytes) (by simp only [maxLen]; omega) (by omega) h1.size ?_
        intro A6 c6 w6 hown6 hg6 _)
      exact ⟨rfl, rfl, grown_nil hg6, _, _, rfl, hdl, by simpa using hown6⟩
    -- 4: Op.buildSlice 33 0 #[]
    apply Stage3.step (NilT) false [] true false (NilT.keeps) (no_keeps) (by kernel_rfl)
    · intro γ w1 h1
      have h1 : Ext _ w1 := h1
      simp only [List.nil_append, List.cons_append, List.map_cons, List.map_nil, Given]
      go_wp2_with fail
      exact ⟨rfl, rfl, Ext.alloc _ _, _, rfl⟩
    -- 5: Op.fieldAddr 35 t2 1
    apply Stage3.step (Is _) true [] true false (Is.keeps _) (fun _ => Is.keeps _) (by kernel_rfl)
    · intro γ w1 h1
      have h1 : Ext _ w1 := h1
      simp only [List.nil_append, List.cons_append, List.map_cons, List.map_nil, Given]
      go_wp2_with fail
      exact Post.isv (Ext.refl _) rfl rfl rfl
    -- 6: Op.load 33 t22
    apply Stage3.step (Is _) true [false, false, false, false, false, true] true false (Is.keeps _) (fun _ => Is.keeps _) (by kernel_rfl)
    · intro γ w1 h1
      have h1 : Ext _ w1 := h1
      simp only [List.nil_append, List.cons_append, List.map_cons, List.map_nil, Sp3.at, Sp.pr, Given]
      rintro _ rfl
      have hq := h1.cell s1
      go_wp2_with fail
      exact Post.isv (Ext.refl _) rfl rfl rfl
    -- 7: Op.call { builtin append, args := #[t21, t23], argTypes := #[33, 33] }
    apply Stage3.step (OwnT wb.heap.size n2 (· < wb.heap.size) st.sn) false [false, false, false, false, true, false, true] true false (OwnT.keeps _ _ _ _) (no_keeps) (by kernel_rfl)
    · intro γ w1 h1
      have h1 : Ext _ w1 := h1
      simp only [List.nil_append, List.cons_append, List.map_cons, List.map_nil, Sp3.at, Sp.pr, Given]
      rintro _ ⟨A10, rfl⟩
      rintro _ rfl
      go_wp2_with (
        at_builtin
        refine wpList_append_lst4 (B := wb.heap.size) (in_rep ol_rep (· < wb.heap.size)) rfl _ _ _ _ rfl TOl j0 _ 40 under_ols hj0 hx0 hx1 hx2 rfl A10 0 0 [] rfl (OwnL.nil _ _ _ _) _ n2 st.sn rfl (Feed.old (e := TOl) (n := 0) (xs := []) (in_rep ol_rep _) (OwnL.nil _ _ _ _) hlo h1 under_ols) n2 (Nat.zero_add _) st.sn rfl (by simp only [maxLen]; omega) (by omega) h1.size ?_
        intro A7 c7 w7 ho7 hg7 hr7)
      exact ⟨rfl, rfl, grown_nil hg7, _, _, rfl, ho7⟩
    -- 8: Op.build 35 #[(0, t20), (1, t24)]
    apply Stage3.step (AgT wb.heap.size n n2 (· < wb.heap.size) st.d st.sn) false [false, false, false, true, false, false, false, true] true false (AgT.keeps _ _ _ _ _ _) (no_keeps) (by kernel_rfl)
    · intro γ w1 h1
      have h1 : Ext _ w1 := h1
      simp only [List.nil_append, List.cons_append, List.map_cons, List.map_nil, Sp3.at, Sp.pr, Given]
      rintro _ ⟨A6, c6, rfl, h6⟩
      rintro _ ⟨A7, c7, rfl, h7⟩
      go_wp2_with fail
      exact ⟨rfl, rfl, Ext.refl _, _, _, _, _, rfl, h6, h7⟩
    -- 9: Op.alloc 35
    apply Stage3.stepA (BoxQ wb.heap.size) true [] true false (BoxQ.keeps _) (fun _ => BoxQ.keeps2 _) (by kernel_rfl)
    · intro γ w1 h1
      have h1 : Ext _ w1 := h1
      simp only [List.nil_append, List.cons_append, List.map_cons, List.map_nil, Given]
      go_wp2_with fail
      exact ⟨rfl, rfl, Ext.alloc _ _, BoxQ.made h1.size⟩
    -- 10: Op.store 35 t7 t25
    apply Stage3.stepD (fun γ => OutT wb.heap.size n n2 (· < wb.heap.size) st.d st.sn γ) false [false, false, false, false, false, false, false, false, true, true] true true (fun γ => OutT.keeps _ _ _ _ _ _ _) (fun h => by cases h) (by kernel_rfl)
    · intro γ w1 h1
      have h1 : Ext _ w1 := h1
      simp only [List.nil_append, List.cons_append, List.map_cons, List.map_nil, Sp3.at, Sp.pr, Given]
      rintro _ ⟨A8, c8, A11, c11, rfl, hd8, ho8⟩
      rintro _ ⟨rfl, go, rfl, hgo, hbx, hty⟩
      have hbx2 := hbx
      obtain ⟨hx1', ⟨e1, e2, e3, e4, e5, e6, x0, x1⟩, xf⟩ := hbx
      have f0 := xf 0
      have f1 := xf 1
      go_wp2_with fail
      refine ⟨rfl, rfl, buy_set2 (.inr hgo) hbx2 _ _ _ _ _ _, fun g e => ?_⟩
      obtain rfl : go = g := by injection e with e; injection e with e; injection e with e
      exact ⟨_, _, _, _, out_set hbx2 hty hd8 ho8 hgo (fun k hk => by omega)⟩
    apply Stage3.nil [false, true, true, false, false, true, true, false, false, true, true] (by kernel_rfl)
    intro γ w1 h1
    have h1 : (Buy wb.heap.size (fun _ => False)) _ w1 := h1
    simp only [List.nil_append, List.cons_append, List.map_cons, List.map_nil, Sp3.at, Sp.pr]
    refine Fin2.dead_ ?_
    intro dead0
    refine Fin2.is_ ?_
    refine Fin2.is_ ?_
    refine Fin2.dead_ ?_
    intro dead3
    refine Fin2.dead_ ?_
    intro dead4
    refine Fin2.is_ ?_
    refine Fin2.is_ ?_
    refine Fin2.dead_ ?_
    intro dead7
    refine Fin2.dead_ ?_
    intro dead8
    refine Fin2.step_ ?_
    rintro _ ⟨rfl, go, rfl, hgo, hbx, hty⟩
    refine Fin2.step_ ?_
    rintro _ hout
    refine Fin2.nil_ ?_
    go_simp
    obtain ⟨A', c', A3, c3, hO⟩ := hout go rfl
    have gq : Ext wb w1 := (Ext.refl wb).but h1.bux.but (Nat.le_refl _) (fun _ h => h.elim)
    replace zf : ∀ q, w1.frozen? ⟨w.heap.size + 2, q, none⟩ = false := fun q => frozen_ext gq (by simp only; omega) (zf q)
    have hsl1 := hsl.ext (g0.trans gq)
    replace s0 := gq.cell s0
    replace s1 := gq.cell s1
    replace v0 := gq.cell v0
    replace v1 := gq.cell v1
    replace v2 := gq.cell v2
    replace v3 := gq.cell v3
    replace v4 := gq.cell v4
    replace z0 := gq.cell z0
    replace z1 := gq.cell z1
    replace g0 := g0.trans gq
    clear h1 hout hbx hty
    obtain ⟨wq, rfl⟩ : ∃ q, q = w1 := ⟨_, rfl⟩
    have y0 := hO.y0
    have y1 := hO.y1
    have yf0 := hO.yf 0
    have yf1 := hO.yf 1
    have hgs := gq.size
    have gbq := gq
    clear gq
    have hcap := hO.dat.sl.cap
    have hcutb := fun w' => run_fromL (t := 22) under_bytes hi8 hy1 w' A' n c' so (by omega) hcap (so : Int) rfl
    obtain ⟨A8, hA8⟩ : ∃ A8, (if c' = so then A' else A'.map (·.add (so * 1))) = A8 := ⟨_, rfl⟩
    have hA9 : A8 = A'.map (·.add so) := by rw [← hA8, if_neg (by omega)]; simp
    obtain ⟨dl, hdl2⟩ : ∃ dl, n - so = dl := ⟨_, rfl⟩
    have hdl3 : so + dl = n := by omega
    have hlt2 : l.take dl = l := List.take_of_length_le (by omega)
    rw [hA8, hdl2] at hcutb
    have HA9 := Lib.hid hA9
    have HL2 := Lib.hid hlt2
    have hbq := hO.dat
    have hrd := hO.row_d
    have hrows := hO.rows
    have hrge := hO.dat.own.row_ge
    have gwq : Ext wb wq := gbq
    clear hA8 hA9 hlt2 hdl2
    go_wp2_with fail
    refine wp_region_typed2 (R := But wq.heap.size (fun k => rowOf A' c' = some k)) Ext.steady (But.steady _ _) (fun _ _ => But.of_ext) rfl 110 rfl [0, 1, 0, 4, 15, 0, 32, 127] 128 (by kernel_rfl) ?_
    -- 0: Op.fieldAddr 35 t7 0
    apply Stage2.step (Is _) true [] true false (Is.keeps _) (fun _ => Is.keeps _) (by kernel_rfl)
    · intro w1 h1
      have h1 : Ext _ w1 := h1
      simp only [List.nil_append, List.cons_append, List.map_cons, List.map_nil, Given]
      go_wp2_with fail
      exact Post.isv (Ext.refl _) rfl rfl rfl
    -- 1: Op.load 22 t30
    apply Stage2.step (Is _) true [true] true false (Is.keeps _) (fun _ => Is.keeps _) (by kernel_rfl)
    · intro w1 h1
      have h1 : Ext _ w1 := h1
      simp only [List.nil_append, List.cons_append, List.map_cons, List.map_nil, Sp.pr, Given]
      rintro _ rfl
      have hq := h1.cell y0
      go_wp2_with fail
      exact Post.isv (Ext.refl _) rfl rfl rfl
    -- 2: Op.fieldAddr 28 t3 1
    apply Stage2.step (Is _) true [] true false (Is.keeps _) (fun _ => Is.keeps _) (by kernel_rfl)
    · intro w1 h1
      have h1 : Ext _ w1 := h1
      simp only [List.nil_append, List.cons_append, List.map_cons, List.map_nil, Given]
      go_wp2_with fail
      exact Post.isv (Ext.refl _) rfl rfl rfl
    -- 3: Op.load 3 t32
    apply Stage2.step (Is _) true [false, false, true] true false (Is.keeps _) (fun _ => Is.keeps _) (by kernel_rfl)
    · intro w1 h1
      have h1 : Ext _ w1 := h1
      simp only [List.nil_append, List.cons_append, List.map_cons, List.map_nil, Sp.pr, Given]
      rintro _ rfl
      have hq := h1.cell v1
      go_wp2_with fail
      exact Post.isv (Ext.refl _) rfl rfl rfl
    -- 4: Op.slice 22 t31 (some t33) none none
    apply Stage2.step (Is _) true [false, true, false, true] true false (Is.keeps _) (fun _ => Is.keeps _) (by kernel_rfl)
    · intro w1 h1
      have h1 : Ext _ w1 := h1
      simp only [List.nil_append, List.cons_append, List.map_cons, List.map_nil, Sp.pr, Given]
      rintro _ rfl
      rintro _ rfl
      go_wp2_with fail
      exact Post.isv (Ext.refl _) rfl rfl rfl
    -- 5: Op.fieldAddr 28 t3 3
    apply Stage2.step (Is _) true [] true false (Is.keeps _) (fun _ => Is.keeps _) (by kernel_rfl)
    · intro w1 h1
      have h1 : Ext _ w1 := h1
      simp only [List.nil_append, List.cons_append, List.map_cons, List.map_nil, Given]
      go_wp2_with fail
      exact Post.isv (Ext.refl _) rfl rfl rfl
    -- 6: Op.load 22 t35
    apply Stage2.step (Is _) true [false, false, false, false, false, true] true false (Is.keeps _) (fun _ => Is.keeps _) (by kernel_rfl)
    · intro w1 h1
      have h1 : Ext _ w1 := h1
      simp only [List.nil_append, List.cons_append, List.map_cons, List.map_nil, Sp.pr, Given]
      rintro _ rfl
      have hq := h1.cell v3
      go_wp2_with fail
      exact Post.isv (Ext.refl _) rfl rfl rfl
    -- 7: Op.call { builtin copy, args := #[t34, t36], argTypes := #[22, 22] }
    apply Stage2.step (ByT1 wb.heap.size A' n c' (over st.d so l)) false [false, false, false, false, true, false, true] true true (ByT1.keeps _ _ _ _ _) (no_keeps) (by kernel_rfl)
    · intro w1 h1
      have h1 : Ext _ w1 := h1
      simp only [List.nil_append, List.cons_append, List.map_cons, List.map_nil, Sp.pr, Given]
      rintro _ rfl
      rintro _ rfl
      have h16a := gwq.trans h1
      go_wp2_with (
        with_reducible refine wpList_copy_byt (w0 := wb) rfl (.tmp 34) (.tmp 36) 22 22 rfl U8 under_bytes hsz8 A' n c' st.d so A8 dl (c' - so) rfl (hbq.ext h1) hdl3 (fun _ => HA9.out) Ae ne ce l rfl (hsl1.ext h1) h16a ?_
        intro w7 hb7 h17 hs7 hk7)
      rw [HL2.out] at hb7
      exact ⟨rfl, rfl, (show But wq.heap.size (fun k => rowOf A' c' = some k) w1 w7 from by
        have hq := but_of_ext (S := fun k => rowOf A' c' = some k) h16a h17 hs7 hk7
        have hq2 := h1.size
        exact ⟨hq.os, hq.tape, hq.output, hq.size, fun k hk hs hl => hq.block k hl hs hl⟩), hb7⟩
    apply Stage2.nil [true, true, true, true, true, true, true, true] (by kernel_rfl)
    intro w1 h1
    have h1 : (But wq.heap.size (fun k => rowOf A' c' = some k)) _ w1 := h1
    simp only [List.nil_append, List.cons_append, List.map_cons, List.map_nil, Sp.pr]
    refine Fin2.is_ ?_
    refine Fin2.is_ ?_
    refine Fin2.is_ ?_
    refine Fin2.is_ ?_
    refine Fin2.is_ ?_
    refine Fin2.is_ ?_
    refine Fin2.is_ ?_
    refine Fin2.step_ ?_
    rintro _ hb7
    refine Fin2.nil_ ?_
    go_simp
    have hlow : ∀ b, b < w.heap.size + 3 → ¬ rowOf A' c' = some b := fun b hb e => by have := (hrge b e).1; omega
    replace s0 := h1.cell s0 (by simp only; omega) (hlow _ (by simp only; omega))
    replace s1 := h1.cell s1 (by simp only; omega) (hlow _ (by simp only; omega))
    replace v0 := h1.cell v0 (by simp only; omega) (hlow _ (by simp only; omega))
    replace v1 := h1.cell v1 (by simp only; omega) (hlow _ (by simp only; omega))
    replace v2 := h1.cell v2 (by simp only; omega) (hlow _ (by simp only; omega))
    replace v3 := h1.cell v3 (by simp only; omega) (hlow _ (by simp only; omega))
    replace v4 := h1.cell v4 (by simp only; omega) (hlow _ (by simp only; omega))
    replace z0 := h1.cell z0 (by simp only; omega) (hlow _ (by simp only; omega))
    replace z1 := h1.cell z1 (by simp only; omega) (hlow _ (by simp only; omega))
    replace zf : ∀ q, w1.frozen? ⟨w.heap.size + 2, q, none⟩ = false := fun q => frozen_but h1 (by simp only; omega) (by simp only; omega) (hlow _ (by simp only; omega)) (zf q)
    have hgol := hO.lt
    replace y0 := h1.cell y0 hgol hrd
    replace y1 := h1.cell y1 hgol hrd
    have ho7 : OwnL TOl 2 (inR olR (· < wb.heap.size)) w1 wb.heap.size A3 n2 c3 st.sn := hO.olds.keepBut (in_rep ol_rep _) h1 (Nat.le_refl _) (fun g hg e => hrows g e hg) (fun x cs hr k hk e => by have := hr.2 k hk; have := (hrge k e).1; omega)
    have hfin : StR w1 A' n c' A3 n2 c3 ⟨over st.d so l, st.sn⟩ := ⟨hb7.sl, ho7.lst.weak fun x cs q => q.1⟩
    replace g0 := g0.but h1 g0.size (fun g e => by have := (hrge g e).1; omega)
    have hzlt : w.heap.size + 2 < w1.heap.size := World.block_lt_of_cell? _ _ z0
    have f0 := zf 0
    have f1 := zf 1
    go_wp2_with fail
    refine bodyPost_ret (v := .tuple #[stV A' n c' A3 n2 c3, .int .i64 0]) ?hres rfl ⟨_, _, _, _, _, _, rfl, ?hst, ?hxx⟩
    case hres => simp [results, Try.results55, go_sem, z0, z1]
    case hst => exact ((StR.f0 hfin).box (g := w.heap.size + 2) ⟨hzlt, ⟨_, _, _, _, _, _, z0, z1⟩, zf⟩ _ _).st
    case hxx => exact (g0.sets (by simp only; omega) _).sets (by simp only; omega) _
  · have hck := hr.out
    have hpl : plainE 2 o m ne s = true := by unfold plainE; rw [hre]; simp
    rw [check_span hre (by omega)] at hck
    unfold spanO spanN at hck
    rw [if_pos hpl, if_pos hpl, if_neg (show ¬ (2 : Int) = 1 by omega)] at hck
    obtain ⟨ho0, hm0, hm1, hom⟩ : 0 ≤ o ∧ 1 ≤ m ∧ m ≤ 512 ∧ o ≤ 512 - m := by
      rcases right_cases hre with ⟨h, _⟩ | ⟨_, _, ⟨h1, h2, h3, h4⟩, _⟩ | ⟨h, _⟩ | ⟨h, _⟩ | ⟨h, _⟩
      · omega
      · exact ⟨h1, h2, h3, h4⟩
      · omega
      · omega
      · omega
    obtain ⟨so, rfl⟩ := Int.eq_ofNat_of_zero_le ho0
    obtain ⟨mm, rfl⟩ := Int.eq_ofNat_of_zero_le (by omega : 0 ≤ m)
    have hfit : so + mm ≤ n := by
      rw [hdl] at hck
      split at hck
      · cases hck
      · omega
    have hm1' : 1 ≤ mm := by omega
    have hm512 : mm ≤ 512 := by omega
    obtain rfl : (⟨over st.d so (List.replicate mm 0), st.sn⟩ : St) = S := by rw [← hS2]; simp [applyS]
    have hso := hfit
    clear hS2 hre hck hpl ho0 hm0 hm1 hom
    go_enter Try.func55, Try.ntmps55
    go_wp2_with fail
    refine (ref_Check (hst.ext g0) (hsl.ext g0) hs hr).mono ?_
    rintro e wb ⟨rfl, h1⟩
    replace zf : ∀ q, wb.frozen? ⟨w.heap.size + 2, q, none⟩ = false := fun q => frozen_ext h1 (by rw [hWs]; simp) (zf q)
    have hw1 : w.heap.size + 3 ≤ wb.heap.size := by have := h1.size; omega
    replace s0 := h1.cell s0
    replace s1 := h1.cell s1
    replace v0 := h1.cell v0
    replace v1 := h1.cell v1
    replace v2 := h1.cell v2
    replace v3 := h1.cell v3
    replace v4 := h1.cell v4
    replace z0 := h1.cell z0
    replace z1 := h1.cell z1
    replace g0 := g0.trans h1
    clear hW h1
    have hlo : Lst 2 (inR olR (· < wb.heap.size)) wb A2 n2 c2 st.sn := (hst.v.snaps.weak fun x cs q => ⟨q.1, fun k hk => Nat.lt_of_lt_of_le (q.2 k hk) g0.size⟩).ext (in_rep ol_rep _) g0
    have hsd := hst.1.ext g0
    go_wp2_with fail
    refine wp_region_typed3 (R := Buy wb.heap.size (fun _ => False)) Ext.steady (Buy.steady _ _) (fun _ _ => Buy.of_ext) rfl 110 rfl [0, 0, 2, 7, 0, 0, 32, 127, 255, 0, 1023] 1024 9 (by kernel_rfl) ?_
    -- 0: Op.buildSlice 22 0 #[]
    apply Stage3.step (NilT) false [] true false (NilT.keeps) (no_keeps) (by kernel_rfl)
    · intro γ w1 h1
      have h1 : Ext _ w1 := h1
      simp only [List.nil_append, List.cons_append, List.map_cons, List.map_nil, Given]
      go_wp2_with fail
      exact ⟨rfl, rfl, Ext.alloc _ _, _, rfl⟩
    -- 1: Op.fieldAddr 35 t2 0
    apply Stage3.step (Is _) true [] true false (Is.keeps _) (fun _ => Is.keeps _) (by kernel_rfl)
    · intro γ w1 h1
      have h1 : Ext _ w1 := h1
      simp only [List.nil_append, List.cons_append, List.map_cons, List.map_nil, Given]
      go_wp2_with fail
      exact Post.isv (Ext.refl _) rfl rfl rfl
    -- 2: Op.load 22 t18
    apply Stage3.step (Is _) true [false, true] true false (Is.keeps _) (fun _ => Is.keeps _) (by kernel_rfl)
    · intro γ w1 h1
      have h1 : Ext _ w1 := h1
      simp only [List.nil_append, List.cons_append, List.map_cons, List.map_nil, Sp3.at, Sp.pr, Given]
      rintro _ rfl
      have hq := h1.cell s0
      go_wp2_with fail
      exact Post.isv (Ext.refl _) rfl rfl rfl
    -- 3: Op.call { builtin append, args := #[t17, t19], argTypes := #[22, 22] }
    apply Stage3.step (ByoT wb.heap.size n st.d) false [true, false, true] true false (ByoT.keeps _ _ _) (no_keeps) (by kernel_rfl)
    · intro γ w1 h1
      have h1 : Ext _ w1 := h1
      simp only [List.nil_append, List.cons_append, List.map_cons, List.map_nil, Sp3.at, Sp.pr, Given]
      rintro _ ⟨A9, rfl⟩
      rintro _ rfl
      have hsr := hsd.ext h1
      go_wp2_with (
        at_builtin
        refine wpList_append_mine _ rfl _ _ _ _ rfl wb.heap.size U8 i8 _ 1 1 under_bytes hi8 hy0 hy1 hy2 rfl A9 0 0 _ rfl (Own.nil _ _ _ _ _) _ rfl n (st.d.map bv) (hsr.src under_bytes) (by simp only [maxLen]; omega) (by omega) h1.size ?_
        intro A6 c6 w6 hown6 hg6 _)
      exact ⟨rfl, rfl, grown_nil hg6, _, _, rfl, hdl, by simpa using hown6⟩
    -- 4: Op.buildSlice 33 0 #[]
    apply Stage3.step (NilT) false [] true false (NilT.keeps) (no_keeps) (by kernel_rfl)
    · intro γ w1 h1
      have h1 : Ext _ w1 := h1
      simp only [List.nil_append, List.cons_append, List.map_cons, List.map_nil, Given]
      go_wp2_with fail
      exact ⟨rfl, rfl, Ext.alloc _ _, _, rfl⟩
    -- 5: Op.fieldAddr 35 t2 1
    apply Stage3.step (Is _) true [] true false (Is.keeps _) (fun _ => Is.keeps _) (by kernel_rfl)
    · intro γ w1 h1
      have h1 : Ext _ w1 := h1
      simp only [List.nil_append, List.cons_append, List.map_cons, List.map_nil, Given]
      go_wp2_with fail
      exact Post.isv (Ext.refl _) rfl rfl rfl
    -- 6: Op.load 33 t22
    apply Stage3.step (Is _) true [false, false, false, false, false, true] true false (Is.keeps _) (fun _ => Is.keeps _) (by kernel_rfl)
    · intro γ w1 h1
      have h1 : Ext _ w1 := h1
      simp only [List.nil_append, List.cons_append, List.map_cons, List.map_nil, Sp3.at, Sp.pr, Given]
      rintro _ rfl
      have hq := h1.cell s1
      go_wp2_with fail
      exact Post.isv (Ext.refl _) rfl rfl rfl
    -- 7: Op.call { builtin append, args := #[t21, t23], argTypes := #[33, 33] }
    apply Stage3.step (OwnT wb.heap.size n2 (· < wb.heap.size) st.sn) false [false, false, false, false, true, false, true] true false (OwnT.keeps _ _ _ _) (no_keeps) (by kernel_rfl)
    · intro γ w1 h1
      have h1 : Ext _ w1 := h1
      simp only [List.nil_append, List.cons_append, List.map_cons, List.map_nil, Sp3.at, Sp.pr, Given]
      rintro _ ⟨A10, rfl⟩
      rintro _ rfl
      go_wp2_with (
        at_builtin
        refine wpList_append_lst4 (B := wb.heap.size) (in_rep ol_rep (· < wb.heap.size)) rfl _ _ _ _ rfl TOl j0 _ 40 under_ols hj0 hx0 hx1 hx2 rfl A10 0 0 [] rfl (OwnL.nil _ _ _ _) _ n2 st.sn rfl (Feed.old (e := TOl) (n := 0) (xs := []) (in_rep ol_rep _) (OwnL.nil _ _ _ _) hlo h1 under_ols) n2 (Nat.zero_add _) st.sn rfl (by simp only [maxLen]; omega) (by omega) h1.size ?_
        intro A7 c7 w7 ho7 hg7 hr7)
      exact ⟨rfl, rfl, grown_nil hg7, _, _, rfl, ho7⟩
    -- 8: Op.build 35 #[(0, t20), (1, t24)]
    apply Stage3.step (AgT wb.heap.size n n2 (· < wb.heap.size) st.d st.sn) false [false, false, false, true, false, false, false, true] true false (AgT.keeps _ _ _ _ _ _) (no_keeps) (by kernel_rfl)
    · intro γ w1 h1
      have h1 : Ext _ w1 := h1
      simp only [List.nil_append, List.cons_append, List.map_cons, List.map_nil, Sp3.at, Sp.pr, Given]
      rintro _ ⟨A6, c6, rfl, h6⟩
      rintro _ ⟨A7, c7, rfl, h7⟩
      go_wp2_with fail
      exact ⟨rfl, rfl, Ext.refl _, _, _, _, _, rfl, h6, h7⟩
    -- 9: Op.alloc 35
    apply Stage3.stepA (BoxQ wb.heap.size) true [] true false (BoxQ.keeps _) (fun _ => BoxQ.keeps2 _) (by kernel_rfl)
    · intro γ w1 h1
      have h1 : Ext _ w1 := h1
      simp only [List.nil_append, List.cons_append, List.map_cons, List.map_nil, Given]
      go_wp2_with fail
      exact ⟨rfl, rfl, Ext.alloc _ _, BoxQ.made h1.size⟩
    -- 10: Op.store 35 t7 t25
    apply Stage3.stepD (fun γ => OutT wb.heap.size n n2 (· < wb.heap.size) st.d st.sn γ) false [false, false, false, false, false, false, false, false, true, true] true true (fun γ => OutT.keeps _ _ _ _ _ _ _) (fun h => by cases h) (by kernel_rfl)
    · intro γ w1 h1
      have h1 : Ext _ w1 := h1
      simp only [List.nil_append, List.cons_append, List.map_cons, List.map_nil, Sp3.at, Sp.pr, Given]
      rintro _ ⟨A8, c8, A11, c11, rfl, hd8, ho8⟩
      rintro _ ⟨rfl, go, rfl, hgo, hbx, hty⟩
      have hbx2 := hbx
      obtain ⟨hx1', ⟨e1, e2, e3, e4, e5, e6, x0, x1⟩, xf⟩ := hbx
      have f0 := xf 0
      have f1 := xf 1
      go_wp2_with fail
      refine ⟨rfl, rfl, buy_set2 (.inr hgo) hbx2 _ _ _ _ _ _, fun g e => ?_⟩
      obtain rfl : go = g := by injection e with e; injection e with e; injection e with e
      exact ⟨_, _, _, _, out_set hbx2 hty hd8 ho8 hgo (fun k hk => by omega)⟩
    apply Stage3.nil [false, true, true, false, false, true, true, false, false, true, true] (by kernel_rfl)
    intro γ w1 h1
    have h1 : (Buy wb.heap.size (fun _ => False)) _ w1 := h1
    simp only [List.nil_append, List.cons_append, List.map_cons, List.map_nil, Sp3.at, Sp.pr]
    refine Fin2.dead_ ?_
    intro dead0
    refine Fin2.is_ ?_
    refine Fin2.is_ ?_
    refine Fin2.dead_ ?_
    intro dead3
    refine Fin2.dead_ ?_
    intro dead4
    refine Fin2.is_ ?_
    refine Fin2.is_ ?_
    refine Fin2.dead_ ?_
    intro dead7
    refine Fin2.dead_ ?_
    intro dead8
    refine Fin2.step_ ?_
    rintro _ ⟨rfl, go, rfl, hgo, hbx, hty⟩
    refine Fin2.step_ ?_
    rintro _ hout
    refine Fin2.nil_ ?_
    go_simp
    obtain ⟨A', c', A3, c3, hO⟩ := hout go rfl
    have gq : Ext wb w1 := (Ext.refl wb).but h1.bux.but (Nat.le_refl _) (fun _ h => h.elim)
    replace zf : ∀ q, w1.frozen? ⟨w.heap.size + 2, q, none⟩ = false := fun q => frozen_ext gq (by simp only; omega) (zf q)
    have hsl1 := hsl.ext (g0.trans gq)
    replace s0 := gq.cell s0
    replace s1 := gq.cell s1
    replace v0 := gq.cell v0
    replace v1 := gq.cell v1
    replace v2 := gq.cell v2
    replace v3 := gq.cell v3
    replace v4 := gq.cell v4
    replace z0 := gq.cell z0
    replace z1 := gq.cell z1
    replace g0 := g0.trans gq
    clear h1 hout hbx hty
    obtain ⟨wq, rfl⟩ : ∃ q, q = w1 := ⟨_, rfl⟩
    have y0 := hO.y0
    have y1 := hO.y1
    have yf0 := hO.yf 0
    have yf1 := hO.yf 1
    have hgs := gq.size
    have gbq := gq
    clear gq
    have hbq := hO.dat
    have hrd := hO.row_d
    have hrows := hO.rows
    have hrge := hO.dat.own.row_ge
    have holds := hO.olds
    have hgol := hO.lt
    obtain ⟨g, rfl, hg1, hg2, hgc⟩ := hbq.open_ (by omega)
    have hcap := hbq.sl.cap
    have hrow : rowOf (some ⟨g, 0, none⟩) c' = some g := by unfold rowOf; rw [if_neg (by omega)]; rfl
    have hb0 : Byt U8 wq wb.heap.size (some ⟨g, 0, none⟩) n c' (over st.d so (List.replicate 0 0)) := by
      have e : over st.d so (List.replicate 0 0) = st.d := by simp [over]
      rw [e]; exact hbq
    have hgne : g ≠ go := fun e => hrd (by rw [hrow, e])
    clear hbq hgc
    go_wp2_with fail
    go_loopw [8] (fun i wr => ∃ j : Nat, j ≤ mm ∧ i = .int .i64 j ∧ Byt U8 wr wb.heap.size (some ⟨g, 0, none⟩) n c' (over st.d so (List.replicate j 0)) ∧ But wq.heap.size (fun k => k = g) wq wr) (fun i _ => mm - (intOf i).toNat)
    case atStart => exact ⟨0, by omega, rfl, hb0, But.refl _ _ _⟩
    case round =>
      obtain ⟨j, hj, rfl, hbj, hbt⟩ := hrel
      clear hb0
      have q0 := hbt.cell y0 hgol (fun e => hgne e.symm)
      have q1 := hbt.cell y1 hgol (fun e => hgne e.symm)
      have qv1 := hbt.cell v1 (by simp only; omega) (by simp only; omega)
      have qv2 := hbt.cell v2 (by simp only; omega) (by simp only; omega)
      by_cases hlt : j < mm
      · obtain ⟨g', e, _, _, hc⟩ := hbj.open_ (by omega)
        cases e
        obtain ⟨c1, c2⟩ := hc (so + j) (by omega)
        have hset := hbj.set_ (k := so + j) (by omega) 0
        rw [over_next (by omega)] at hset
        have hbt2 := hbt.setCell (p := ⟨g, so + j, none⟩) (.inl rfl) (bv 0)
        clear hc
        go_wp2_with fail
        go_roundw
        case rel => exact ⟨j + 1, by omega, by go_num, hset, hbt2⟩
        case measure => simp [intOf]; omega
      · obtain rfl : j = mm := by omega
        obtain ⟨w1, rfl⟩ : ∃ q, q = wr := ⟨_, rfl⟩
        replace s0 := hbt.cell s0 (by simp only; omega) (by simp only; omega)
        replace s1 := hbt.cell s1 (by simp only; omega) (by simp only; omega)
        replace v0 := hbt.cell v0 (by simp only; omega) (by simp only; omega)
        replace v1 := hbt.cell v1 (by simp only; omega) (by simp only; omega)
        replace v2 := hbt.cell v2 (by simp only; omega) (by simp only; omega)
        replace v3 := hbt.cell v3 (by simp only; omega) (by simp only; omega)
        replace v4 := hbt.cell v4 (by simp only; omega) (by simp only; omega)
        replace z0 := hbt.cell z0 (by simp only; omega) (by simp only; omega)
        replace z1 := hbt.cell z1 (by simp only; omega) (by simp only; omega)
        replace zf : ∀ q, w1.frozen? ⟨w.heap.size + 2, q, none⟩ = false := fun q => frozen_but hbt (by simp only; omega) (by simp only; omega) (by simp only; omega) (zf q)
        have ho7 : OwnL TOl 2 (inR olR (· < wb.heap.size)) w1 wb.heap.size A3 n2 c3 st.sn := holds.keepBut (in_rep ol_rep _) hbt (Nat.le_refl _) (fun k hk e => hrows g hrow (by rw [hk, e])) (fun x cs hr k hk e => by have := hr.2 k hk; omega)
        have hfin : StR w1 (some ⟨g, 0, none⟩) n c' A3 n2 c3 ⟨over st.d so (List.replicate j 0), st.sn⟩ := ⟨hbj.sl, ho7.lst.weak fun x cs q => q.1⟩
        replace g0 := g0.but hbt g0.size (fun k e => by omega)
        have hzlt : w.heap.size + 2 < w1.heap.size := World.block_lt_of_cell? _ _ z0
        have f0 := zf 0
        have f1 := zf 1
        go_wp2_with fail
        refine bodyPost_ret (v := .tuple #[stV (some ⟨g, 0, none⟩) n c' A3 n2 c3, .int .i64 0]) ?hres rfl ⟨_, _, _, _, _, _, rfl, ?hst, ?hxx⟩
        case hres => simp [results, Try.results55, go_sem, z0, z1]
        case hst => exact ((StR.f0 hfin).box (g := w.heap.size + 2) ⟨hzlt, ⟨_, _, _, _, _, _, z0, z1⟩, zf⟩ _ _).st
        case hxx => exact (g0.sets (by simp only; omega) _).sets (by simp only; omega) _
  · have hck := hr.out
    have hpl : plainE 3 o m ne s = true := by unfold plainE; rw [hre]; simp
    rw [check_span hre (by omega)] at hck
    unfold spanO spanN at hck
    rw [if_pos hpl, if_pos hpl, if_neg (show ¬ (3 : Int) = 1 by omega)] at hck
    obtain ⟨ho0, hm0, hm1, hom⟩ : 0 ≤ o ∧ 1 ≤ m ∧ m ≤ 512 ∧ o ≤ 512 - m := by
      rcases right_cases hre with ⟨h, _⟩ | ⟨_, _, ⟨h1, h2, h3, h4⟩, _⟩ | ⟨h, _⟩ | ⟨h, _⟩ | ⟨h, _⟩
      · omega
      · exact ⟨h1, h2, h3, h4⟩
      · omega
      · omega
      · omega
    obtain ⟨so, rfl⟩ := Int.eq_ofNat_of_zero_le ho0
    obtain ⟨mm, rfl⟩ := Int.eq_ofNat_of_zero_le (by omega : 0 ≤ m)
    have hfit : so + mm ≤ n := by
      rw [hdl] at hck
      split at hck
      · cases hck
      · omega
    have hm1' : 1 ≤ mm := by omega
    have hm512 : mm ≤ 512 := by omega
    obtain rfl : (⟨over st.d so (List.replicate mm 0), st.sn⟩ : St) = S := by rw [← hS2]; simp [applyS]
    have hso := hfit
    clear hS2 hre hck hpl ho0 hm0 hm1 hom
    go_enter Try.func55, Try.ntmps55
    go_wp2_with fail
    refine (ref_Check (hst.ext g0) (hsl.ext g0) hs hr).mono ?_
    rintro e wb ⟨rfl, h1⟩
    replace zf : ∀ q, wb.frozen? ⟨w.heap.size + 2, q, none⟩ = false := fun q => frozen_ext h1 (by rw [hWs]; simp) (zf q)
    have hw1 : w.heap.size + 3 ≤ wb.heap.size := by have := h1.size; omega
    replace s0 := h1.cell s0
    replace s1 := h1.cell s1
    replace v0 := h1.cell v0
    replace v1 := h1.cell v1
    replace v2 := h1.cell v2
    replace v3 := h1.cell v3
    replace v4 := h1.cell v4
    replace z0 := h1.cell z0
    replace z1 := h1.cell z1
    replace g0 := g0.trans h1
    clear hW h1
    have hlo : Lst 2 (inR olR (· < wb.heap.size)) wb A2 n2 c2 st.sn := (hst.v.snaps.weak fun x cs q => ⟨q.1, fun k hk => Nat.lt_of_lt_of_le (q.2 k hk) g0.size⟩).ext (in_rep ol_rep _) g0
    have hsd := hst.1.ext g0
    go_wp2_with fail
    refine wp_region_typed3 (R := Buy wb.heap.size (fun _ => False)) Ext.steady (Buy.steady _ _) (fun _ _ => Buy.of_ext) rfl 110 rfl [0, 0, 2, 7, 0, 0, 32, 127, 255, 0, 1023] 1024 9 (by kernel_rfl) ?_
    -- 0: Op.buildSlice 22 0 #[]
    apply Stage3.step (NilT) false [] true false (NilT.keeps) (no_keeps) (by kernel_rfl)
    · intro γ w1 h1
      have h1 : Ext _ w1 := h1
      simp only [List.nil_append, List.cons_append, List.map_cons, List.map_nil, Given]
      go_wp2_with fail
      exact ⟨rfl, rfl, Ext.alloc _ _, _, rfl⟩
    -- 1: Op.fieldAddr 35 t2 0
    apply Stage3.step (Is _) true [] true false (Is.keeps _) (fun _ => Is.keeps _) (by kernel_rfl)
    · intro γ w1 h1
      have h1 : Ext _ w1 := h1
      simp only [List.nil_append, List.cons_append, List.map_cons, List.map_nil, Given]
      go_wp2_with fail
      exact Post.isv (Ext.refl _) rfl rfl rfl
    -- 2: Op.load 22 t18
    apply Stage3.step (Is _) true [false, true] true false (Is.keeps _) (fun _ => Is.keeps _) (by kernel_rfl)
    · intro γ w1 h1
      have h1 : Ext _ w1 := h1
      simp only [List.nil_append, List.cons_append, List.map_cons, List.map_nil, Sp3.at, Sp.pr, Given]
      rintro _ rfl
      have hq := h1.cell s0
      go_wp2_with fail
      exact Post.isv (Ext.refl _) rfl rfl rfl
    -- 3: Op.call { builtin append, args := #[t17, t19], argTypes := #[22, 22] }
    apply Stage3.step (ByoT wb.heap.size n st.d) false [true, false, true] true false (ByoT.keeps _ _ _) (no_keeps) (by kernel_rfl)
    · intro γ w1 h1
      have h1 : Ext _ w1 := h1
      simp only [List.nil_append, List.cons_append, List.map_cons, List.map_nil, Sp3.at, Sp.pr, Given]
      rintro _ ⟨A9, rfl⟩
      rintro _ rfl
      have hsr := hsd.ext h1
      go_wp2_with (
        at_builtin
        refine wpList_append_mine _ rfl _ _ _ _ rfl wb.heap.size U8 i8 _ 1 1 under_bytes hi8 hy0 hy1 hy2 rfl A9 0 0 _ rfl (Own.nil _ _ _ _ _) _ rfl n (st.d.map bv) (hsr.src under_bytes) (by simp only [maxLen]; omega) (by omega) h1.size ?_
        intro A6 c6 w6 hown6 hg6 _)
      exact ⟨rfl, rfl, grown_nil hg6, _, _, rfl, hdl, by simpa using hown6⟩
    -- 4: Op.buildSlice 33 0 #[]
    apply Stage3.step (NilT) false [] true false (NilT.keeps) (no_keeps) (by kernel_rfl)
    · intro γ w1 h1
      have h1 : Ext _ w1 := h1
      simp only [List.nil_append, List.cons_append, List.map_cons, List.map_nil, Given]
      go_wp2_with fail
      exact ⟨rfl, rfl, Ext.alloc _ _, _, rfl⟩
    -- 5: Op.fieldAddr 35 t2 1
    apply Stage3.step (Is _) true [] true false (Is.keeps _) (fun _ => Is.keeps _) (by kernel_rfl)
    · intro γ w1 h1
      have h1 : Ext _ w1 := h1
      simp only [List.nil_append, List.cons_append, List.map_cons, List.map_nil, Given]
      go_wp2_with fail
      exact Post.isv (Ext.refl _) rfl rfl rfl
    -- 6: Op.load 33 t22
    apply Stage3.step (Is _) true [false, false, false, false, false, true] true false (Is.keeps _) (fun _ => Is.keeps _) (by kernel_rfl)
    · intro γ w1 h1
      have h1 : Ext _ w1 := h1
      simp only [List.nil_append, List.cons_append, List.map_cons, List.map_nil, Sp3.at, Sp.pr, Given]
      rintro _ rfl
      have hq := h1.cell s1
      go_wp2_with fail
      exact Post.isv (Ext.refl _) rfl rfl rfl
    -- 7: Op.call { builtin append, args := #[t21, t23], argTypes := #[33, 33] }
    apply Stage3.step (OwnT wb.heap.size n2 (· < wb.heap.size) st.sn) false [false, false, false, false, true, false, true] true false (OwnT.keeps _ _ _ _) (no_keeps) (by kernel_rfl)
    · intro γ w1 h1
      have h1 : Ext _ w1 := h1
      simp only [List.nil_append, List.cons_append, List.map_cons, List.map_nil, Sp3.at, Sp.pr, Given]
      rintro _ ⟨A10, rfl⟩
      rintro _ rfl
      go_wp2_with (
        at_builtin
        refine wpList_append_lst4 (B := wb.heap.size) (in_rep ol_rep (· < wb.heap.size)) rfl _ _ _ _ rfl TOl j0 _ 40 under_ols hj0 hx0 hx1 hx2 rfl A10 0 0 [] rfl (OwnL.nil _ _ _ _) _ n2 st.sn rfl (Feed.old (e := TOl) (n := 0) (xs := []) (in_rep ol_rep _) (OwnL.nil _ _ _ _) hlo h1 under_ols) n2 (Nat.zero_add _) st.sn rfl (by simp only [maxLen]; omega) (by omega) h1.size ?_
        intro A7 c7 w7 ho7 hg7 hr7)
      exact ⟨rfl, rfl, grown_nil hg7, _, _, rfl, ho7⟩
    -- 8: Op.build 35 #[(0, t20), (1, t24)]
    apply Stage3.step (AgT wb.heap.size n n2 (· < wb.heap.size) st.d st.sn) false [false, false, false, true, false, false, false, true] true false (AgT.keeps _ _ _ _ _ _) (no_keeps) (by kernel_rfl)
    · intro γ w1 h1
      have h1 : Ext _ w1 := h1
      simp only [List.nil_append, List.cons_append, List.map_cons, List.map_nil, Sp3.at, Sp.pr, Given]
      rintro _ ⟨A6, c6, rfl, h6⟩
      rintro _ ⟨A7, c7, rfl, h7⟩
      go_wp2_with fail
      exact ⟨rfl, rfl, Ext.refl _, _, _, _, _, rfl, h6, h7⟩
    -- 9: Op.alloc 35
    apply Stage3.stepA (BoxQ wb.heap.size) true [] true false (BoxQ.keeps _) (fun _ => BoxQ.keeps2 _) (by kernel_rfl)
    · intro γ w1 h1
      have h1 : Ext _ w1 := h1
      simp only [List.nil_append, List.cons_append, List.map_cons, List.map_nil, Given]
      go_wp2_with fail
      exact ⟨rfl, rfl, Ext.alloc _ _, BoxQ.made h1.size⟩
    -- 10: Op.store 35 t7 t25
    apply Stage3.stepD (fun γ => OutT wb.heap.size n n2 (· < wb.heap.size) st.d st.sn γ) false [false, false, false, false, false, false, false, false, true, true] true true (fun γ => OutT.keeps _ _ _ _ _ _ _) (fun h => by cases h) (by kernel_rfl)
    · intro γ w1 h1
      have h1 : Ext _ w1 := h1
      simp only [List.nil_append, List.cons_append, List.map_cons, List.map_nil, Sp3.at, Sp.pr, Given]
      rintro _ ⟨A8, c8, A11, c11, rfl, hd8, ho8⟩
      rintro _ ⟨rfl, go, rfl, hgo, hbx, hty⟩
      have hbx2 := hbx
      obtain ⟨hx1', ⟨e1, e2, e3, e4, e5, e6, x0, x1⟩, xf⟩ := hbx
      have f0 := xf 0
      have f1 := xf 1
      go_wp2_with fail
      refine ⟨rfl, rfl, buy_set2 (.inr hgo) hbx2 _ _ _ _ _ _, fun g e => ?_⟩
      obtain rfl : go = g := by injection e with e; injection e with e; injection e with e
      exact ⟨_, _, _, _, out_set hbx2 hty hd8 ho8 hgo (fun k hk => by omega)⟩
    apply Stage3.nil [false, true, true, false, false, true, true, false, false, true, true] (by kernel_rfl)
    intro γ w1 h1
    have h1 : (Buy wb.heap.size (fun _ => False)) _ w1 := h1
    simp only [List.nil_append, List.cons_append, List.map_cons, List.map_nil, Sp3.at, Sp.pr]
    refine Fin2.dead_ ?_
    intro dead0
    refine Fin2.is_ ?_
    refine Fin2.is_ ?_
    refine Fin2.dead_ ?_
    intro dead3
    refine Fin2.dead_ ?_
    intro dead4
    refine Fin2.is_ ?_
    refine Fin2.is_ ?_
    refine Fin2.dead_ ?_
    intro dead7
    refine Fin2.dead_ ?_
    intro dead8
    refine Fin2.step_ ?_
    rintro _ ⟨rfl, go, rfl, hgo, hbx, hty⟩
    refine Fin2.step_ ?_
    rintro _ hout
    refine Fin2.nil_ ?_
    go_simp
    obtain ⟨A', c', A3, c3, hO⟩ := hout go rfl
    have gq : Ext wb w1 := (Ext.refl wb).but h1.bux.but (Nat.le_refl _) (fun _ h => h.elim)
    replace zf : ∀ q, w1.frozen? ⟨w.heap.size + 2, q, none⟩ = false := fun q => frozen_ext gq (by simp only; omega) (zf q)
    have hsl1 := hsl.ext (g0.trans gq)
    replace s0 := gq.cell s0
    replace s1 := gq.cell s1
    replace v0 := gq.cell v0
    replace v1 := gq.cell v1
    replace v2 := gq.cell v2
    replace v3 := gq.cell v3
    replace v4 := gq.cell v4
    replace z0 := gq.cell z0
    replace z1 := gq.cell z1
    replace g0 := g0.trans gq
    clear h1 hout hbx hty
    obtain ⟨wq, rfl⟩ : ∃ q, q = w1 := ⟨_, rfl⟩
    have y0 := hO.y0
    have y1 := hO.y1
    have yf0 := hO.yf 0
    have yf1 := hO.yf 1
    have hgs := gq.size
    have gbq := gq
    clear gq
    have hbq := hO.dat
    have hrd := hO.row_d
    have hrows := hO.rows
    have hrge := hO.dat.own.row_ge
    have holds := hO.olds
    have hgol := hO.lt
    obtain ⟨g, rfl, hg1, hg2, hgc⟩ := hbq.open_ (by omega)
    have hcap := hbq.sl.cap
    have hrow : rowOf (some ⟨g, 0, none⟩) c' = some g := by unfold rowOf; rw [if_neg (by omega)]; rfl
    have hb0 : Byt U8 wq wb.heap.size (some ⟨g, 0, none⟩) n c' (over st.d so (List.replicate 0 0)) := by
      have e : over st.d so (List.replicate 0 0) = st.d := by simp [over]
      rw [e]; exact hbq
    have hgne : g ≠ go := fun e => hrd (by rw [hrow, e])
    clear hbq hgc
    go_wp2_with fail
    go_loopw [8] (fun i wr => ∃ j : Nat, j ≤ mm ∧ i = .int .i64 j ∧ Byt U8 wr wb.heap.size (some ⟨g, 0, none⟩) n c' (over st.d so (List.replicate j 0)) ∧ But wq.heap.size (fun k => k = g) wq wr) (fun i _ => mm - (intOf i).toNat)
    case atStart => exact ⟨0, by omega, rfl, hb0, But.refl _ _ _⟩
    case round =>
      obtain ⟨j, hj, rfl, hbj, hbt⟩ := hrel
      clear hb0
      have q0 := hbt.cell y0 hgol (fun e => hgne e.symm)
      have q1 := hbt.cell y1 hgol (fun e => hgne e.symm)
      have qv1 := hbt.cell v1 (by simp only; omega) (by simp only; omega)
      have qv2 := hbt.cell v2 (by simp only; omega) (by simp only; omega)
      by_cases hlt : j < mm
      · obtain ⟨g', e, _, _, hc⟩ := hbj.open_ (by omega)
        cases e
        obtain ⟨c1, c2⟩ := hc (so + j) (by omega)
        have hset := hbj.set_ (k := so + j) (by omega) 0
        rw [over_next (by omega)] at hset
        have hbt2 := hbt.setCell (p := ⟨g, so + j, none⟩) (.inl rfl) (bv 0)
        clear hc
        go_wp2_with fail
        go_roundw
        case rel => exact ⟨j + 1, by omega, by go_num, hset, hbt2⟩
        case measure => simp [intOf]; omega
      · obtain rfl : j = mm := by omega
        obtain ⟨w1, rfl⟩ : ∃ q, q = wr := ⟨_, rfl⟩
        replace s0 := hbt.cell s0 (by simp only; omega) (by simp only; omega)
        replace s1 := hbt.cell s1 (by simp only; omega) (by simp only; omega)
        replace v0 := hbt.cell v0 (by simp only; omega) (by simp only; omega)
        replace v1 := hbt.cell v1 (by simp only; omega) (by simp only; omega)
        replace v2 := hbt.cell v2 (by simp only; omega) (by simp only; omega)
        replace v3 := hbt.cell v3 (by simp only; omega) (by simp only; omega)
        replace v4 := hbt.cell v4 (by simp only; omega) (by simp only; omega)
        replace z0 := hbt.cell z0 (by simp only; omega) (by simp only; omega)
        replace z1 := hbt.cell z1 (by simp only; omega) (by simp only; omega)
        replace zf : ∀ q, w1.frozen? ⟨w.heap.size + 2, q, none⟩ = false := fun q => frozen_but hbt (by simp only; omega) (by simp only; omega) (by simp only; omega) (zf q)
        have ho7 : OwnL TOl 2 (inR olR (· < wb.heap.size)) w1 wb.heap.size A3 n2 c3 st.sn := holds.keepBut (in_rep ol_rep _) hbt (Nat.le_refl _) (fun k hk e => hrows g hrow (by rw [hk, e])) (fun x cs hr k hk e => by have := hr.2 k hk; omega)
        have hfin : StR w1 (some ⟨g, 0, none⟩) n c' A3 n2 c3 ⟨over st.d so (List.replicate j 0), st.sn⟩ := ⟨hbj.sl, ho7.lst.weak fun x cs q => q.1⟩
        replace g0 := g0.but hbt g0.size (fun k e => by omega)
        have hzlt : w.heap.size + 2 < w1.heap.size := World.block_lt_of_cell? _ _ z0
        have f0 := zf 0
        have f1 := zf 1
        go_wp2_with fail
        refine bodyPost_ret (v := .tuple #[stV (some ⟨g, 0, none⟩) n c' A3 n2 c3, .int .i64 0]) ?hres rfl ⟨_, _, _, _, _, _, rfl, ?hst, ?hxx⟩
        case hres => simp [results, Try.results55, go_sem, z0, z1]
        case hst => exact ((StR.f0 hfin).box (g := w.heap.size + 2) ⟨hzlt, ⟨_, _, _, _, _, _, z0, z1⟩, zf⟩ _ _).st
        case hxx => exact (g0.sets (by simp only; omega) _).sets (by simp only; omega) _
  · obtain ⟨hm0, hm1⟩ : 0 ≤ m ∧ m ≤ 512 := by
      rcases right_cases hre with ⟨h, _⟩ | ⟨h, _⟩ | ⟨_, _, _, h1, h2, _⟩ | ⟨h, _⟩ | ⟨h, _⟩
      · omega
      · omega
      · exact ⟨h1, h2⟩
      · omega
      · omega
    obtain ⟨mm, rfl⟩ := Int.eq_ofNat_of_zero_le hm0
    have hm512 : mm ≤ 512 := by omega
    obtain rfl : (⟨sizedL st.d mm, st.sn⟩ : St) = S := by rw [← hS2]; simp [applyS]
    clear hS2 hre hm0 hm1
    go_enter Try.func55, Try.ntmps55
    go_wp2_with fail
    refine (ref_Check (hst.ext g0) (hsl.ext g0) hs hr).mono ?_
    rintro e wb ⟨rfl, h1⟩
    replace zf : ∀ q, wb.frozen? ⟨w.heap.size + 2, q, none⟩ = false := fun q => frozen_ext h1 (by rw [hWs]; simp) (zf q)
    have hw1 : w.heap.size + 3 ≤ wb.heap.size := by have := h1.size; omega
    replace s0 := h1.cell s0
    replace s1 := h1.cell s1
    replace v0 := h1.cell v0
    replace v1 := h1.cell v1
    replace v2 := h1.cell v2
    replace v3 := h1.cell v3
    replace v4 := h1.cell v4
    replace z0 := h1.cell z0
    replace z1 := h1.cell z1
    replace g0 := g0.trans h1
    clear hW h1
    have hlo : Lst 2 (inR olR (· < wb.heap.size)) wb A2 n2 c2 st.sn := (hst.v.snaps.weak fun x cs q => ⟨q.1, fun k hk => Nat.lt_of_lt_of_le (q.2 k hk) g0.size⟩).ext (in_rep ol_rep _) g0
    have hsd := hst.1.ext g0
    go_wp2_with fail
    refine wp_region_typed3 (R := Buy wb.heap.size (fun _ => False)) Ext.steady (Buy.steady _ _) (fun _ _ => Buy.of_ext) rfl 110 rfl [0, 0, 2, 7, 0, 0, 32, 127, 255, 0, 1023] 1024 9 (by kernel_rfl) ?_
    -- 0: Op.buildSlice 22 0 #[]
    apply Stage3.step (NilT) false [] true false (NilT.keeps) (no_keeps) (by kernel_rfl)
    · intro γ w1 h1
      have h1 : Ext _ w1 := h1
      simp only [List.nil_append, List.cons_append, List.map_cons, List.map_nil, Given]
      go_wp2_with fail
      exact ⟨rfl, rfl, Ext.alloc _ _, _, rfl⟩
    -- 1: Op.fieldAddr 35 t2 0
    apply Stage3.step (Is _) true [] true false (Is.keeps _) (fun _ => Is.keeps _) (by kernel_rfl)
    · intro γ w1 h1
      have h1 : Ext _ w1 := h1
      simp only [List.nil_append, List.cons_append, List.map_cons, List.map_nil, Given]
      go_wp2_with fail
      exact Post.isv (Ext.refl _) rfl rfl rfl
    -- 2: Op.load 22 t18
    apply Stage3.step (Is _) true [false, true] true false (Is.keeps _) (fun _ => Is.keeps _) (by kernel_rfl)
    · intro γ w1 h1
      have h1 : Ext _ w1 := h1
      simp only [List.nil_append, List.cons_append, List.map_cons, List.map_nil, Sp3.at, Sp.pr, Given]
      rintro _ rfl
      have hq := h1.cell s0
      go_wp2_with fail
      exact Post.isv (Ext.refl _) rfl rfl rfl
    -- 3: Op.call { builtin append, args := #[t17, t19], argTypes := #[22, 22] }
    apply Stage3.step (ByoT wb.heap.size n st.d) false [true, false, true] true false (ByoT.keeps _ _ _) (no_keeps) (by kernel_rfl)
    · intro γ w1 h1
      have h1 : Ext _ w1 := h1
      simp only [List.nil_append, List.cons_append, List.map_cons, List.map_nil, Sp3.at, Sp.pr, Given]
      rintro _ ⟨A9, rfl⟩
      rintro _ rfl
      have hsr := hsd.ext h1
      go_wp2_with (
        at_builtin
        refine wpList_append_mine _ rfl _ _ _ _ rfl wb.heap.size U8 i8 _ 1 1 under_bytes hi8 hy0 hy1 hy2 rfl A9 0 0 _ rfl (Own.nil _ _ _ _ _) _ rfl n (st.d.map bv) (hsr.src under_bytes) (by simp only [maxLen]; omega) (by omega) h1.size ?_
        intro A6 c6 w6 hown6 hg6 _)
      exact ⟨rfl, rfl, grown_nil hg6, _, _, rfl, hdl, by simpa using hown6⟩
    -- 4: Op.buildSlice 33 0 #[]
    apply Stage3.step (NilT) false [] true false (NilT.keeps) (no_keeps) (by kernel_rfl)
    · intro γ w1 h1
      have h1 : Ext _ w1 := h1
      simp only [List.nil_append, List.cons_append, List.map_cons, List.map_nil, Given]
      go_wp2_with fail
      exact ⟨rfl, rfl, Ext.alloc _ _, _, rfl⟩
    -- 5: Op.fieldAddr 35 t2 1
    apply Stage3.step (Is _) true [] true false (Is.keeps _) (fun _ => Is.keeps _) (by kernel_rfl)
    · intro γ w1 h1
      have h1 : Ext _ w1 := h1
      simp only [List.nil_append, List.cons_append, List.map_cons, List.map_nil, Given]
      go_wp2_with fail
      exact Post.isv (Ext.refl _) rfl rfl rfl
    -- 6: Op.load 33 t22
    apply Stage3.step (Is _) true [false, false, false, false, false, true] true false (Is.keeps _) (fun _ => Is.keeps _) (by kernel_rfl)
    · intro γ w1 h1
      have h1 : Ext _ w1 := h1
      simp only [List.nil_append, List.cons_append, List.map_cons, List.map_nil, Sp3.at, Sp.pr, Given]
      rintro _ rfl
      have hq := h1.cell s1
      go_wp2_with fail
      exact Post.isv (Ext.refl _) rfl rfl rfl
    -- 7: Op.call { builtin append, args := #[t21, t23], argTypes := #[33, 33] }
    apply Stage3.step (OwnT wb.heap.size n2 (· < wb.heap.size) st.sn) false [false, false, false, false, true, false, true] true false (OwnT.keeps _ _ _ _) (no_keeps) (by kernel_rfl)
    · intro γ w1 h1
      have h1 : Ext _ w1 := h1
      simp only [List.nil_append, List.cons_append, List.map_cons, List.map_nil, Sp3.at, Sp.pr, Given]
      rintro _ ⟨A10, rfl⟩
      rintro _ rfl
      go_wp2_with (
        at_builtin
        refine wpList_append_lst4 (B := wb.heap.size) (in_rep ol_rep (· < wb.heap.size)) rfl _ _ _ _ rfl TOl j0 _ 40 under_ols hj0 hx0 hx1 hx2 rfl A10 0 0 [] rfl (OwnL.nil _ _ _ _) _ n2 st.sn rfl (Feed.old (e := TOl) (n := 0) (xs := []) (in_rep ol_rep _) (OwnL.nil _ _ _ _) hlo h1 under_ols) n2 (Nat.zero_add _) st.sn rfl (by simp only [maxLen]; omega) (by omega) h1.size ?_
        intro A7 c7 w7 ho7 hg7 hr7)
      exact ⟨rfl, rfl, grown_nil hg7, _, _, rfl, ho7⟩
    -- 8: Op.build 35 #[(0, t20), (1, t24)]
    apply Stage3.step (AgT wb.heap.size n n2 (· < wb.heap.size) st.d st.sn) false [false, false, false, true, false, false, false, true] true false (AgT.keeps _ _ _ _ _ _) (no_keeps) (by kernel_rfl)
    · intro γ w1 h1
      have h1 : Ext _ w1 := h1
      simp only [List.nil_append, List.cons_append, List.map_cons, List.map_nil, Sp3.at, Sp.pr, Given]
      rintro _ ⟨A6, c6, rfl, h6⟩
      rintro _ ⟨A7, c7, rfl, h7⟩
      go_wp2_with fail
      exact ⟨rfl, rfl, Ext.refl _, _, _, _, _, rfl, h6, h7⟩
    -- 9: Op.alloc 35
    apply Stage3.stepA (BoxQ wb.heap.size) true [] true false (BoxQ.keeps _) (fun _ => BoxQ.keeps2 _) (by kernel_rfl)
    · intro γ w1 h1
      have h1 : Ext _ w1 := h1
      simp only [List.nil_append, List.cons_append, List.map_cons, List.map_nil, Given]
      go_wp2_with fail
      exact ⟨rfl, rfl, Ext.alloc _ _, BoxQ.made h1.size⟩
    -- 10: Op.store 35 t7 t25
    apply Stage3.stepD (fun γ => OutT wb.heap.size n n2 (· < wb.heap.size) st.d st.sn γ) false [false, false, false, false, false, false, false, false, true, true] true true (fun γ => OutT.keeps _ _ _ _ _ _ _) (fun h => by cases h) (by kernel_rfl)
    · intro γ w1 h1
      have h1 : Ext _ w1 := h1
      simp only [List.nil_append, List.cons_append, List.map_cons, List.map_nil, Sp3.at, Sp.pr, Given]
      rintro _ ⟨A8, c8, A11, c11, rfl, hd8, ho8⟩
      rintro _ ⟨rfl, go, rfl, hgo, hbx, hty⟩
      have hbx2 := hbx
      obtain ⟨hx1', ⟨e1, e2, e3, e4, e5, e6, x0, x1⟩, xf⟩ := hbx
      have f0 := xf 0
      have f1 := xf 1
      go_wp2_with fail
      refine ⟨rfl, rfl, buy_set2 (.inr hgo) hbx2 _ _ _ _ _ _, fun g e => ?_⟩
      obtain rfl : go = g := by injection e with e; injection e with e; injection e with e
      exact ⟨_, _, _, _, out_set hbx2 hty hd8 ho8 hgo (fun k hk => by omega)⟩
    apply Stage3.nil [false, true, true, false, false, true, true, false, false, true, true] (by kernel_rfl)
    intro γ w1 h1
    have h1 : (Buy wb.heap.size (fun _ => False)) _ w1 := h1
    simp only [List.nil_append, List.cons_append, List.map_cons, List.map_nil, Sp3.at, Sp.pr]
    refine Fin2.dead_ ?_
    intro dead0
    refine Fin2.is_ ?_
    refine Fin2.is_ ?_
    refine Fin2.dead_ ?_
    intro dead3
    refine Fin2.dead_ ?_
    intro dead4
    refine Fin2.is_ ?_
    refine Fin2.is_ ?_
    refine Fin2.dead_ ?_
    intro dead7
    refine Fin2.dead_ ?_
    intro dead8
    refine Fin2.step_ ?_
    rintro _ ⟨rfl, go, rfl, hgo, hbx, hty⟩
    refine Fin2.step_ ?_
    rintro _ hout
    refine Fin2.nil_ ?_
    go_simp
    obtain ⟨A', c', A3, c3, hO⟩ := hout go rfl
    have gq : Ext wb w1 := (Ext.refl wb).but h1.bux.but (Nat.le_refl _) (fun _ h => h.elim)
    replace zf : ∀ q, w1.frozen? ⟨w.heap.size + 2, q, none⟩ = false := fun q => frozen_ext gq (by simp only; omega) (zf q)
    have hsl1 := hsl.ext (g0.trans gq)
    replace s0 := gq.cell s0
    replace s1 := gq.cell s1
    replace v0 := gq.cell v0
    replace v1 := gq.cell v1
    replace v2 := gq.cell v2
    replace v3 := gq.cell v3
    replace v4 := gq.cell v4
    replace z0 := gq.cell z0
    replace z1 := gq.cell z1
    replace g0 := g0.trans gq
    clear h1 hout hbx hty
    obtain ⟨wq, rfl⟩ : ∃ q, q = w1 := ⟨_, rfl⟩
    have y0 := hO.y0
    have y1 := hO.y1
    have yf0 := hO.yf 0
    have yf1 := hO.yf 1
    have hgs := gq.size
    have gbq := gq
    clear gq
    have hdq := hst.1.ext g0
    have hwq := hO.lt
    go_wp2_with fail
    refine (ref_Sized A n c st.d mm _ hdq (by omega) (by omega)).mono ?_
    rintro e w1 ⟨A6, c6, rfl, h6, h1⟩
    have hO1 := hO.ext h1
    replace zf : ∀ q, w1.frozen? ⟨w.heap.size + 2, q, none⟩ = false := fun q => frozen_ext h1 (show w.heap.size + 2 < wq.heap.size by omega) (zf q)
    replace s0 := h1.cell s0
    replace s1 := h1.cell s1
    replace v0 := h1.cell v0
    replace v1 := h1.cell v1
    replace v2 := h1.cell v2
    replace v3 := h1.cell v3
    replace v4 := h1.cell v4
    replace z0 := h1.cell z0
    replace z1 := h1.cell z1
    replace g0 := g0.trans h1
    have x0 := hO1.y0
    have x1 := hO1.y1
    have xf0 := hO1.yf 0
    have hgol := hO.lt
    have hgge := hO.ge
    have hY0 : (w1.setCell ⟨go, 0, none⟩ (.slice A6 mm c6)).cell? ⟨go, 0, none⟩ = some (.slice A6 mm c6) := World.cell?_setCell_same _ _ _ x0
    have hY1 : (w1.setCell ⟨go, 0, none⟩ (.slice A6 mm c6)).cell? ⟨go, 1, none⟩ = some (.slice A3 n2 c3) := by
      rw [World.cell?_setCell_other _ _ _ _ (fun e => by injection e with e1 e2; omega)]; exact x1
    obtain ⟨w2, hw2⟩ : ∃ q, w1.setCell ⟨go, 0, none⟩ (.slice A6 mm c6) = q := ⟨_, rfl⟩
    rw [hw2] at hY0 hY1
    have hoth : ∀ (b j : Nat) u, b ≠ go → w1.cell? ⟨b, j, none⟩ = some u → w2.cell? ⟨b, j, none⟩ = some u := fun b j u hb hc => by
      rw [← hw2, World.cell?_setCell_other _ _ _ _ (fun e => by injection e with e1 e2; omega)]; exact hc
    have hfin : StR w2 A6 mm c6 A3 n2 c3 ⟨sizedL st.d mm, st.sn⟩ := by
      rw [← hw2]
      refine ⟨(h6.far (p := ⟨go, 0, none⟩) (fun g hg e => by have := (h6.own.row_ge g hg).1; simp only at e; omega) _).sl, (hO1.olds.setCell (in_rep ol_rep _) (p := ⟨go, 0, none⟩) _ hO1.row_o (fun x cs hr k hk e => by have := hr.2 k hk; simp only at e; omega)).lst.weak fun x cs q => q.1⟩
    have gz0 : Ext w w2 := by rw [← hw2]; exact g0.sets (by simp only; omega) _
    replace z0 := hoth _ _ _ (by omega) z0
    replace z1 := hoth _ _ _ (by omega) z1
    replace zf : ∀ q, w2.frozen? ⟨w.heap.size + 2, q, none⟩ = false := fun q => by rw [← hw2, World.frozen?_setCell]; exact zf q
    replace g0 := gz0
    clear hO hO1 hoth h6
    have hzlt : w.heap.size + 2 < w2.heap.size := World.block_lt_of_cell? _ _ z0
    have f0 := zf 0
    have f1 := zf 1
    go_wp2_with fail
    refine bodyPost_ret (v := .tuple #[stV A6 mm c6 A3 n2 c3, .int .i64 0]) ?hres rfl ⟨_, _, _, _, _, _, rfl, ?hst, ?hxx⟩
    case hres => simp [results, Try.results55, go_sem, z0, z1]
    case hst => exact ((StR.f0 hfin).box (g := w.heap.size + 2) ⟨hzlt, ⟨_, _, _, _, _, _, z0, z1⟩, zf⟩ _ _).st
    case hxx => exact (g0.sets (by simp only; omega) _).sets (by simp only; omega) _
  · have hlt8 : st.sn.length < 8 := by
      have hck := hr.out
      rw [check_snap hre] at hck
      split at hck
      · cases hck
      · split at hck
        · cases hck
        · omega
    obtain ⟨sn', hsn'⟩ : ∃ q, st.sn ++ [⟨s, st.d⟩] = q := ⟨_, rfl⟩
    obtain rfl : (⟨st.d, sn'⟩ : St) = S := by rw [← hS2, ← hsn']; simp [applyS]
    have HSN := Lib.hid hsn'
    clear hS2 hre hsn' hlt8
    go_enter Try.func55, Try.ntmps55
    go_wp2_with fail
    refine (ref_Check (hst.ext g0) (hsl.ext g0) hs hr).mono ?_
    rintro e wb ⟨rfl, h1⟩
    replace zf : ∀ q, wb.frozen? ⟨w.heap.size + 2, q, none⟩ = false := fun q => frozen_ext h1 (by rw [hWs]; simp) (zf q)
    have hw1 : w.heap.size + 3 ≤ wb.heap.size := by have := h1.size; omega
    replace s0 := h1.cell s0
    replace s1 := h1.cell s1
    replace v0 := h1.cell v0
    replace v1 := h1.cell v1
    replace v2 := h1.cell v2
    replace v3 := h1.cell v3
    replace v4 := h1.cell v4
    replace z0 := h1.cell z0
    replace z1 := h1.cell z1
    replace g0 := g0.trans h1
    clear hW h1
    have hlo : Lst 2 (inR olR (· < wb.heap.size)) wb A2 n2 c2 st.sn := (hst.v.snaps.weak fun x cs q => ⟨q.1, fun k hk => Nat.lt_of_lt_of_le (q.2 k hk) g0.size⟩).ext (in_rep ol_rep _) g0
    have hsd := hst.1.ext g0
    go_wp2_with fail
    refine wp_region_typed3 (R := Buy wb.heap.size (fun _ => False)) Ext.steady (Buy.steady _ _) (fun _ _ => Buy.of_ext) rfl 110 rfl [0, 0, 2, 7, 0, 0, 32, 127, 255, 0, 1023] 1024 9 (by kernel_rfl) ?_
    -- 0: Op.buildSlice 22 0 #[]
    apply Stage3.step (NilT) false [] true false (NilT.keeps) (no_keeps) (by kernel_rfl)
    · intro γ w1 h1
      have h1 : Ext _ w1 := h1
      simp only [List.nil_append, List.cons_append, List.map_cons, List.map_nil, Given]
      go_wp2_with fail
      exact ⟨rfl, rfl, Ext.alloc _ _, _, rfl⟩
    -- 1: Op.fieldAddr 35 t2 0
    apply Stage3.step (Is _) true [] true false (Is.keeps _) (fun _ => Is.keeps _) (by kernel_rfl)
    · intro γ w1 h1
      have h1 : Ext _ w1 := h1
      simp only [List.nil_append, List.cons_append, List.map_cons, List.map_nil, Given]
      go_wp2_with fail
      exact Post.isv (Ext.refl _) rfl rfl rfl
    -- 2: Op.load 22 t18
    apply Stage3.step (Is _) true [false, true] true false (Is.keeps _) (fun _ => Is.keeps _) (by kernel_rfl)
    · intro γ w1 h1
      have h1 : Ext _ w1 := h1
      simp only [List.nil_append, List.cons_append, List.map_cons, List.map_nil, Sp3.at, Sp.pr, Given]
      rintro _ rfl
      have hq := h1.cell s0
      go_wp2_with fail
      exact Post.isv (Ext.refl _) rfl rfl rfl
    -- 3: Op.call { builtin append, args := #[t17, t19], argTypes := #[22, 22] }
    apply Stage3.step (ByoT wb.heap.size n st.d) false [true, false, true] true false (ByoT.keeps _ _ _) (no_keeps) (by kernel_rfl)
    · intro γ w1 h1
      have h1 : Ext _ w1 := h1
      simp only [List.nil_append, List.cons_append, List.map_cons, List.map_nil, Sp3.at, Sp.pr, Given]
      rintro _ ⟨A9, rfl⟩
      rintro _ rfl
      have hsr := hsd.ext h1
      go_wp2_with (
        at_builtin
        refine wpList_append_mine _ rfl _ _ _ _ rfl wb.heap.size U8 i8 _ 1 1 under_bytes hi8 hy0 hy1 hy2 rfl A9 0 0 _ rfl (Own.nil _ _ _ _ _) _ rfl n (st.d.map bv) (hsr.src under_bytes) (by simp only [maxLen]; omega) (by omega) h1.size ?_
        intro A6 c6 w6 hown6 hg6 _)
      exact ⟨rfl, rfl, grown_nil hg6, _, _, rfl, hdl, by simpa using hown6⟩
    -- 4: Op.buildSlice 33 0 #[]
    apply Stage3.step (NilT) false [] true false (NilT.keeps) (no_keeps) (by kernel_rfl)
    · intro γ w1 h1
      have h1 : Ext _ w1 := h1
      simp only [List.nil_append, List.cons_append, List.map_cons, List.map_nil, Given]
      go_wp2_with fail
      exact ⟨rfl, rfl, Ext.alloc _ _, _, rfl⟩
    -- 5: Op.fieldAddr 35 t2 1
    apply Stage3.step (Is _) true [] true false (Is.keeps _) (fun _ => Is.keeps _) (by kernel_rfl)
    · intro γ w1 h1
      have h1 : Ext _ w1 := h1
      simp only [List.nil_append, List.cons_append, List.map_cons, List.map_nil, Given]
      go_wp2_with fail
      exact Post.isv (Ext.refl _) rfl rfl rfl
    -- 6: Op.load 33 t22
    apply Stage3.step (Is _) true [false, false, false, false, false, true] true false (Is.keeps _) (fun _ => Is.keeps _) (by kernel_rfl)
    · intro γ w1 h1
      have h1 : Ext _ w1 := h1
      simp only [List.nil_append, List.cons_append, List.map_cons, List.map_nil, Sp3.at, Sp.pr, Given]
      rintro _ rfl
      have hq := h1.cell s1
      go_wp2_with fail
      exact Post.isv (Ext.refl _) rfl rfl rfl
    -- 7: Op.call { builtin append, args := #[t21, t23], argTypes := #[33, 33] }
    apply Stage3.step (OwnT wb.heap.size n2 (· < wb.heap.size) st.sn) false [false, false, false, false, true, false, true] true false (OwnT.keeps _ _ _ _) (no_keeps) (by kernel_rfl)
    · intro γ w1 h1
      have h1 : Ext _ w1 := h1
      simp only [List.nil_append, List.cons_append, List.map_cons, List.map_nil, Sp3.at, Sp.pr, Given]
      rintro _ ⟨A10, rfl⟩
      rintro _ rfl
      go_wp2_with (
        at_builtin
        refine wpList_append_lst4 (B := wb.heap.size) (in_rep ol_rep (· < wb.heap.size)) rfl _ _ _ _ rfl TOl j0 _ 40 under_ols hj0 hx0 hx1 hx2 rfl A10 0 0 [] rfl (OwnL.nil _ _ _ _) _ n2 st.sn rfl (Feed.old (e := TOl) (n := 0) (xs := []) (in_rep ol_rep _) (OwnL.nil _ _ _ _) hlo h1 under_ols) n2 (Nat.zero_add _) st.sn rfl (by simp only [maxLen]; omega) (by omega) h1.size ?_
        intro A7 c7 w7 ho7 hg7 hr7)
      exact ⟨rfl, rfl, grown_nil hg7, _, _, rfl, ho7⟩
    -- 8: Op.build 35 #[(0, t20), (1, t24)]
    apply Stage3.step (AgT wb.heap.size n n2 (· < wb.heap.size) st.d st.sn) false [false, false, false, true, false, false, false, true] true false (AgT.keeps _ _ _ _ _ _) (no_keeps) (by kernel_rfl)
    · intro γ w1 h1
      have h1 : Ext _ w1 := h1
      simp only [List.nil_append, List.cons_append, List.map_cons, List.map_nil, Sp3.at, Sp.pr, Given]
      rintro _ ⟨A6, c6, rfl, h6⟩
      rintro _ ⟨A7, c7, rfl, h7⟩
      go_wp2_with fail
      exact ⟨rfl, rfl, Ext.refl _, _, _, _, _, rfl, h6, h7⟩
    -- 9: Op.alloc 35
    apply Stage3.stepA (BoxQ wb.heap.size) true [] true false (BoxQ.keeps _) (fun _ => BoxQ.keeps2 _) (by kernel_rfl)
    · intro γ w1 h1
      have h1 : Ext _ w1 := h1
      simp only [List.nil_append, List.cons_append, List.map_cons, List.map_nil, Given]
      go_wp2_with fail
      exact ⟨rfl, rfl, Ext.alloc _ _, BoxQ.made h1.size⟩
    -- 10: Op.store 35 t7 t25
    apply Stage3.stepD (fun γ => OutT wb.heap.size n n2 (· < wb.heap.size) st.d st.sn γ) false [false, false, false, false, false, false, false, false, true, true] true true (fun γ => OutT.keeps _ _ _ _ _ _ _) (fun h => by cases h) (by kernel_rfl)
    · intro γ w1 h1
      have h1 : Ext _ w1 := h1
      simp only [List.nil_append, List.cons_append, List.map_cons, List.map_nil, Sp3.at, Sp.pr, Given]
      rintro _ ⟨A8, c8, A11, c11, rfl, hd8, ho8⟩
      rintro _ ⟨rfl, go, rfl, hgo, hbx, hty⟩
      have hbx2 := hbx
      obtain ⟨hx1', ⟨e1, e2, e3, e4, e5, e6, x0, x1⟩, xf⟩ := hbx
      have f0 := xf 0
      have f1 := xf 1
      go_wp2_with fail
      refine ⟨rfl, rfl, buy_set2 (.inr hgo) hbx2 _ _ _ _ _ _, fun g e => ?_⟩
      obtain rfl : go = g := by injection e with e; injection e with e; injection e with e
      exact ⟨_, _, _, _, out_set hbx2 hty hd8 ho8 hgo (fun k hk => by omega)⟩
    apply Stage3.nil [false, true, true, false, false, true, true, false, false, true, true] (by kernel_rfl)
    intro γ w1 h1
    have h1 : (Buy wb.heap.size (fun _ => False)) _ w1 := h1
    simp only [List.nil_append, List.cons_append, List.map_cons, List.map_nil, Sp3.at, Sp.pr]
    refine Fin2.dead_ ?_
    intro dead0
    refine Fin2.is_ ?_
    refine Fin2.is_ ?_
    refine Fin2.dead_ ?_
    intro dead3
    refine Fin2.dead_ ?_
    intro dead4
    refine Fin2.is_ ?_
    refine Fin2.is_ ?_
    refine Fin2.dead_ ?_
    intro dead7
    refine Fin2.dead_ ?_
    intro dead8
    refine Fin2.step_ ?_
    rintro _ ⟨rfl, go, rfl, hgo, hbx, hty⟩
    refine Fin2.step_ ?_
    rintro _ hout
    refine Fin2.nil_ ?_
    go_simp
    obtain ⟨A', c', A3, c3, hO⟩ := hout go rfl
    have gq : Ext wb w1 := (Ext.refl wb).but h1.bux.but (Nat.le_refl _) (fun _ h => h.elim)
    replace zf : ∀ q, w1.frozen? ⟨w.heap.size + 2, q, none⟩ = false := fun q => frozen_ext gq (by simp only; omega) (zf q)
    have hsl1 := hsl.ext (g0.trans gq)
    replace s0 := gq.cell s0
    replace s1 := gq.cell s1
    replace v0 := gq.cell v0
    replace v1 := gq.cell v1
    replace v2 := gq.cell v2
    replace v3 := gq.cell v3
    replace v4 := gq.cell v4
    replace z0 := gq.cell z0
    replace z1 := gq.cell z1
    replace g0 := g0.trans gq
    clear h1 hout hbx hty
    obtain ⟨wq, rfl⟩ : ∃ q, q = w1 := ⟨_, rfl⟩
    have y0 := hO.y0
    have y1 := hO.y1
    have yf0 := hO.yf 0
    have yf1 := hO.yf 1
    have hgs := gq.size
    have gbq := gq
    clear gq
    have hgol := hO.lt
    have hgge := hO.ge
    have hyf := hO.yf
    have hsd2 := hst.1.ext g0
    have hroo := hO.row_o
    have hrowo := hO.olds.row_lt
    have hold5 : OwnL TOl 2 (inR olR (fun k => k ≠ go ∧ rowOf A3 c3 ≠ some k)) wq wb.heap.size A3 n2 c3 st.sn := hO.olds.weak fun x cs q => ⟨q.1, fun k hk => by
      have q1 := q.2 k hk
      exact ⟨by omega, fun e => by have := (hrowo k e).1; omega⟩⟩
    go_wp2_with fail
    refine wp_region_typed2 (R := But wq.heap.size (fun k => k = go ∨ rowOf A3 c3 = some k)) Ext.steady (But.steady _ _) (fun _ _ => But.of_ext) rfl 110 rfl [0, 1, 0, 4, 0, 0, 32, 112, 252, 508, 1023, 2047, 4095] 5120 (by kernel_rfl) ?_
    -- 0: Op.fieldAddr 35 t7 1
    apply Stage2.step (Is _) true [] true false (Is.keeps _) (fun _ => Is.keeps _) (by kernel_rfl)
    · intro w1 h1
      have h1 : Ext _ w1 := h1
      simp only [List.nil_append, List.cons_append, List.map_cons, List.map_nil, Given]
      go_wp2_with fail
      exact Post.isv (Ext.refl _) rfl rfl rfl
    -- 1: Op.load 33 t64
    apply Stage2.step (Is _) true [true] true false (Is.keeps _) (fun _ => Is.keeps _) (by kernel_rfl)
    · intro w1 h1
      have h1 : Ext _ w1 := h1
      simp only [List.nil_append, List.cons_append, List.map_cons, List.map_nil, Sp.pr, Given]
      rintro _ rfl
      have hq := h1.cell y1
      go_wp2_with fail
      exact Post.isv (Ext.refl _) rfl rfl rfl
    -- 2: Op.fieldAddr 28 t3 4
    apply Stage2.step (Is _) true [] true false (Is.keeps _) (fun _ => Is.keeps _) (by kernel_rfl)
    · intro w1 h1
      have h1 : Ext _ w1 := h1
      simp only [List.nil_append, List.cons_append, List.map_cons, List.map_nil, Given]
      go_wp2_with fail
      exact Post.isv (Ext.refl _) rfl rfl rfl
    -- 3: Op.load 9 t66
    apply Stage2.step (Is _) true [false, false, true] true false (Is.keeps _) (fun _ => Is.keeps _) (by kernel_rfl)
    · intro w1 h1
      have h1 : Ext _ w1 := h1
      simp only [List.nil_append, List.cons_append, List.map_cons, List.map_nil, Sp.pr, Given]
      rintro _ rfl
      have hq := h1.cell v4
      go_wp2_with fail
      exact Post.isv (Ext.refl _) rfl rfl rfl
    -- 4: Op.buildSlice 22 0 #[]
    apply Stage2.step (NilT) false [] true false (NilT.keeps) (no_keeps) (by kernel_rfl)
    · intro w1 h1
      have h1 : Ext _ w1 := h1
      simp only [List.nil_append, List.cons_append, List.map_cons, List.map_nil, Given]
      go_wp2_with fail
      exact ⟨rfl, rfl, Ext.alloc _ _, _, rfl⟩
    -- 5: Op.fieldAddr 35 t2 0
    apply Stage2.step (Is _) true [] true false (Is.keeps _) (fun _ => Is.keeps _) (by kernel_rfl)
    · intro w1 h1
      have h1 : Ext _ w1 := h1
      simp only [List.nil_append, List.cons_append, List.map_cons, List.map_nil, Given]
      go_wp2_with fail
      exact Post.isv (Ext.refl _) rfl rfl rfl
    -- 6: Op.load 22 t69
    apply Stage2.step (Is _) true [false, false, false, false, false, true] true false (Is.keeps _) (fun _ => Is.keeps _) (by kernel_rfl)
    · intro w1 h1
      have h1 : Ext _ w1 := h1
      simp only [List.nil_append, List.cons_append, List.map_cons, List.map_nil, Sp.pr, Given]
      rintro _ rfl
      have hq := h1.cell s0
      go_wp2_with fail
      exact Post.isv (Ext.refl _) rfl rfl rfl
    -- 7: Op.call { builtin append, args := #[t68, t70], argTypes := #[22, 22] }
    apply Stage2.step (ByoT wq.heap.size n st.d) false [false, false, false, false, true, false, true] true false (ByoT.keeps _ _ _) (no_keeps) (by kernel_rfl)
    · intro w1 h1
      have h1 : Ext _ w1 := h1
      simp only [List.nil_append, List.cons_append, List.map_cons, List.map_nil, Sp.pr, Given]
      rintro _ ⟨A9, rfl⟩
      rintro _ rfl
      have hsr := hsd2.ext h1
      go_wp2_with (
        at_builtin
        refine wpList_append_mine _ rfl _ _ _ _ rfl wq.heap.size U8 i8 _ 1 1 under_bytes hi8 hy0 hy1 hy2 rfl A9 0 0 _ rfl (Own.nil _ _ _ _ _) _ rfl n (st.d.map bv) (hsr.src under_bytes) (by simp only [maxLen]; omega) (by omega) h1.size ?_
        intro A6 c6 w6 hown6 hg6 _)
      exact ⟨rfl, rfl, grown_nil hg6, _, _, rfl, hdl, by simpa using hown6⟩
    -- 8: Op.build 42 #[(0, t67), (1, t71)]
    apply Stage2.step (OlF wq.heap.size n s st.d) false [false, false, false, true, false, false, false, true] true false (OlF.keeps _ _ _ _) (no_keeps) (by kernel_rfl)
    · intro w1 h1
      have h1 : Ext _ w1 := h1
      simp only [List.nil_append, List.cons_append, List.map_cons, List.map_nil, Sp.pr, Given]
      rintro _ rfl
      rintro _ ⟨A6, c6, rfl, h6⟩
      go_wp2_with fail
      exact ⟨rfl, rfl, Ext.refl _, _, _, rfl, h6.fsl⟩
    -- 9: Op.buildSlice 33 1 #[(0, t72)]
    apply Stage2.step (LstV 1 (fun k => k ≠ go ∧ rowOf A3 c3 ≠ some k) [⟨s, st.d⟩]) false [false, false, false, false, false, false, false, false, true] true false (LstV.keeps _ _ _) (no_keeps) (by kernel_rfl)
    · intro w1 h1
      have h1 : Ext _ w1 := h1
      simp only [List.nil_append, List.cons_append, List.map_cons, List.map_nil, Sp.pr, Given]
      rintro _ ⟨A7, c7, rfl, h7⟩
      go_wp2_with fail
      exact ⟨rfl, rfl, Ext.alloc _ _, _, _, rfl, (ol_lit h7 hs).weak fun x cs q => ⟨q.1, fun k hk => by
        have q1 := q.2 k hk
        exact ⟨by omega, fun e => by have := (hrowo k e).2; omega⟩⟩⟩
    -- 10: Op.call { builtin append, args := #[t65, t73], argTypes := #[33, 33] }
    apply Stage2.step (RowO go wb.heap.size (n2 + 1) (.slice A' n c') (.slice A3 n2 c3) (fun k => k ≠ go ∧ rowOf A3 c3 ≠ some k) sn') false [false, true, false, false, false, false, false, false, false, true] true true (RowO.keeps _ _ _ _ _ _ _) (no_keeps) (by kernel_rfl)
    · intro w1 h1
      have h1 : Ext _ w1 := h1
      simp only [List.nil_append, List.cons_append, List.map_cons, List.map_nil, Sp.pr, Given]
      rintro _ rfl
      rintro _ ⟨A8, c8, rfl, h8⟩
      have x0 := h1.cell y0
      have x1 := h1.cell y1
      have hg1 : go < w1.heap.size := Nat.lt_of_lt_of_le hgol h1.size
      have xf : ∀ q, w1.frozen? ⟨go, q, none⟩ = false := fun q => frozen_ext h1 hgol (hyf q)
      have hwsz : wb.heap.size ≤ w1.heap.size := Nat.le_trans hgs h1.size
      go_wp2_with (
        at_builtin
        refine wpList_append_lst4 (B := wb.heap.size) (in_rep ol_rep _) rfl _ _ _ _ rfl TOl j0 _ 40 under_ols hj0 hx0 hx1 hx2 rfl A3 n2 c3 st.sn rfl (hold5.ext (in_rep ol_rep _) h1) _ 1 [⟨s, st.d⟩] rfl (Feed.in_ h8 (fun k hk => hk.2) under_ols) (n2 + 1) rfl _ HSN.out (by simp only [maxLen]; omega) (by omega) hwsz ?_
        intro A10 c10 w10 ho10 hg10 hr10)
      exact ⟨rfl, rfl, But.grown (But.refl _ _ _) hg10 (fun g hg => .inl (.inr hg)), _, _, rfl, ho10, (fun e => by rcases hr10 with h | h; rw [h] at e; exact hroo e; rw [h] at e; injection e with e; omega), cell_grown hg10 x0 hroo, cell_grown hg10 x1 hroo, (fun q => by
        have hbk : w10.heap[go]? = w1.heap[go]? := hg10.block go hg1 (fun e => hroo e.symm)
        have := xf q
        unfold World.frozen? at this ⊢
        rw [hbk]
        exact this), Nat.lt_of_lt_of_le hg1 hg10.size⟩
    -- 11: Op.fieldAddr 35 t7 1
    apply Stage2.step (Is _) true [] false false (Is.keeps _) (fun _ => Is.keeps _) (by kernel_rfl)
    · intro w1 h1
      have h1 : (But wq.heap.size (fun k => k = go ∨ rowOf A3 c3 = some k)) _ w1 := h1
      simp only [List.nil_append, List.cons_append, List.map_cons, List.map_nil, Given]
      go_wp2_with fail
      exact Post.isv (Ext.refl _) rfl rfl rfl
    -- 12: Op.store 33 t75 t74
    apply Stage2.step (SetO go wb.heap.size (n2 + 1) (.slice A' n c') (fun k => k ≠ go ∧ rowOf A3 c3 ≠ some k) sn') false [false, false, false, false, false, false, false, false, false, false, true, true] false true (SetO.keeps _ _ _ _ _ _) (no_keeps) (by kernel_rfl)
    · intro w1 h1
      have h1 : (But wq.heap.size (fun k => k = go ∨ rowOf A3 c3 = some k)) _ w1 := h1
      simp only [List.nil_append, List.cons_append, List.map_cons, List.map_nil, Sp.pr, Given]
      rintro _ ⟨A10, c10, rfl, h10, hr10, q0, q1, qf, qs⟩
      rintro _ rfl
      have f1 := qf 1
      go_wp2_with fail
      refine ⟨rfl, rfl, But.setCell (S := fun k => k = go ∨ rowOf A3 c3 = some k) (But.refl wq.heap.size (fun k => k = go ∨ rowOf A3 c3 = some k) w1) (p := ⟨go, 1, none⟩) (.inl (.inl rfl)) _, _, _, ?_, World.cell?_setCell_same _ _ _ q1, h10.setCell (in_rep ol_rep _) (p := ⟨go, 1, none⟩) _ hr10 (fun x cs hr k hk e => (hr.2 k hk).1 e)⟩
      rw [World.cell?_setCell_other _ _ _ _ (fun e => by injection e with e1 e2; omega)]; exact q0
    apply Stage2.nil [true, true, true, true, false, true, true, false, false, false, false, true, true] (by kernel_rfl)
    intro w1 h1
    have h1 : (But wq.heap.size (fun k => k = go ∨ rowOf A3 c3 = some k)) _ w1 := h1
    simp only [List.nil_append, List.cons_append, List.map_cons, List.map_nil, Sp.pr]
    refine Fin2.is_ ?_
    refine Fin2.is_ ?_
    refine Fin2.is_ ?_
    refine Fin2.is_ ?_
    refine Fin2.dead_ ?_
    intro dead4
    refine Fin2.is_ ?_
    refine Fin2.is_ ?_
    refine Fin2.dead_ ?_
    intro dead7
    refine Fin2.dead_ ?_
    intro dead8
    refine Fin2.dead_ ?_
    intro dead9
    refine Fin2.dead_ ?_
    intro dead10
    refine Fin2.is_ ?_
    refine Fin2.step_ ?_
    rintro _ ⟨A11, c11, e0, e1, h11⟩
    refine Fin2.nil_ ?_
    go_simp
    have hlow : ∀ b, b < w.heap.size + 3 → ¬ (b = go ∨ rowOf A3 c3 = some b) := fun b hb e => by
      rcases e with e | e
      · omega
      · have := (hrowo b e).1; omega
    replace s0 := h1.cell s0 (by simp only; omega) (hlow _ (by simp only; omega))
    replace s1 := h1.cell s1 (by simp only; omega) (hlow _ (by simp only; omega))
    replace v0 := h1.cell v0 (by simp only; omega) (hlow _ (by simp only; omega))
    replace v1 := h1.cell v1 (by simp only; omega) (hlow _ (by simp only; omega))
    replace v2 := h1.cell v2 (by simp only; omega) (hlow _ (by simp only; omega))
    replace v3 := h1.cell v3 (by simp only; omega) (hlow _ (by simp only; omega))
    replace v4 := h1.cell v4 (by simp only; omega) (hlow _ (by simp only; omega))
    replace z0 := h1.cell z0 (by simp only; omega) (hlow _ (by simp only; omega))
    replace z1 := h1.cell z1 (by simp only; omega) (hlow _ (by simp only; omega))
    replace zf : ∀ q, w1.frozen? ⟨w.heap.size + 2, q, none⟩ = false := fun q => frozen_but h1 (by simp only; omega) (by simp only; omega) (hlow _ (by simp only; omega)) (zf q)
    have hb7 : Byt U8 w1 wb.heap.size A' n c' st.d := ⟨hO.dat.len, hO.dat.own.but h1 (fun g hg => ⟨(hO.dat.own.row_ge g hg).2, fun e => by
      rcases e with e | e
      · exact hO.row_d (by rw [hg, e])
      · exact hO.rows g hg e⟩)⟩
    have hfin : StR w1 A' n c' A11 (n2 + 1) c11 ⟨st.d, sn'⟩ := ⟨hb7.sl, h11.lst.weak fun x cs q => q.1⟩
    replace g0 := g0.but h1 g0.size (fun g e => by
      rcases e with e | e
      · omega
      · have := (hrowo g e).1; omega)
    clear hO
    have hzlt : w.heap.size + 2 < w1.heap.size := World.block_lt_of_cell? _ _ z0
    have f0 := zf 0
    have f1 := zf 1
    go_wp2_with fail
    refine bodyPost_ret (v := .tuple #[stV A' n c' A11 (n2 + 1) c11, .int .i64 0]) ?hres rfl ⟨_, _, _, _, _, _, rfl, ?hst, ?hxx⟩
    case hres => simp [results, Try.results55, go_sem, z0, z1]
    case hst => exact ((StR.f0 hfin).box (g := w.heap.size + 2) ⟨hzlt, ⟨_, _, _, _, _, _, z0, z1⟩, zf⟩ _ _).st
    case hxx => exact (g0.sets (by simp only; omega) _).sets (by simp only; omega) _
  · obtain ⟨p, hp1, hp2⟩ : ∃ p : Nat, findI st.sn s = (p : Int) ∧ p < st.sn.length := find_at (by
      have hck := hr.out
      rw [check_gone hre (by omega)] at hck
      split at hck
      · cases hck
      · assumption)
    have HFI := Lib.hid hp1
    obtain ⟨L, hL⟩ : ∃ L, (p + 1) + L = n2 := ⟨n2 - (p + 1), by omega⟩
    obtain ⟨hcut1, hl1⟩ := cutL_upto (t := 33) ol_rep under_ols hj0 hx1 hst.2 p (p : Int) rfl (by omega)
    obtain ⟨Ac, cc, hcut2, hl2⟩ := cutL_from (t := 33) ol_rep under_ols hj0 hx1 hst.2 (p + 1) L ((p : Int) + 1) (by omega) hL
    obtain ⟨sn', hsn'⟩ : ∃ q, st.sn.take p ++ st.sn.drop (p + 1) = q := ⟨_, rfl⟩
    obtain rfl : (⟨st.d, sn'⟩ : St) = S := by
      rw [← hS2, ← hsn']
      have e : findN st s = p := by unfold findN; rw [hp1, Int.toNat_natCast]
      simp only [applyS, show ¬ (6 : Int) = 1 by omega, show ¬ ((6 : Int) = 2 ∨ (6 : Int) = 3) by omega, show ¬ (6 : Int) = 4 by omega, show ¬ (6 : Int) = 5 by omega, if_false, if_true]
      rw [e]
    have HSN := Lib.hid hsn'
    have hpn : p < n2 := by omega
    have hvw := hst.2
    have hl1v := (hl1.weak (R' := inR olR (· < w.heap.size)) fun x cs q => ⟨q, fun k hk => ol_rep.lt _ _ _ q k hk⟩)
    have hl2v := (hl2.weak (R' := inR olR (· < w.heap.size)) fun x cs q => ⟨q, fun k hk => ol_rep.lt _ _ _ q k hk⟩)
    clear hS2 hre hp1 hp2 hsn' hl1 hl2
    go_enter Try.func55, Try.ntmps55
    go_wp2_with fail
    refine (ref_Check (hst.ext g0) (hsl.ext g0) hs hr).mono ?_
    rintro e wb ⟨rfl, h1⟩
    replace zf : ∀ q, wb.frozen? ⟨w.heap.size + 2, q, none⟩ = false := fun q => frozen_ext h1 (by rw [hWs]; simp) (zf q)
    have hw1 : w.heap.size + 3 ≤ wb.heap.size := by have := h1.size; omega
    replace s0 := h1.cell s0
    replace s1 := h1.cell s1
    replace v0 := h1.cell v0
    replace v1 := h1.cell v1
    replace v2 := h1.cell v2
    replace v3 := h1.cell v3
    replace v4 := h1.cell v4
    replace z0 := h1.cell z0
    replace z1 := h1.cell z1
    replace g0 := g0.trans h1
    clear hW h1
    have hlo : Lst 2 (inR olR (· < wb.heap.size)) wb A2 n2 c2 st.sn := (hst.v.snaps.weak fun x cs q => ⟨q.1, fun k hk => Nat.lt_of_lt_of_le (q.2 k hk) g0.size⟩).ext (in_rep ol_rep _) g0
    have hsd := hst.1.ext g0
    go_wp2_with fail
    refine wp_region_typed3 (R := Buy wb.heap.size (fun _ => False)) Ext.steady (Buy.steady _ _) (fun _ _ => Buy.of_ext) rfl 110 rfl [0, 0, 2, 7, 0, 0, 32, 127, 255, 0, 1023] 1024 9 (by kernel_rfl) ?_
    -- 0: Op.buildSlice 22 0 #[]
    apply Stage3.step (NilT) false [] true false (NilT.keeps) (no_keeps) (by kernel_rfl)
    · intro γ w1 h1
      have h1 : Ext _ w1 := h1
      simp only [List.nil_append, List.cons_append, List.map_cons, List.map_nil, Given]
      go_wp2_with fail
      exact ⟨rfl, rfl, Ext.alloc _ _, _, rfl⟩
    -- 1: Op.fieldAddr 35 t2 0
    apply Stage3.step (Is _) true [] true false (Is.keeps _) (fun _ => Is.keeps _) (by kernel_rfl)
    · intro γ w1 h1
      have h1 : Ext _ w1 := h1
      simp only [List.nil_append, List.cons_append, List.map_cons, List.map_nil, Given]
      go_wp2_with fail
      exact Post.isv (Ext.refl _) rfl rfl rfl
    -- 2: Op.load 22 t18
    apply Stage3.step (Is _) true [false, true] true false (Is.keeps _) (fun _ => Is.keeps _) (by kernel_rfl)
    · intro γ w1 h1
      have h1 : Ext _ w1 := h1
      simp only [List.nil_append, List.cons_append, List.map_cons, List.map_nil, Sp3.at, Sp.pr, Given]
      rintro _ rfl
      have hq := h1.cell s0
      go_wp2_with fail
      exact Post.isv (Ext.refl _) rfl rfl rfl
    -- 3: Op.call { builtin append, args := #[t17, t19], argTypes := #[22, 22] }
    apply Stage3.step (ByoT wb.heap.size n st.d) false [true, false, true] true false (ByoT.keeps _ _ _) (no_keeps) (by kernel_rfl)
    · intro γ w1 h1
      have h1 : Ext _ w1 := h1
      simp only [List.nil_append, List.cons_append, List.map_cons, List.map_nil, Sp3.at, Sp.pr, Given]
      rintro _ ⟨A9, rfl⟩
      rintro _ rfl
      have hsr := hsd.ext h1
      go_wp2_with (
        at_builtin
        refine wpList_append_mine _ rfl _ _ _ _ rfl wb.heap.size U8 i8 _ 1 1 under_bytes hi8 hy0 hy1 hy2 rfl A9 0 0 _ rfl (Own.nil _ _ _ _ _) _ rfl n (st.d.map bv) (hsr.src under_bytes) (by simp only [maxLen]; omega) (by omega) h1.size ?_
        intro A6 c6 w6 hown6 hg6 _)
      exact ⟨rfl, rfl, grown_nil hg6, _, _, rfl, hdl, by simpa using hown6⟩
    -- 4: Op.buildSlice 33 0 #[]
    apply Stage3.step (NilT) false [] true false (NilT.keeps) (no_keeps) (by kernel_rfl)
    · intro γ w1 h1
      have h1 : Ext _ w1 := h1
      simp only [List.nil_append, List.cons_append, List.map_cons, List.map_nil, Given]
      go_wp2_with fail
      exact ⟨rfl, rfl, Ext.alloc _ _, _, rfl⟩
    -- 5: Op.fieldAddr 35 t2 1
    apply Stage3.step (Is _) true [] true false (Is.keeps _) (fun _ => Is.keeps _) (by kernel_rfl)
    · intro γ w1 h1
      have h1 : Ext _ w1 := h1
      simp only [List.nil_append, List.cons_append, List.map_cons, List.map_nil, Given]
      go_wp2_with fail
      exact Post.isv (Ext.refl _) rfl rfl rfl
    -- 6: Op.load 33 t22
    apply Stage3.step (Is _) true [false, false, false, false, false, true] true false (Is.keeps _) (fun _ => Is.keeps _) (by kernel_rfl)
    · intro γ w1 h1
      have h1 : Ext _ w1 := h1
      simp only [List.nil_append, List.cons_append, List.map_cons, List.map_nil, Sp3.at, Sp.pr, Given]
      rintro _ rfl
      have hq := h1.cell s1
      go_wp2_with fail
      exact Post.isv (Ext.refl _) rfl rfl rfl
    -- 7: Op.call { builtin append, args := #[t21, t23], argTypes := #[33, 33] }
    apply Stage3.step (OwnT wb.heap.size n2 (· < wb.heap.size) st.sn) false [false, false, false, false, true, false, true] true false (OwnT.keeps _ _ _ _) (no_keeps) (by kernel_rfl)
    · intro γ w1 h1
      have h1 : Ext _ w1 := h1
      simp only [List.nil_append, List.cons_append, List.map_cons, List.map_nil, Sp3.at, Sp.pr, Given]
      rintro _ ⟨A10, rfl⟩
      rintro _ rfl
      go_wp2_with (
        at_builtin
        refine wpList_append_lst4 (B := wb.heap.size) (in_rep ol_rep (· < wb.heap.size)) rfl _ _ _ _ rfl TOl j0 _ 40 under_ols hj0 hx0 hx1 hx2 rfl A10 0 0 [] rfl (OwnL.nil _ _ _ _) _ n2 st.sn rfl (Feed.old (e := TOl) (n := 0) (xs := []) (in_rep ol_rep _) (OwnL.nil _ _ _ _) hlo h1 under_ols) n2 (Nat.zero_add _) st.sn rfl (by simp only [maxLen]; omega) (by omega) h1.size ?_
        intro A7 c7 w7 ho7 hg7 hr7)
      exact ⟨rfl, rfl, grown_nil hg7, _, _, rfl, ho7⟩
    -- 8: Op.build 35 #[(0, t20), (1, t24)]
    apply Stage3.step (AgT wb.heap.size n n2 (· < wb.heap.size) st.d st.sn) false [false, false, false, true, false, false, false, true] true false (AgT.keeps _ _ _ _ _ _) (no_keeps) (by kernel_rfl)
    · intro γ w1 h1
      have h1 : Ext _ w1 := h1
      simp only [List.nil_append, List.cons_append, List.map_cons, List.map_nil, Sp3.at, Sp.pr, Given]
      rintro _ ⟨A6, c6, rfl, h6⟩
      rintro _ ⟨A7, c7, rfl, h7⟩
      go_wp2_with fail
      exact ⟨rfl, rfl, Ext.refl _, _, _, _, _, rfl, h6, h7⟩
    -- 9: Op.alloc 35
    apply Stage3.stepA (BoxQ wb.heap.size) true [] true false (BoxQ.keeps _) (fun _ => BoxQ.keeps2 _) (by kernel_rfl)
    · intro γ w1 h1
      have h1 : Ext _ w1 := h1
      simp only [List.nil_append, List.cons_append, List.map_cons, List.map_nil, Given]
      go_wp2_with fail
      exact ⟨rfl, rfl, Ext.alloc _ _, BoxQ.made h1.size⟩
    -- 10: Op.store 35 t7 t25
    apply Stage3.stepD (fun γ => OutT wb.heap.size n n2 (· < wb.heap.size) st.d st.sn γ) false [false, false, false, false, false, false, false, false, true, true] true true (fun γ => OutT.keeps _ _ _ _ _ _ _) (fun h => by cases h) (by kernel_rfl)
    · intro γ w1 h1
      have h1 : Ext _ w1 := h1
      simp only [List.nil_append, List.cons_append, List.map_cons, List.map_nil, Sp3.at, Sp.pr, Given]
      rintro _ ⟨A8, c8, A11, c11, rfl, hd8, ho8⟩
      rintro _ ⟨rfl, go, rfl, hgo, hbx, hty⟩
      have hbx2 := hbx
      obtain ⟨hx1', ⟨e1, e2, e3, e4, e5, e6, x0, x1⟩, xf⟩ := hbx
      have f0 := xf 0
      have f1 := xf 1
      go_wp2_with fail
      refine ⟨rfl, rfl, buy_set2 (.inr hgo) hbx2 _ _ _ _ _ _, fun g e => ?_⟩
      obtain rfl : go = g := by injection e with e; injection e with e; injection e with e
      exact ⟨_, _, _, _, out_set hbx2 hty hd8 ho8 hgo (fun k hk => by omega)⟩
    apply Stage3.nil [false, true, true, false, false, true, true, false, false, true, true] (by kernel_rfl)
    intro γ w1 h1
    have h1 : (Buy wb.heap.size (fun _ => False)) _ w1 := h1
    simp only [List.nil_append, List.cons_append, List.map_cons, List.map_nil, Sp3.at, Sp.pr]
    refine Fin2.dead_ ?_
    intro dead0
    refine Fin2.is_ ?_
    refine Fin2.is_ ?_
    refine Fin2.dead_ ?_
    intro dead3
    refine Fin2.dead_ ?_
    intro dead4
    refine Fin2.is_ ?_
    refine Fin2.is_ ?_
    refine Fin2.dead_ ?_
    intro dead7
    refine Fin2.dead_ ?_
    intro dead8
    refine Fin2.step_ ?_
    rintro _ ⟨rfl, go, rfl, hgo, hbx, hty⟩
    refine Fin2.step_ ?_
    rintro _ hout
    refine Fin2.nil_ ?_
    go_simp
    obtain ⟨A', c', A3, c3, hO⟩ := hout go rfl
    have gq : Ext wb w1 := (Ext.refl wb).but h1.bux.but (Nat.le_refl _) (fun _ h => h.elim)
    replace zf : ∀ q, w1.frozen? ⟨w.heap.size + 2, q, none⟩ = false := fun q => frozen_ext gq (by simp only; omega) (zf q)
    have hsl1 := hsl.ext (g0.trans gq)
    replace s0 := gq.cell s0
    replace s1 := gq.cell s1
    replace v0 := gq.cell v0
    replace v1 := gq.cell v1
    replace v2 := gq.cell v2
    replace v3 := gq.cell v3
    replace v4 := gq.cell v4
    replace z0 := gq.cell z0
    replace z1 := gq.cell z1
    replace g0 := g0.trans gq
    clear h1 hout hbx hty
    obtain ⟨wq, rfl⟩ : ∃ q, q = w1 := ⟨_, rfl⟩
    have y0 := hO.y0
    have y1 := hO.y1
    have yf0 := hO.yf 0
    have yf1 := hO.yf 1
    have hgs := gq.size
    have gbq := gq
    clear gq
    have hgol := hO.lt
    have hgge := hO.ge
    go_wp2_with fail
    refine (ref_Find (hst.ext g0) HFI).mono ?_
    rintro e w1 ⟨rfl, h1⟩
    have hO1 := hO.ext h1
    replace zf : ∀ q, w1.frozen? ⟨w.heap.size + 2, q, none⟩ = false := fun q => frozen_ext h1 (show w.heap.size + 2 < wq.heap.size by omega) (zf q)
    replace s0 := h1.cell s0
    replace s1 := h1.cell s1
    replace v0 := h1.cell v0
    replace v1 := h1.cell v1
    replace v2 := h1.cell v2
    replace v3 := h1.cell v3
    replace v4 := h1.cell v4
    replace z0 := h1.cell z0
    replace z1 := h1.cell z1
    replace g0 := g0.trans h1
    have hgol1 := hO1.lt
    have hyf1 := hO1.yf
    replace y0 := hO1.y0
    replace y1 := hO1.y1
    clear h1
    obtain ⟨wf, rfl⟩ : ∃ q, q = w1 := ⟨_, rfl⟩
    have hw9 : w.heap.size ≤ wf.heap.size := g0.size
    have ha1 : Lst 2 (inR olR (· < wb.heap.size)) wf A2 p c2 (st.sn.take p) := (hl1v.ext (in_rep ol_rep _) g0).weak fun x cs q => ⟨q.1, fun k hk => by have := q.2 k hk; simp only at this; omega⟩
    have ha2 : Lst 2 (inR olR (· < wb.heap.size)) wf Ac L cc (st.sn.drop (p + 1)) := (hl2v.ext (in_rep ol_rep _) g0).weak fun x cs q => ⟨q.1, fun k hk => by have := q.2 k hk; simp only at this; omega⟩
    go_wp2_with fail
    refine wp_region_typed2 (R := But wf.heap.size (fun k => k = go)) Ext.steady (But.steady _ _) (fun _ _ => But.of_ext) rfl 110 rfl [0, 0, 2, 0, 14, 31, 0, 64, 0, 256, 960, 2047, 4095, 8191] 10240 (by kernel_rfl) ?_
    -- 0: Op.buildSlice 33 0 #[]
    apply Stage2.step (NilT) false [] true false (NilT.keeps) (no_keeps) (by kernel_rfl)
    · intro w1 h1
      have h1 : Ext _ w1 := h1
      simp only [List.nil_append, List.cons_append, List.map_cons, List.map_nil, Given]
      go_wp2_with fail
      exact ⟨rfl, rfl, Ext.alloc _ _, _, rfl⟩
    -- 1: Op.fieldAddr 35 t2 1
    apply Stage2.step (Is _) true [] true false (Is.keeps _) (fun _ => Is.keeps _) (by kernel_rfl)
    · intro w1 h1
      have h1 : Ext _ w1 := h1
      simp only [List.nil_append, List.cons_append, List.map_cons, List.map_nil, Given]
      go_wp2_with fail
      exact Post.isv (Ext.refl _) rfl rfl rfl
    -- 2: Op.load 33 t83
    apply Stage2.step (Is _) true [false, true] true false (Is.keeps _) (fun _ => Is.keeps _) (by kernel_rfl)
    · intro w1 h1
      have h1 : Ext _ w1 := h1
      simp only [List.nil_append, List.cons_append, List.map_cons, List.map_nil, Sp.pr, Given]
      rintro _ rfl
      have hq := h1.cell s1
      go_wp2_with fail
      exact Post.isv (Ext.refl _) rfl rfl rfl
    -- 3: Op.move t9
    apply Stage2.step (Is _) true [] true false (Is.keeps _) (fun _ => Is.keeps _) (by kernel_rfl)
    · intro w1 h1
      have h1 : Ext _ w1 := h1
      simp only [List.nil_append, List.cons_append, List.map_cons, List.map_nil, Given]
      go_wp2_with fail
      exact Post.isv (Ext.refl _) rfl rfl rfl
    -- 4: Op.slice 33 t84 none (some t85) none
    apply Stage2.step (Is _) true [false, false, true, true] true false (Is.keeps _) (fun _ => Is.keeps _) (by kernel_rfl)
    · intro w1 h1
      have h1 : Ext _ w1 := h1
      simp only [List.nil_append, List.cons_append, List.map_cons, List.map_nil, Sp.pr, Given]
      rintro _ rfl
      rintro _ rfl
      go_wp2_with fail
      exact Post.isv (Ext.refl _) rfl rfl rfl
    -- 5: Op.call { builtin append, args := #[t82, t86], argTypes := #[33, 33] }
    apply Stage2.step (OwnT wf.heap.size p (· < wb.heap.size) (st.sn.take p)) false [true, false, false, false, true] true false (OwnT.keeps _ _ _ _) (no_keeps) (by kernel_rfl)
    · intro w1 h1
      have h1 : Ext _ w1 := h1
      simp only [List.nil_append, List.cons_append, List.map_cons, List.map_nil, Sp.pr, Given]
      rintro _ ⟨A9, rfl⟩
      rintro _ rfl
      go_wp2_with (
        at_builtin
        refine wpList_append_lst4 (B := wf.heap.size) (in_rep ol_rep (· < wb.heap.size)) rfl _ _ _ _ rfl TOl j0 _ 40 under_ols hj0 hx0 hx1 hx2 rfl A9 0 0 [] rfl (OwnL.nil _ _ _ _) _ p (st.sn.take p) rfl (Feed.old (e := TOl) (n := 0) (xs := []) (in_rep ol_rep _) (OwnL.nil _ _ _ _) ha1 h1 under_ols) p (Nat.zero_add _) _ rfl (by simp only [maxLen]; omega) (by omega) h1.size ?_
        intro A6 c6 w6 ho6 hg6 hr6)
      exact ⟨rfl, rfl, grown_nil hg6, _, _, rfl, ho6⟩
    -- 6: Op.fieldAddr 35 t2 1
    apply Stage2.step (Is _) true [] true false (Is.keeps _) (fun _ => Is.keeps _) (by kernel_rfl)
    · intro w1 h1
      have h1 : Ext _ w1 := h1
      simp only [List.nil_append, List.cons_append, List.map_cons, List.map_nil, Given]
      go_wp2_with fail
      exact Post.isv (Ext.refl _) rfl rfl rfl
    -- 7: Op.load 33 t88
    apply Stage2.step (Is _) true [false, false, false, false, false, false, true] true false (Is.keeps _) (fun _ => Is.keeps _) (by kernel_rfl)
    · intro w1 h1
      have h1 : Ext _ w1 := h1
      simp only [List.nil_append, List.cons_append, List.map_cons, List.map_nil, Sp.pr, Given]
      rintro _ rfl
      have hq := h1.cell s1
      go_wp2_with fail
      exact Post.isv (Ext.refl _) rfl rfl rfl
    -- 8: Op.move t9
    apply Stage2.step (Is _) true [] true false (Is.keeps _) (fun _ => Is.keeps _) (by kernel_rfl)
    · intro w1 h1
      have h1 : Ext _ w1 := h1
      simp only [List.nil_append, List.cons_append, List.map_cons, List.map_nil, Given]
      go_wp2_with fail
      exact Post.isv (Ext.refl _) rfl rfl rfl
    -- 9: Op.binOp BinOp.add 3 t90 (const (1:i64)) 3
    apply Stage2.step (Is _) true [false, false, false, false, false, false, false, false, true] true false (Is.keeps _) (fun _ => Is.keeps _) (by kernel_rfl)
    · intro w1 h1
      have h1 : Ext _ w1 := h1
      simp only [List.nil_append, List.cons_append, List.map_cons, List.map_nil, Sp.pr, Given]
      rintro _ rfl
      go_wp2_with fail
      exact Post.isv (Ext.refl _) rfl rfl rfl
    -- 10: Op.slice 33 t89 (some t91) none none
    apply Stage2.step (Is _) true [false, false, false, false, false, false, false, true, false, true] true false (Is.keeps _) (fun _ => Is.keeps _) (by kernel_rfl)
    · intro w1 h1
      have h1 : Ext _ w1 := h1
      simp only [List.nil_append, List.cons_append, List.map_cons, List.map_nil, Sp.pr, Given]
      rintro _ rfl
      rintro _ rfl
      go_wp2_with fail
      exact Post.isv (Ext.refl _) rfl rfl rfl
    -- 11: Op.call { builtin append, args := #[t87, t92], argTypes := #[33, 33] }
    apply Stage2.step (RowO go wf.heap.size (p + L) (.slice A' n c') (.slice A3 n2 c3) (· < wb.heap.size) sn') false [false, false, false, false, false, true, false, false, false, false, true] true true (RowO.keeps _ _ _ _ _ _ _) (no_keeps) (by kernel_rfl)
    · intro w1 h1
      have h1 : Ext _ w1 := h1
      simp only [List.nil_append, List.cons_append, List.map_cons, List.map_nil, Sp.pr, Given]
      rintro _ ⟨A6, c6, rfl, h6⟩
      rintro _ rfl
      have hrow6 := h6.row_lt
      have hne : rowOf A6 c6 ≠ some go := fun e => by have := (hrow6 _ e).1; omega
      have x0 := h1.cell y0
      have x1 := h1.cell y1
      have hg1 : go < w1.heap.size := Nat.lt_of_lt_of_le hgol1 h1.size
      have xf : ∀ q, w1.frozen? ⟨go, q, none⟩ = false := fun q => frozen_ext h1 hgol1 (hyf1 q)
      go_wp2_with (
        at_builtin
        refine wpList_append_lst4 (B := wf.heap.size) (in_rep ol_rep (· < wb.heap.size)) rfl _ _ _ _ rfl TOl j0 _ 40 under_ols hj0 hx0 hx1 hx2 rfl A6 p c6 _ rfl h6 _ L (st.sn.drop (p + 1)) rfl (Feed.old (in_rep ol_rep _) h6 ha2 h1 under_ols) (p + L) rfl _ HSN.out (by simp only [maxLen]; omega) (by omega) h1.size ?_
        intro A7 c7 w7 ho7 hg7 hr7)
      exact ⟨rfl, rfl, But.grown (But.refl _ _ _) hg7 (fun g hg => .inr (hrow6 g hg).1), _, _, rfl, ho7, (fun e => by rcases hr7 with h | h; rw [h] at e; exact hne e; rw [h] at e; injection e with e; omega), cell_grown hg7 x0 hne, cell_grown hg7 x1 hne, (fun q => by
        have hbk : w7.heap[go]? = w1.heap[go]? := hg7.block go hg1 (fun e => hne e.symm)
        have := xf q
        unfold World.frozen? at this ⊢
        rw [hbk]
        exact this), Nat.lt_of_lt_of_le hg1 hg7.size⟩
    -- 12: Op.fieldAddr 35 t7 1
    apply Stage2.step (Is _) true [] false false (Is.keeps _) (fun _ => Is.keeps _) (by kernel_rfl)
    · intro w1 h1
      have h1 : (But wf.heap.size (fun k => k = go)) _ w1 := h1
      simp only [List.nil_append, List.cons_append, List.map_cons, List.map_nil, Given]
      go_wp2_with fail
      exact Post.isv (Ext.refl _) rfl rfl rfl
    -- 13: Op.store 33 t94 t93
    apply Stage2.step (SetO go wf.heap.size (p + L) (.slice A' n c') (· < wb.heap.size) sn') false [false, false, false, false, false, false, false, false, false, false, false, true, true] false true (SetO.keeps _ _ _ _ _ _) (no_keeps) (by kernel_rfl)
    · intro w1 h1
      have h1 : (But wf.heap.size (fun k => k = go)) _ w1 := h1
      simp only [List.nil_append, List.cons_append, List.map_cons, List.map_nil, Sp.pr, Given]
      rintro _ ⟨A7, c7, rfl, h7, hr7, q0, q1, qf, qs⟩
      rintro _ rfl
      have f1 := qf 1
      go_wp2_with fail
      refine ⟨rfl, rfl, But.setCell (S := fun k => k = go) (But.refl wf.heap.size (fun k => k = go) w1) (p := ⟨go, 1, none⟩) (.inl rfl) _, _, _, ?_, World.cell?_setCell_same _ _ _ q1, h7.setCell (in_rep ol_rep _) (p := ⟨go, 1, none⟩) _ hr7 (fun x cs hr k hk e => by have := hr.2 k hk; simp only at this e; omega)⟩
      rw [World.cell?_setCell_other _ _ _ _ (fun e => by injection e with e1 e2; omega)]; exact q0
    apply Stage2.nil [false, true, true, true, true, false, true, true, true, true, true, false, true, true] (by kernel_rfl)
    intro w1 h1
    have h1 : (But wf.heap.size (fun k => k = go)) _ w1 := h1
    simp only [List.nil_append, List.cons_append, List.map_cons, List.map_nil, Sp.pr]
    refine Fin2.dead_ ?_
    intro dead0
    refine Fin2.is_ ?_
    refine Fin2.is_ ?_
    refine Fin2.is_ ?_
    refine Fin2.is_ ?_
    refine Fin2.dead_ ?_
    intro dead5
    refine Fin2.is_ ?_
    refine Fin2.is_ ?_
    refine Fin2.is_ ?_
    refine Fin2.is_ ?_
    refine Fin2.is_ ?_
    refine Fin2.dead_ ?_
    intro dead11
    refine Fin2.is_ ?_
    refine Fin2.step_ ?_
    rintro _ ⟨A8, c8, e0, e1, h8⟩
    refine Fin2.nil_ ?_
    go_simp
    replace s0 := h1.cell s0 (by simp only; omega) (by simp only; omega)
    replace s1 := h1.cell s1 (by simp only; omega) (by simp only; omega)
    replace v0 := h1.cell v0 (by simp only; omega) (by simp only; omega)
    replace v1 := h1.cell v1 (by simp only; omega) (by simp only; omega)
    replace v2 := h1.cell v2 (by simp only; omega) (by simp only; omega)
    replace v3 := h1.cell v3 (by simp only; omega) (by simp only; omega)
    replace v4 := h1.cell v4 (by simp only; omega) (by simp only; omega)
    replace z0 := h1.cell z0 (by simp only; omega) (by simp only; omega)
    replace z1 := h1.cell z1 (by simp only; omega) (by simp only; omega)
    replace zf : ∀ q, w1.frozen? ⟨w.heap.size + 2, q, none⟩ = false := fun q => frozen_but h1 (by simp only; omega) (by simp only; omega) (by simp only; omega) (zf q)
    have hb7 : Byt U8 w1 wb.heap.size A' n c' st.d := ⟨hO1.dat.len, hO1.dat.own.but h1 (fun g hg => ⟨(hO1.dat.own.row_ge g hg).2, fun e => hO1.row_d (by rw [hg, e])⟩)⟩
    have hfin : StR w1 A' n c' A8 (p + L) c8 ⟨st.d, sn'⟩ := ⟨hb7.sl, h8.lst.weak fun x cs q => q.1⟩
    replace g0 := g0.but h1 g0.size (fun g e => by omega)
    clear hO hO1
    have hzlt : w.heap.size + 2 < w1.heap.size := World.block_lt_of_cell? _ _ z0
    have f0 := zf 0
    have f1 := zf 1
    go_wp2_with fail
    refine bodyPost_ret (v := .tuple #[stV A' n c' A8 (p + L) c8, .int .i64 0]) ?hres rfl ⟨_, _, _, _, _, _, rfl, ?hst, ?hxx⟩
    case hres => simp [results, Try.results55, go_sem, z0, z1]
    case hst => exact ((StR.f0 hfin).box (g := w.heap.size + 2) ⟨hzlt, ⟨_, _, _, _, _, _, z0, z1⟩, zf⟩ _ _).st
    case hxx => exact (g0.sets (by simp only; omega) _).sets (by simp only; omega) _
  · obtain ⟨p, hp1, hp2⟩ : ∃ p : Nat, findI st.sn s = (p : Int) ∧ p < st.sn.length := find_at (by
      have hck := hr.out
      rw [check_gone hre (by omega)] at hck
      split at hck
      · cases hck
      · assumption)
    have HFI := Lib.hid hp1
    have hgt := hst
    obtain ⟨ga, oa, x, cs, he, hx, ⟨Ax, nx, cx, rfl, sx0, hsx⟩, hax⟩ := hst.2.at2 ol_rep (i := p) (by omega) (by omega)
    obtain ⟨xn, xd⟩ := x
    simp only at hax sx0
    have hnx : nx ≤ 1000 := by have := hd _ (List.mem_of_getElem? hx); simp only at this; rw [sx0.len] at this; exact this
    have bx := sx0.n63
    obtain rfl : (⟨xd, st.sn⟩ : St) = S := by
      rw [← hS2]
      have e : (st.sn.getD (findN st s) ⟨s, []⟩).d = xd := by
        unfold findN
        rw [hp1, Int.toNat_natCast, List.getD_eq_getElem?_getD, hx]
        rfl
      simp only [applyS, show ¬ (7 : Int) = 1 by omega, show ¬ ((7 : Int) = 2 ∨ (7 : Int) = 3) by omega, show ¬ (7 : Int) = 4 by omega, show ¬ (7 : Int) = 5 by omega, show ¬ (7 : Int) = 6 by omega, if_false, if_true]
      rw [e]
    have hpn : p < n2 := by omega
    have hxl := sx0.len
    have hca1 := hax 1 _ rfl
    have HEA := Lib.hid he
    clear hS2 hre hp1 hx hax he hp2
    go_enter Try.func55, Try.ntmps55
    go_wp2_with fail
    refine (ref_Check (hst.ext g0) (hsl.ext g0) hs hr).mono ?_
    rintro e wb ⟨rfl, h1⟩
    replace zf : ∀ q, wb.frozen? ⟨w.heap.size + 2, q, none⟩ = false := fun q => frozen_ext h1 (by rw [hWs]; simp) (zf q)
    have hw1 : w.heap.size + 3 ≤ wb.heap.size := by have := h1.size; omega
    replace s0 := h1.cell s0
    replace s1 := h1.cell s1
    replace v0 := h1.cell v0
    replace v1 := h1.cell v1
    replace v2 := h1.cell v2
    replace v3 := h1.cell v3
    replace v4 := h1.cell v4
    replace z0 := h1.cell z0
    replace z1 := h1.cell z1
    replace g0 := g0.trans h1
    clear hW h1
    have hlo : Lst 2 (inR olR (· < wb.heap.size)) wb A2 n2 c2 st.sn := (hst.v.snaps.weak fun x cs q => ⟨q.1, fun k hk => Nat.lt_of_lt_of_le (q.2 k hk) g0.size⟩).ext (in_rep ol_rep _) g0
    have hsd := hst.1.ext g0
    go_wp2_with fail
    refine wp_region_typed3 (R := Buy wb.heap.size (fun _ => False)) Ext.steady (Buy.steady _ _) (fun _ _ => Buy.of_ext) rfl 110 rfl [0, 0, 2, 7, 0, 0, 32, 127, 255, 0, 1023] 1024 9 (by kernel_rfl) ?_
    -- 0: Op.buildSlice 22 0 #[]
    apply Stage3.step (NilT) false [] true false (NilT.keeps) (no_keeps) (by kernel_rfl)
    · intro γ w1 h1
      have h1 : Ext _ w1 := h1
      simp only [List.nil_append, List.cons_append, List.map_cons, List.map_nil, Given]
      go_wp2_with fail
      exact ⟨rfl, rfl, Ext.alloc _ _, _, rfl⟩
    -- 1: Op.fieldAddr 35 t2 0
    apply Stage3.step (Is _) true [] true false (Is.keeps _) (fun _ => Is.keeps _) (by kernel_rfl)
    · intro γ w1 h1
      have h1 : Ext _ w1 := h1
      simp only [List.nil_append, List.cons_append, List.map_cons, List.map_nil, Given]
      go_wp2_with fail
      exact Post.isv (Ext.refl _) rfl rfl rfl
    -- 2: Op.load 22 t18
    apply Stage3.step (Is _) true [false, true] true false (Is.keeps _) (fun _ => Is.keeps _) (by kernel_rfl)
    · intro γ w1 h1
      have h1 : Ext _ w1 := h1
      simp only [List.nil_append, List.cons_append, List.map_cons, List.map_nil, Sp3.at, Sp.pr, Given]
      rintro _ rfl
      have hq := h1.cell s0
      go_wp2_with fail
      exact Post.isv (Ext.refl _) rfl rfl rfl
    -- 3: Op.call { builtin append, args := #[t17, t19], argTypes := #[22, 22] }
    apply Stage3.step (ByoT wb.heap.size n st.d) false [true, false, true] true false (ByoT.keeps _ _ _) (no_keeps) (by kernel_rfl)
    · intro γ w1 h1
      have h1 : Ext _ w1 := h1
      simp only [List.nil_append, List.cons_append, List.map_cons, List.map_nil, Sp3.at, Sp.pr, Given]
      rintro _ ⟨A9, rfl⟩
      rintro _ rfl
      have hsr := hsd.ext h1
      go_wp2_with (
        at_builtin
        refine wpList_append_mine _ rfl _ _ _ _ rfl wb.heap.size U8 i8 _ 1 1 under_bytes hi8 hy0 hy1 hy2 rfl A9 0 0 _ rfl (Own.nil _ _ _ _ _) _ rfl n (st.d.map bv) (hsr.src under_bytes) (by simp only [maxLen]; omega) (by omega) h1.size ?_
        intro A6 c6 w6 hown6 hg6 _)
      exact ⟨rfl, rfl, grown_nil hg6, _, _, rfl, hdl, by simpa using hown6⟩
    -- 4: Op.buildSlice 33 0 #[]
    apply Stage3.step (NilT) false [] true false (NilT.keeps) (no_keeps) (by kernel_rfl)
    · intro γ w1 h1
      have h1 : Ext _ w1 := h1
      simp only [List.nil_append, List.cons_append, List.map_cons, List.map_nil, Given]
      go_wp2_with fail
      exact ⟨rfl, rfl, Ext.alloc _ _, _, rfl⟩
    -- 5: Op.fieldAddr 35 t2 1
    apply Stage3.step (Is _) true [] true false (Is.keeps _) (fun _ => Is.keeps _) (by kernel_rfl)
    · intro γ w1 h1
      have h1 : Ext _ w1 := h1
      simp only [List.nil_append, List.cons_append, List.map_cons, List.map_nil, Given]
      go_wp2_with fail
      exact Post.isv (Ext.refl _) rfl rfl rfl
    -- 6: Op.load 33 t22
    apply Stage3.step (Is _) true [false, false, false, false, false, true] true false (Is.keeps _) (fun _ => Is.keeps _) (by kernel_rfl)
    · intro γ w1 h1
      have h1 : Ext _ w1 := h1
      simp only [List.nil_append, List.cons_append, List.map_cons, List.map_nil, Sp3.at, Sp.pr, Given]
      rintro _ rfl
      have hq := h1.cell s1
      go_wp2_with fail
      exact Post.isv (Ext.refl _) rfl rfl rfl
    -- 7: Op.call { builtin append, args := #[t21, t23], argTypes := #[33, 33] }
    apply Stage3.step (OwnT wb.heap.size n2 (· < wb.heap.size) st.sn) false [false, false, false, false, true, false, true] true false (OwnT.keeps _ _ _ _) (no_keeps) (by kernel_rfl)
    · intro γ w1 h1
      have h1 : Ext _ w1 := h1
      simp only [List.nil_append, List.cons_append, List.map_cons, List.map_nil, Sp3.at, Sp.pr, Given]
      rintro _ ⟨A10, rfl⟩
      rintro _ rfl
      go_wp2_with (
        at_builtin
        refine wpList_append_lst4 (B := wb.heap.size) (in_rep ol_rep (· < wb.heap.size)) rfl _ _ _ _ rfl TOl j0 _ 40 under_ols hj0 hx0 hx1 hx2 rfl A10 0 0 [] rfl (OwnL.nil _ _ _ _) _ n2 st.sn rfl (Feed.old (e := TOl) (n := 0) (xs := []) (in_rep ol_rep _) (OwnL.nil _ _ _ _) hlo h1 under_ols) n2 (Nat.zero_add _) st.sn rfl (by simp only [maxLen]; omega) (by omega) h1.size ?_
        intro A7 c7 w7 ho7 hg7 hr7)
      exact ⟨rfl, rfl, grown_nil hg7, _, _, rfl, ho7⟩
    -- 8: Op.build 35 #[(0, t20), (1, t24)]
    apply Stage3.step (AgT wb.heap.size n n2 (· < wb.heap.size) st.d st.sn) false [false, false, false, true, false, false, false, true] true false (AgT.keeps _ _ _ _ _ _) (no_keeps) (by kernel_rfl)
    · intro γ w1 h1
      have h1 : Ext _ w1 := h1
      simp only [List.nil_append, List.cons_append, List.map_cons, List.map_nil, Sp3.at, Sp.pr, Given]
      rintro _ ⟨A6, c6, rfl, h6⟩
      rintro _ ⟨A7, c7, rfl, h7⟩
      go_wp2_with fail
      exact ⟨rfl, rfl, Ext.refl _, _, _, _, _, rfl, h6, h7⟩
    -- 9: Op.alloc 35
    apply Stage3.stepA (BoxQ wb.heap.size) true [] true false (BoxQ.keeps _) (fun _ => BoxQ.keeps2 _) (by kernel_rfl)
    · intro γ w1 h1
      have h1 : Ext _ w1 := h1
      simp only [List.nil_append, List.cons_append, List.map_cons, List.map_nil, Given]
      go_wp2_with fail
      exact ⟨rfl, rfl, Ext.alloc _ _, BoxQ.made h1.size⟩
    -- 10: Op.store 35 t7 t25
    apply Stage3.stepD (fun γ => OutT wb.heap.size n n2 (· < wb.heap.size) st.d st.sn γ) false [false, false, false, false, false, false, false, false, true, true] true true (fun γ => OutT.keeps _ _ _ _ _ _ _) (fun h => by cases h) (by kernel_rfl)
    · intro γ w1 h1
      have h1 : Ext _ w1 := h1
      simp only [List.nil_append, List.cons_append, List.map_cons, List.map_nil, Sp3.at, Sp.pr, Given]
      rintro _ ⟨A8, c8, A11, c11, rfl, hd8, ho8⟩
      rintro _ ⟨rfl, go, rfl, hgo, hbx, hty⟩
      have hbx2 := hbx
      obtain ⟨hx1', ⟨e1, e2, e3, e4, e5, e6, x0, x1⟩, xf⟩ := hbx
      have f0 := xf 0
      have f1 := xf 1
      go_wp2_with fail
      refine ⟨rfl, rfl, buy_set2 (.inr hgo) hbx2 _ _ _ _ _ _, fun g e => ?_⟩
      obtain rfl : go = g := by injection e with e; injection e with e; injection e with e
      exact ⟨_, _, _, _, out_set hbx2 hty hd8 ho8 hgo (fun k hk => by omega)⟩
    apply Stage3.nil [false, true, true, false, false, true, true, false, false, true, true] (by kernel_rfl)
    intro γ w1 h1
    have h1 : (Buy wb.heap.size (fun _ => False)) _ w1 := h1
    simp only [List.nil_append, List.cons_append, List.map_cons, List.map_nil, Sp3.at, Sp.pr]
    refine Fin2.dead_ ?_
    intro dead0
    refine Fin2.is_ ?_
    refine Fin2.is_ ?_
    refine Fin2.dead_ ?_
    intro dead3
    refine Fin2.dead_ ?_
    intro dead4
    refine Fin2.is_ ?_
    refine Fin2.is_ ?_
    refine Fin2.dead_ ?_
    intro dead7
    refine Fin2.dead_ ?_
    intro dead8
    refine Fin2.step_ ?_
    rintro _ ⟨rfl, go, rfl, hgo, hbx, hty⟩
    refine Fin2.step_ ?_
    rintro _ hout
    refine Fin2.nil_ ?_
    go_simp
    obtain ⟨A', c', A3, c3, hO⟩ := hout go rfl
    have gq : Ext wb w1 := (Ext.refl wb).but h1.bux.but (Nat.le_refl _) (fun _ h => h.elim)
    replace zf : ∀ q, w1.frozen? ⟨w.heap.size + 2, q, none⟩ = false := fun q => frozen_ext gq (by simp only; omega) (zf q)
    have hsl1 := hsl.ext (g0.trans gq)
    replace s0 := gq.cell s0
    replace s1 := gq.cell s1
    replace v0 := gq.cell v0
    replace v1 := gq.cell v1
    replace v2 := gq.cell v2
    replace v3 := gq.cell v3
    replace v4 := gq.cell v4
    replace z0 := gq.cell z0
    replace z1 := gq.cell z1
    replace g0 := g0.trans gq
    clear h1 hout hbx hty
    obtain ⟨wq, rfl⟩ : ∃ q, q = w1 := ⟨_, rfl⟩
    have y0 := hO.y0
    have y1 := hO.y1
    have yf0 := hO.yf 0
    have yf1 := hO.yf 1
    have hgs := gq.size
    have gbq := gq
    clear gq
    have he := HEA.out
    clear HEA
    subst he
    have x1 := g0.cell hca1
    have hsx1 := sx0.ext g0
    have hgol := hO.lt
    have hgge := hO.ge
    have hyf := hO.yf
    go_wp2_with fail
    refine wp_region_typed2 (R := But wq.heap.size (fun k => k = go)) Ext.steady (But.steady _ _) (fun _ _ => But.of_ext) rfl 110 rfl [0, 0, 2, 0, 0, 16, 56, 126, 254, 510, 1023, 2047, 4095] 4096 (by kernel_rfl) ?_
    -- 0: Op.buildSlice 22 0 #[]
    apply Stage2.step (NilT) false [] true false (NilT.keeps) (no_keeps) (by kernel_rfl)
    · intro w1 h1
      have h1 : Ext _ w1 := h1
      simp only [List.nil_append, List.cons_append, List.map_cons, List.map_nil, Given]
      go_wp2_with fail
      exact ⟨rfl, rfl, Ext.alloc _ _, _, rfl⟩
    -- 1: Op.fieldAddr 35 t2 1
    apply Stage2.step (Is _) true [] true false (Is.keeps _) (fun _ => Is.keeps _) (by kernel_rfl)
    · intro w1 h1
      have h1 : Ext _ w1 := h1
      simp only [List.nil_append, List.cons_append, List.map_cons, List.map_nil, Given]
      go_wp2_with fail
      exact Post.isv (Ext.refl _) rfl rfl rfl
    -- 2: Op.load 33 t98
    apply Stage2.step (Is _) true [false, true] true false (Is.keeps _) (fun _ => Is.keeps _) (by kernel_rfl)
    · intro w1 h1
      have h1 : Ext _ w1 := h1
      simp only [List.nil_append, List.cons_append, List.map_cons, List.map_nil, Sp.pr, Given]
      rintro _ rfl
      have hq := h1.cell s1
      go_wp2_with fail
      exact Post.isv (Ext.refl _) rfl rfl rfl
    -- 3: Op.load 35 t2
    apply Stage2.step (Is _) true [] true false (Is.keeps _) (fun _ => Is.keeps _) (by kernel_rfl)
    · intro w1 h1
      have h1 : Ext _ w1 := h1
      simp only [List.nil_append, List.cons_append, List.map_cons, List.map_nil, Given]
      have hq := h1.cell s0
      have hq2 := h1.cell s1
      go_wp2_with fail
      exact Post.isv (Ext.refl _) rfl rfl rfl
    -- 4: Op.fieldAddr 28 t3 4
    apply Stage2.step (Is _) true [] true false (Is.keeps _) (fun _ => Is.keeps _) (by kernel_rfl)
    · intro w1 h1
      have h1 : Ext _ w1 := h1
      simp only [List.nil_append, List.cons_append, List.map_cons, List.map_nil, Given]
      go_wp2_with fail
      exact Post.isv (Ext.refl _) rfl rfl rfl
    -- 5: Op.load 9 t101
    apply Stage2.step (Is _) true [false, false, false, false, true] true false (Is.keeps _) (fun _ => Is.keeps _) (by kernel_rfl)
    · intro w1 h1
      have h1 : Ext _ w1 := h1
      simp only [List.nil_append, List.cons_append, List.map_cons, List.map_nil, Sp.pr, Given]
      rintro _ rfl
      have hq := h1.cell v4
      go_wp2_with fail
      exact Post.isv (Ext.refl _) rfl rfl rfl
    -- 6: Op.call { value (Operand.func 78), args := #[t100, t102], argTypes := #[35, 9] }
    apply Stage2.step (Is (.int .i64 p)) true [false, false, false, true, false, true] true false (Is.keeps _) (fun _ => Is.keeps _) (by kernel_rfl)
    · intro w1 h1
      have h1 : Ext _ w1 := h1
      simp only [List.nil_append, List.cons_append, List.map_cons, List.map_nil, Sp.pr, Given]
      rintro _ rfl
      rintro _ rfl
      go_wp2_with fail
      refine (ref_Find (hst.ext (g0.trans h1)) HFI).mono ?_
      rintro e w30 ⟨rfl, gq⟩
      go_wp2_with fail
      exact Post.isv gq rfl rfl rfl
    -- 7: Op.indexAddr 33 t99 t103
    apply Stage2.step (Is _) true [false, false, true, false, false, false, true] true false (Is.keeps _) (fun _ => Is.keeps _) (by kernel_rfl)
    · intro w1 h1
      have h1 : Ext _ w1 := h1
      simp only [List.nil_append, List.cons_append, List.map_cons, List.map_nil, Sp.pr, Given]
      rintro _ rfl
      rintro _ rfl
      go_wp2_with fail
      exact Post.isv (Ext.refl _) rfl rfl rfl
    -- 8: Op.fieldAddr 42 t104 1
    apply Stage2.step (Is _) true [false, false, false, false, false, false, false, true] true false (Is.keeps _) (fun _ => Is.keeps _) (by kernel_rfl)
    · intro w1 h1
      have h1 : Ext _ w1 := h1
      simp only [List.nil_append, List.cons_append, List.map_cons, List.map_nil, Sp.pr, Given]
      rintro _ rfl
      go_wp2_with fail
      exact Post.isv (Ext.refl _) rfl rfl rfl
    -- 9: Op.load 22 t105
    apply Stage2.step (Is _) true [false, false, false, false, false, false, false, false, true] true false (Is.keeps _) (fun _ => Is.keeps _) (by kernel_rfl)
    · intro w1 h1
      have h1 : Ext _ w1 := h1
      simp only [List.nil_append, List.cons_append, List.map_cons, List.map_nil, Sp.pr, Given]
      rintro _ rfl
      have hq := h1.cell x1
      go_wp2_with fail
      exact Post.isv (Ext.refl _) rfl rfl rfl
    -- 10: Op.call { builtin append, args := #[t97, t106], argTypes := #[22, 22] }
    apply Stage2.step (ByoT wq.heap.size nx xd) false [true, false, false, false, false, false, false, false, false, true] true false (ByoT.keeps _ _ _) (no_keeps) (by kernel_rfl)
    · intro w1 h1
      have h1 : Ext _ w1 := h1
      simp only [List.nil_append, List.cons_append, List.map_cons, List.map_nil, Sp.pr, Given]
      rintro _ ⟨A9, rfl⟩
      rintro _ rfl
      have hsr := hsx1.ext h1
      go_wp2_with (
        at_builtin
        refine wpList_append_mine _ rfl _ _ _ _ rfl wq.heap.size U8 i8 _ 1 1 under_bytes hi8 hy0 hy1 hy2 rfl A9 0 0 _ rfl (Own.nil _ _ _ _ _) _ rfl nx (xd.map bv) (hsr.src under_bytes) (by simp only [maxLen]; omega) (by omega) h1.size ?_
        intro A6 c6 w6 hown6 hg6 _)
      exact ⟨rfl, rfl, grown_nil hg6, _, _, rfl, hxl, by simpa using hown6⟩
    -- 11: Op.fieldAddr 35 t7 0
    apply Stage2.step (Is _) true [] true false (Is.keeps _) (fun _ => Is.keeps _) (by kernel_rfl)
    · intro w1 h1
      have h1 : Ext _ w1 := h1
      simp only [List.nil_append, List.cons_append, List.map_cons, List.map_nil, Given]
      go_wp2_with fail
      exact Post.isv (Ext.refl _) rfl rfl rfl
    -- 12: Op.store 22 t108 t107
    apply Stage2.step (SetD go wq.heap.size nx (.slice A3 n2 c3) xd) false [false, false, false, false, false, false, false, false, false, false, true, true] true true (SetD.keeps _ _ _ _ _) (no_keeps) (by kernel_rfl)
    · intro w1 h1
      have h1 : Ext _ w1 := h1
      simp only [List.nil_append, List.cons_append, List.map_cons, List.map_nil, Sp.pr, Given]
      rintro _ ⟨A6, c6, rfl, h6⟩
      rintro _ rfl
      have x0 := h1.cell y0
      have x1 := h1.cell y1
      have f0 := frozen_ext h1 (p := ⟨go, 0, none⟩) hgol (hyf 0)
      go_wp2_with fail
      refine ⟨rfl, rfl, But.setCell (S := fun k => k = go) (But.refl wq.heap.size (fun k => k = go) w1) (p := ⟨go, 0, none⟩) (.inl rfl) _, _, _, World.cell?_setCell_same _ _ _ x0, ?_, h6.far (p := ⟨go, 0, none⟩) (fun g hg e => by have := (h6.own.row_ge g hg).1; simp only at e; omega) _⟩
      rw [World.cell?_setCell_other _ _ _ _ (fun e => by injection e with e1 e2; omega)]; exact x1
    apply Stage2.nil [false, true, true, true, true, true, true, true, true, true, false, true, true] (by kernel_rfl)
    intro w1 h1
    have h1 : (But wq.heap.size (fun k => k = go)) _ w1 := h1
    simp only [List.nil_append, List.cons_append, List.map_cons, List.map_nil, Sp.pr]
    refine Fin2.dead_ ?_
    intro dead0
    refine Fin2.is_ ?_
    refine Fin2.is_ ?_
    refine Fin2.is_ ?_
    refine Fin2.is_ ?_
    refine Fin2.is_ ?_
    refine Fin2.is_ ?_
    refine Fin2.is_ ?_
    refine Fin2.is_ ?_
    refine Fin2.is_ ?_
    refine Fin2.dead_ ?_
    intro dead10
    refine Fin2.is_ ?_
    refine Fin2.step_ ?_
    rintro _ ⟨A7, c7, q0, q1, h7⟩
    refine Fin2.nil_ ?_
    go_simp
    replace s0 := h1.cell s0 (by simp only; omega) (by simp only; omega)
    replace s1 := h1.cell s1 (by simp only; omega) (by simp only; omega)
    replace v0 := h1.cell v0 (by simp only; omega) (by simp only; omega)
    replace v1 := h1.cell v1 (by simp only; omega) (by simp only; omega)
    replace v2 := h1.cell v2 (by simp only; omega) (by simp only; omega)
    replace v3 := h1.cell v3 (by simp only; omega) (by simp only; omega)
    replace v4 := h1.cell v4 (by simp only; omega) (by simp only; omega)
    replace z0 := h1.cell z0 (by simp only; omega) (by simp only; omega)
    replace z1 := h1.cell z1 (by simp only; omega) (by simp only; omega)
    replace zf : ∀ q, w1.frozen? ⟨w.heap.size + 2, q, none⟩ = false := fun q => frozen_but h1 (by simp only; omega) (by simp only; omega) (by simp only; omega) (zf q)
    have ho7 : OwnL TOl 2 (inR olR (· < wb.heap.size)) w1 wb.heap.size A3 n2 c3 st.sn := hO.olds.keepBut (in_rep ol_rep _) h1 (Nat.le_refl _) (fun g hg e => hO.row_o (by rw [hg, e])) (fun x cs hr k hk e => by have := hr.2 k hk; omega)
    have hfin : StR w1 A7 nx c7 A3 n2 c3 ⟨xd, st.sn⟩ := ⟨h7.sl, ho7.lst.weak fun x cs q => q.1⟩
    replace g0 := g0.but h1 g0.size (fun g e => by omega)
    clear hO
    have hzlt : w.heap.size + 2 < w1.heap.size := World.block_lt_of_cell? _ _ z0
    have f0 := zf 0
    have f1 := zf 1
    go_wp2_with fail
    refine bodyPost_ret (v := .tuple #[stV A7 nx c7 A3 n2 c3, .int .i64 0]) ?hres rfl ⟨_, _, _, _, _, _, rfl, ?hst, ?hxx⟩
    case hres => simp [results, Try.results55, go_sem, z0, z1]
    case hst => exact ((StR.f0 hfin).box (g := w.heap.size + 2) ⟨hzlt, ⟨_, _, _, _, _, _, z0, z1⟩, zf⟩ _ _).st
    case hxx => exact (g0.sets (by simp only; omega) _).sets (by simp only; omega) _
  · obtain rfl : st = S := by rw [← hS2]; simp [applyS]
    clear hS2 hre
    go_enter Try.func55, Try.ntmps55
    go_wp2_with fail
    refine (ref_Check (hst.ext g0) (hsl.ext g0) hs hr).mono ?_
    rintro e wb ⟨rfl, h1⟩
    replace zf : ∀ q, wb.frozen? ⟨w.heap.size + 2, q, none⟩ = false := fun q => frozen_ext h1 (by rw [hWs]; simp) (zf q)
    have hw1 : w.heap.size + 3 ≤ wb.heap.size := by have := h1.size; omega
    replace s0 := h1.cell s0
    replace s1 := h1.cell s1
    replace v0 := h1.cell v0
    replace v1 := h1.cell v1
    replace v2 := h1.cell v2
    replace v3 := h1.cell v3
    replace v4 := h1.cell v4
    replace z0 := h1.cell z0
    replace z1 := h1.cell z1
    replace g0 := g0.trans h1
    clear hW h1
    have hlo : Lst 2 (inR olR (· < wb.heap.size)) wb A2 n2 c2 st.sn := (hst.v.snaps.weak fun x cs q => ⟨q.1, fun k hk => Nat.lt_of_lt_of_le (q.2 k hk) g0.size⟩).ext (in_rep ol_rep _) g0
    have hsd := hst.1.ext g0
    go_wp2_with fail
    refine wp_region_typed3 (R := Buy wb.heap.size (fun _ => False)) Ext.steady (Buy.steady _ _) (fun _ _ => Buy.of_ext) rfl 110 rfl [0, 0, 2, 7, 0, 0, 32, 127, 255, 0, 1023] 1024 9 (by kernel_rfl) ?_
    -- 0: Op.buildSlice 22 0 #[]
    apply Stage3.step (NilT) false [] true false (NilT.keeps) (no_keeps) (by kernel_rfl)
    · intro γ w1 h1
      have h1 : Ext _ w1 := h1
      simp only [List.nil_append, List.cons_append, List.map_cons, List.map_nil, Given]
      go_wp2_with fail
      exact ⟨rfl, rfl, Ext.alloc _ _, _, rfl⟩
    -- 1: Op.fieldAddr 35 t2 0
    apply Stage3.step (Is _) true [] true false (Is.keeps _) (fun _ => Is.keeps _) (by kernel_rfl)
    · intro γ w1 h1
      have h1 : Ext _ w1 := h1
      simp only [List.nil_append, List.cons_append, List.map_cons, List.map_nil, Given]
      go_wp2_with fail
      exact Post.isv (Ext.refl _) rfl rfl rfl
    -- 2: Op.load 22 t18
    apply Stage3.step (Is _) true [false, true] true false (Is.keeps _) (fun _ => Is.keeps _) (by kernel_rfl)
    · intro γ w1 h1
      have h1 : Ext _ w1 := h1
      simp only [List.nil_append, List.cons_append, List.map_cons, List.map_nil, Sp3.at, Sp.pr, Given]
      rintro _ rfl
      have hq := h1.cell s0
      go_wp2_with fail
      exact Post.isv (Ext.refl _) rfl rfl rfl
    -- 3: Op.call { builtin append, args := #[t17, t19], argTypes := #[22, 22] }
    apply Stage3.step (ByoT wb.heap.size n st.d) false [true, false, true] true false (ByoT.keeps _ _ _) (no_keeps) (by kernel_rfl)
    · intro γ w1 h1
      have h1 : Ext _ w1 := h1
      simp only [List.nil_append, List.cons_append, List.map_cons, List.map_nil, Sp3.at, Sp.pr, Given]
      rintro _ ⟨A9, rfl⟩
      rintro _ rfl
      have hsr := hsd.ext h1
      go_wp2_with (
        at_builtin
        refine wpList_append_mine _ rfl _ _ _ _ rfl wb.heap.size U8 i8 _ 1 1 under_bytes hi8 hy0 hy1 hy2 rfl A9 0 0 _ rfl (Own.nil _ _ _ _ _) _ rfl n (st.d.map bv) (hsr.src under_bytes) (by simp only [maxLen]; omega) (by omega) h1.size ?_
        intro A6 c6 w6 hown6 hg6 _)
      exact ⟨rfl, rfl, grown_nil hg6, _, _, rfl, hdl, by simpa using hown6⟩
    -- 4: Op.buildSlice 33 0 #[]
    apply Stage3.step (NilT) false [] true false (NilT.keeps) (no_keeps) (by kernel_rfl)
    · intro γ w1 h1
      have h1 : Ext _ w1 := h1
      simp only [List.nil_append, List.cons_append, List.map_cons, List.map_nil, Given]
      go_wp2_with fail
      exact ⟨rfl, rfl, Ext.alloc _ _, _, rfl⟩
    -- 5: Op.fieldAddr 35 t2 1
    apply Stage3.step (Is _) true [] true false (Is.keeps _) (fun _ => Is.keeps _) (by kernel_rfl)
    · intro γ w1 h1
      have h1 : Ext _ w1 := h1
      simp only [List.nil_append, List.cons_append, List.map_cons, List.map_nil, Given]
      go_wp2_with fail
      exact Post.isv (Ext.refl _) rfl rfl rfl
    -- 6: Op.load 33 t22
    apply Stage3.step (Is _) true [false, false, false, false, false, true] true false (Is.keeps _) (fun _ => Is.keeps _) (by kernel_rfl)
    · intro γ w1 h1
      have h1 : Ext _ w1 := h1
      simp only [List.nil_append, List.cons_append, List.map_cons, List.map_nil, Sp3.at, Sp.pr, Given]
      rintro _ rfl
      have hq := h1.cell s1
      go_wp2_with fail
      exact Post.isv (Ext.refl _) rfl rfl rfl
    -- 7: Op.call { builtin append, args := #[t21, t23], argTypes := #[33, 33] }
    apply Stage3.step (OwnT wb.heap.size n2 (· < wb.heap.size) st.sn) false [false, false, false, false, true, false, true] true false (OwnT.keeps _ _ _ _) (no_keeps) (by kernel_rfl)
    · intro γ w1 h1
      have h1 : Ext _ w1 := h1
      simp only [List.nil_append, List.cons_append, List.map_cons, List.map_nil, Sp3.at, Sp.pr, Given]
      rintro _ ⟨A10, rfl⟩
      rintro _ rfl
      go_wp2_with (
        at_builtin
        refine wpList_append_lst4 (B := wb.heap.size) (in_rep ol_rep (· < wb.heap.size)) rfl _ _ _ _ rfl TOl j0 _ 40 under_ols hj0 hx0 hx1 hx2 rfl A10 0 0 [] rfl (OwnL.nil _ _ _ _) _ n2 st.sn rfl (Feed.old (e := TOl) (n := 0) (xs := []) (in_rep ol_rep _) (OwnL.nil _ _ _ _) hlo h1 under_ols) n2 (Nat.zero_add _) st.sn rfl (by simp only [maxLen]; omega) (by omega) h1.size ?_
        intro A7 c7 w7 ho7 hg7 hr7)
      exact ⟨rfl, rfl, grown_nil hg7, _, _, rfl, ho7⟩
    -- 8: Op.build 35 #[(0, t20), (1, t24)]
    apply Stage3.step (AgT wb.heap.size n n2 (· < wb.heap.size) st.d st.sn) false [false, false, false, true, false, false, false, true] true false (AgT.keeps _ _ _ _ _ _) (no_keeps) (by kernel_rfl)
    · intro γ w1 h1
      have h1 : Ext _ w1 := h1
      simp only [List.nil_append, List.cons_append, List.map_cons, List.map_nil, Sp3.at, Sp.pr, Given]
      rintro _ ⟨A6, c6, rfl, h6⟩
      rintro _ ⟨A7, c7, rfl, h7⟩
      go_wp2_with fail
      exact ⟨rfl, rfl, Ext.refl _, _, _, _, _, rfl, h6, h7⟩
    -- 9: Op.alloc 35
    apply Stage3.stepA (BoxQ wb.heap.size) true [] true false (BoxQ.keeps _) (fun _ => BoxQ.keeps2 _) (by kernel_rfl)
    · intro γ w1 h1
      have h1 : Ext _ w1 := h1
      simp only [List.nil_append, List.cons_append, List.map_cons, List.map_nil, Given]
      go_wp2_with fail
      exact ⟨rfl, rfl, Ext.alloc _ _, BoxQ.made h1.size⟩
    -- 10: Op.store 35 t7 t25
    apply Stage3.stepD (fun γ => OutT wb.heap.size n n2 (· < wb.heap.size) st.d st.sn γ) false [false, false, false, false, false, false, false, false, true, true] true true (fun γ => OutT.keeps _ _ _ _ _ _ _) (fun h => by cases h) (by kernel_rfl)
    · intro γ w1 h1
      have h1 : Ext _ w1 := h1
      simp only [List.nil_append, List.cons_append, List.map_cons, List.map_nil, Sp3.at, Sp.pr, Given]
      rintro _ ⟨A8, c8, A11, c11, rfl, hd8, ho8⟩
      rintro _ ⟨rfl, go, rfl, hgo, hbx, hty⟩
      have hbx2 := hbx
      obtain ⟨hx1', ⟨e1, e2, e3, e4, e5, e6, x0, x1⟩, xf⟩ := hbx
      have f0 := xf 0
      have f1 := xf 1
      go_wp2_with fail
      refine ⟨rfl, rfl, buy_set2 (.inr hgo) hbx2 _ _ _ _ _ _, fun g e => ?_⟩
      obtain rfl : go = g := by injection e with e; injection e with e; injection e with e
      exact ⟨_, _, _, _, out_set hbx2 hty hd8 ho8 hgo (fun k hk => by omega)⟩
    apply Stage3.nil [false, true, true, false, false, true, true, false, false, true, true] (by kernel_rfl)
    intro γ w1 h1
    have h1 : (Buy wb.heap.size (fun _ => False)) _ w1 := h1
    simp only [List.nil_append, List.cons_append, List.map_cons, List.map_nil, Sp3.at, Sp.pr]
    refine Fin2.dead_ ?_
    intro dead0
    refine Fin2.is_ ?_
    refine Fin2.is_ ?_
    refine Fin2.dead_ ?_
    intro dead3
    refine Fin2.dead_ ?_
    intro dead4
    refine Fin2.is_ ?_
    refine Fin2.is_ ?_
    refine Fin2.dead_ ?_
    intro dead7
    refine Fin2.dead_ ?_
    intro dead8
    refine Fin2.step_ ?_
    rintro _ ⟨rfl, go, rfl, hgo, hbx, hty⟩
    refine Fin2.step_ ?_
    rintro _ hout
    refine Fin2.nil_ ?_
    go_simp
    obtain ⟨A', c', A3, c3, hO⟩ := hout go rfl
    have gq : Ext wb w1 := (Ext.refl wb).but h1.bux.but (Nat.le_refl _) (fun _ h => h.elim)
    replace zf : ∀ q, w1.frozen? ⟨w.heap.size + 2, q, none⟩ = false := fun q => frozen_ext gq (by simp only; omega) (zf q)
    have hsl1 := hsl.ext (g0.trans gq)
    replace s0 := gq.cell s0
    replace s1 := gq.cell s1
    replace v0 := gq.cell v0
    replace v1 := gq.cell v1
    replace v2 := gq.cell v2
    replace v3 := gq.cell v3
    replace v4 := gq.cell v4
    replace z0 := gq.cell z0
    replace z1 := gq.cell z1
    replace g0 := g0.trans gq
    clear h1 hout hbx hty
    obtain ⟨wq, rfl⟩ : ∃ q, q = w1 := ⟨_, rfl⟩
    have y0 := hO.y0
    have y1 := hO.y1
    have yf0 := hO.yf 0
    have yf1 := hO.yf 1
    have hgs := gq.size
    have gbq := gq
    clear gq
    have hfin : StR wq A' n c' A3 n2 c3 st := hO.st
    have hzlt : w.heap.size + 2 < wq.heap.size := World.block_lt_of_cell? _ _ z0
    have f0 := zf 0
    have f1 := zf 1
    go_wp2_with fail
    refine bodyPost_ret (v := .tuple #[stV A' n c' A3 n2 c3, .int .i64 0]) ?hres rfl ⟨_, _, _, _, _, _, rfl, ?hst, ?hxx⟩
    case hres => simp [results, Try.results55, go_sem, z0, z1]
    case hst => exact ((StR.f0 hfin).box (g := w.heap.size + 2) ⟨hzlt, ⟨_, _, _, _, _, _, z0, z1⟩, zf⟩ _ _).st
    case hxx => exact (g0.sets (by simp only; omega) _).sets (by simp only; omega) _
end Go.Proofs.Ytcklkjklepmabaa
