/-
  Chapter 11: the statement ScanCuts, walked.
-/
import Derived.Test.YtcchlkialgjamaaScanLaw
import Derived.Test.YtcchlkialgjamaaScanRows
import Derived.Test.YtcchlkialgjamaaCutsPlain
import Derived.Test.YtcchlkialgjamaaMask
import Derived.Test.YtcchlkialgjamaaCutL
import Derived.Test.YtcchlkialgjamaaRwsT
import Derived.Test.YtcchlkialgjamaaSameEn
import Derived.Test.YtcchlkialgjamaaAppL
namespace Go.Proofs.Ytcchlkialgjamaa
open Go.RowKit
set_option linter.unusedVariables false
set_option linter.unusedSimpArgs false
set_option linter.unnecessarySimpa false
set_option maxRecDepth 100000

theorem shortC_rows {N : Nat} {ds : List (List UInt8)} {s : Int} (h : ds.length ≤ 100) : ShortF (rowsOf N (ensF s ds)) := fun r hr => by
  obtain ⟨j, hj⟩ := List.getElem?_of_mem hr
  have := rowsOf_small hj ensF_small
  rw [ensF_len] at this
  omega
theorem shortC_set {rows : List (List UInt8)} (h : ShortF rows) {j : Nat} {r : List UInt8} (hr : r.length ≤ 10000) : ShortF (rows.set j r) := fun x hx => by
  rcases List.mem_or_eq_of_mem_set hx with hx | rfl
  · exact h x hx
  · exact hr
theorem Tailed.small {N i : Nat} {ds : List (List UInt8)} {s : Int} {rows : List (List UInt8)} {r : List UInt8} (h : Tailed N (ensF s ds) i rows) (hr : rows[i]? = some r) : r.length ≤ ds.length * 62 := by
  obtain ⟨t, h1, _, h3⟩ := h.2 i r hr
  obtain rfl := h3 (Nat.le_refl _)
  rw [List.append_nil] at h1
  have hl : i < (rowsOf N (ensF s ds)).length := by rw [rowsOf_len, ← h.1]; exact (List.getElem?_eq_some_iff.1 hr).1
  have e := rowsOf_get (List.getElem?_eq_getElem hl)
  have := rowsOf_small (List.getElem?_eq_getElem hl) ensF_small
  rw [e, ← h1, ensF_len] at this
  exact this
theorem endsC_at {rows : List (List UInt8)} {last : Int} {k : Nat} {r : List UInt8} (h : rows[k]? = some r) : (endsL rows last)[k]? = some (endL r last : Int) := by
  unfold endsL
  rw [List.getElem?_map, h]
  rfl
theorem map_nextC {α β : Type} {f : α → β} {xs : List α} {k : Nat} {x : α} (h : xs[k]? = some x) : (xs.take (k + 1)).map f = (xs.take k).map f ++ [f x] := by
  rw [List.take_add_one, h]
  simp
theorem sameEn_selfC (xs : List En) : sameEn xs xs = true := by unfold sameEn; simp
theorem Ext.drewNC {a w : World} (h : Ext a w) (n : Nat) : Ext a (w.drewN n) := Ext.trans h ⟨rfl, rfl, rfl, Nat.le_refl _, fun _ _ => rfl⟩
/-- a row of one row, written down; the row lies below a bound -/
def CutT (B : Nat) (x : List UInt8) : Ty := fun v w => ∃ g A n c, v = .slice (some ⟨g, 0, none⟩) 1 1 ∧ w.cell? ⟨g, 0, none⟩ = some (.slice A n c) ∧ Sl w A n c x ∧ ∀ ad, A = some ad → 0 < n → ad.block < B
theorem CutT.keeps (B : Nat) (x : List UInt8) : Keeps Ext (CutT B x) := fun _ _ _ hx ⟨g, A, n, c, e, h1, h2, h3⟩ => ⟨g, A, n, c, e, hx.cell h1, h2.ext hx, h3⟩
theorem CutT.feed {B : Nat} {x : List UInt8} {w : World} {g n c : Nat} {A : Option Addr} (h1 : w.cell? ⟨g, 0, none⟩ = some (.slice A n c)) (h2 : Sl w A n c x) (h3 : ∀ ad, A = some ad → 0 < n → ad.block < B)
    {A2 : Option Addr} {c2 : Nat} (hrow : ∀ q, rowOf A2 c2 = some q → B ≤ q) : Feed Try.prog 1 blR w 48 A2 c2 (.slice (some ⟨g, 0, none⟩) 1 1) 1 [x] := by
  refine ⟨rfl, [[.slice A n c]], .cons ⟨A, n, c, rfl, h2⟩ .nil, ?_, fun cs hcs k hk e => ?_⟩
  · refine Src.ofSlice (P := Try.prog) _ under_rows _ 1 1 _ rfl (fun j u hu => ?_) (fun u hu => by simp at hu; subst hu; rfl)
    rcases j with _ | j
    · simp at hu
      subst hu
      simpa [Addr.add] using h1
    · simp at hu
  · simp at hcs
    subst hcs
    obtain ⟨ad, e1, e2, rfl⟩ := pts_row hk
    have := h3 ad e1 e2
    have := hrow _ e
    omega
def RowsT (B n : Nat) (xs : List (List UInt8)) : Ty := fun v w => ∃ A c, v = .slice A n c ∧ OwnL TRow 1 blR w B A n c xs
theorem RowsT.keeps (B n : Nat) (xs : List (List UInt8)) : Keeps Ext (RowsT B n xs) := fun _ _ _ hx ⟨A, c, e, h⟩ => ⟨A, c, e, h.ext bl_rep hx⟩
set_option maxHeartbeats 8000000 in
theorem law_ScanCuts (A : Option Addr) (n c : Nat) (data : List (List UInt8)) (a1 a2 a3 : Int) (At : Option Addr) (nt ct : Nat) (tl : List (List UInt8)) (w : World) (hl : Lst 1 blR w A n c data) (ht : Lst 1 blR w At nt ct tl) :
    Calls Try.prog 13 #[.slice A n c, .int .i64 a1, .int .i64 a2, .int .i64 a3, .slice At nt ct] w fun e w' => e = .returned (.bool true) ∧ Ext w w' := by
  have h63 := hl.n63
  have ht63 := ht.n63
  obtain ⟨res, hres⟩ : ∃ q, fewB data = q := ⟨_, rfl⟩
  obtain ⟨res2, hres2⟩ : ∃ q, fewB tl = q := ⟨_, rfl⟩
  have HR := Lib.hid hres
  have HR2 := Lib.hid hres2
  cases res with
  | false =>
    clear hres hres2
    go_enter Try.func13, Try.ntmps13
    go_wp2_with fail
    refine (law11_few hl HR).mono ?_
    rintro e u1 ⟨rfl, hx1⟩
    go_wp2_with fail
    refine (law11_known u1).mono ?_
    rintro e u2 ⟨rfl, hx2⟩
    go_wp2_with fail
    go_ret
    exact ⟨rfl, hx1.trans hx2⟩
  | true =>
  cases res2 with
  | false =>
    clear hres hres2
    go_enter Try.func13, Try.ntmps13
    go_wp2_with fail
    refine (law11_few hl HR).mono ?_
    rintro e u1 ⟨rfl, hx1⟩
    go_wp2_with fail
    refine (law11_few (ht.ext bl_rep hx1) HR2).mono ?_
    rintro e u2 ⟨rfl, hx2⟩
    go_wp2_with fail
    refine (law11_known u2).mono ?_
    rintro e u3 ⟨rfl, hx3⟩
    go_wp2_with fail
    go_ret
    exact ⟨rfl, (hx1.trans hx2).trans hx3⟩
  | true =>
  have hn : n ≤ 40 := by have := (fewB_iff.1 hres).2.1; rw [hl.len] at this; exact this
  have hnt : nt ≤ 40 := by have := (fewB_iff.1 hres2).2.1; rw [ht.len] at this; exact this
  have HTL := Lib.hid (fewB_iff.1 hres2).1
  have hdl := hl.len
  obtain ⟨s0, hs0, hs0b⟩ : ∃ p : Nat, bits BinOp.and IntKind.i64 a1 65535 = (p : Int) ∧ p ≤ 65535 := ⟨(a1 % 65536).toNat, by rw [and65535]; omega, by omega⟩
  obtain ⟨N0, hN0, hN0b⟩ : ∃ p : Nat, bits BinOp.and IntKind.i64 a2 3 = (p : Int) ∧ p ≤ 3 := ⟨(a2 % 4).toNat, by rw [and3]; omega, by omega⟩
  obtain ⟨l0, hl0, hl0b⟩ : ∃ p : Nat, bits BinOp.and IntKind.i64 a3 63 = (p : Int) ∧ p ≤ 63 := ⟨(a3 % 64).toNat, by rw [and63]; omega, by omega⟩
  obtain ⟨s, hs⟩ : ∃ s, s = s0 + 1 := ⟨_, rfl⟩
  obtain ⟨N, hN⟩ : ∃ N, N = N0 + 1 := ⟨_, rfl⟩
  have hs1 : 1 + (s0 : Int) = (s : Int) := by omega
  have hN1 : 1 + (N0 : Int) = (N : Int) := by omega
  have hsb : 1 ≤ s ∧ s ≤ 65536 := by omega
  have hNb : 1 ≤ N ∧ N ≤ 4 := by omega
  obtain ⟨la, hla⟩ : ∃ la : Int, (s : Int) + (l0 : Int) - 1 = la := ⟨_, rfl⟩
  have hlab : la ≤ 100000 ∧ 0 ≤ la := by omega
  have hER := ensF_right (ds := data) (s := (s : Int)) (by omega) (by omega) (by omega)
  have hSH := shortC_rows (N := N) (ds := data) (s := (s : Int)) (by omega)
  have hT0 := tailed_zero N (ensF (s : Int) data)
  have hsm := fun (i : Nat) (rows : List (List UInt8)) (r : List UInt8) => Tailed.small (N := N) (i := i) (ds := data) (s := (s : Int)) (rows := rows) (r := r)
  obtain ⟨mm, hmm⟩ : ∃ m, m = min n l0 := ⟨_, rfl⟩
  have hCM := cuts_merge (N := N) (ds := data) (s := (s : Int)) (last := la) (n := mm) (by omega) (by omega) (by omega) (by omega) (by rw [hmm, hdl]; congr 1; omega)
  have hCT := cut_torn (N := N) (ds := data) (s := (s : Int)) (last := la) (by omega) (by omega) (by omega) (by omega)
  have hXL := ensF_len data (s : Int)
  rw [hdl] at hXL hsm
  obtain ⟨XS, hXS⟩ : ∃ q, ensF (s : Int) data = q := ⟨_, rfl⟩
  rw [hXS] at hER hSH hT0 hsm hCM hCT hXL
  obtain ⟨CT, hCTE⟩ : ∃ q, rowsOf N (XS.filter fun f => decide (f.s ≤ la)) = q := ⟨_, rfl⟩
  rw [hCTE] at hCM hCT
  have HCTE := Lib.hid hCTE
  have HXS := Lib.hid hXS
  have HER := Lib.hid hER
  have HSH0 := Lib.hid hSH
  have HT0 := Lib.hid hT0
  have HSM := Lib.hid hsm
  have HCM := Lib.hid hCM
  have HCT := Lib.hid hCT
  have HXL := Lib.hid hXL
  have hdlb : data.length ≤ 40 := by omega
  clear hres hres2 hs hN hER hSH hT0 hsm hCM hCT hXL hXS hCTE hdl
  go_enter Try.func13, Try.ntmps13
  go_wp2_with fail
  refine (law11_few hl HR).mono ?_
  rintro e u0 ⟨rfl, hx0⟩
  go_wp2_with fail
  refine (law11_few (ht.ext bl_rep hx0) HR2).mono ?_
  rintro e u1 ⟨rfl, hx1'⟩
  have hx1 := hx0.trans hx1'
  clear HR HR2 hx0 hx1'
  go_wp2_with fail
  refine (law11_Rows (N := N) (s := s) (hl.ext bl_rep hx1) hn hsb.1 (by omega) hNb.1 hNb.2).mono ?_
  rintro e u2 ⟨g, V, rfl, hrw, hx2⟩
  rw [HXS.out] at hrw
  have gx2 := hx1.trans hx2
  have hrw0 := hrw.low hx1.size
  clear hs0 hN0 hs1 hN1 hrw hl hx1 hx2
  go_wp2_with fail
  go_loopw [12] (fun i wr => ∃ (i2 : Nat) (V : Spots) (rows : List (List UInt8)), i2 ≤ N ∧ i = .int .i64 i2 ∧ Rws wr w.heap.size g N V rows ∧ Hid (ShortF rows) ∧ Hid (Tailed N XS i2 rows) ∧ Ext w wr) (fun i _ => N - (intOf i).toNat)
  case atStart => exact ⟨0, V, _, by omega, rfl, hrw0, HSH0, HT0, gx2⟩
  case round =>
    clear hrw0 V HSH0 HT0
    obtain ⟨i2, V, rows, hi2, rfl, hrw, hsh, htl, hxr⟩ := hrel
    by_cases hlt : i2 < N ∧ i2 < nt
    · obtain ⟨hlt1, hlt2⟩ := hlt
      obtain ⟨Ao, no, co, r, hv, hro, c0, f0, hbo⟩ := hrw.at_ hlt1
      obtain ⟨gi, oi, t, Ax, nx, cx, rfl, hti, b0, hst⟩ := row_at ht hlt2
      replace b0 := hxr.cell b0
      replace hst := hst.ext hxr
      have hno : no ≤ 2480 := by have := HSM.out i2 rows r htl.out hro; rw [hbo.len] at this; omega
      have hnx : nx ≤ 1500 := by have := HTL.out t (List.mem_of_getElem? hti); rw [hst.len] at this; exact this
      have hNM := htl.out.num (t := t) hro HER.out
      have hNT : (allL (r ++ t)).2 = r.length → Tailed N XS (i2 + 1) (rows.set i2 (r ++ t)) := htl.out.next hro HER.out
      rw [hbo.len] at hNM hNT
      have htle := allL_le t
      rw [hst.len] at htle
      have hrl := hbo.len
      have htl2 := hst.len
      obtain ⟨q, hq⟩ : ∃ q, (allL (r ++ t)).2 = q := ⟨_, rfl⟩
      have hqb : q ≤ 4000 := by omega
      have HQ := Lib.hid hq
      rw [hq] at hNT
      have HNT := Lib.hid hNT
      have HSH := Lib.hid (shortC_set (j := i2) hsh.out (r := r ++ t) (by rw [List.length_append]; omega))
      have hgB := hrw.hB
      have hgl := hrw.lt
      have hng : rowOf Ao co ≠ some g := fun e => hrw.notg i2 g hlt1 (by rw [hv]; exact e) rfl
      have hro1 : ∀ q, rowOf Ao co = some q → w.heap.size ≤ q := fun q hq => (hbo.own.row_ge q hq).1
      have HRW := Lib.hid hrw
      have HRO1 := Lib.hid hro1
      have HV := Lib.hid hv
      have hRS : (rows.set i2 (r ++ t))[i2]? = some (r ++ t) := List.getElem?_set_self (List.getElem?_eq_some_iff.1 hro).1
      have HRS := Lib.hid hRS
      obtain ⟨iu, hiu, hu0, hu1, hu2⟩ := info_parts info_u8
      clear hrw hro1 hv hro hsh htl hNM hNT htle hq hti hRS
      obtain ⟨w5, rfl⟩ : ∃ q, q = wr := ⟨_, rfl⟩
      go_wp2_with fail
      refine wp_region_typed2 (R := But w.heap.size (fun _ => False)) Ext.steady (But.steady _ _) (fun _ _ => But.of_ext) rfl 170 rfl [0, 0, 0, 0, 12, 28, 0, 0, 192, 448, 1020, 2047, 4095] 5120 (by kernel_rfl) ?_
      -- 0: Op.move t11
      apply Stage2.step (Is _) true [] false false (Is.keeps _) (fun _ => Is.keeps _) (by kernel_rfl)
      · intro w1 h1
        have h1 : (But w.heap.size (fun _ => False)) _ w1 := h1
        simp only [List.nil_append, List.cons_append, List.map_cons, List.map_nil, Given]
        go_wp2_with fail
        exact Post.isv (Ext.refl _) rfl rfl rfl
      -- 1: Op.move t12
      apply Stage2.step (Is _) true [] false false (Is.keeps _) (fun _ => Is.keeps _) (by kernel_rfl)
      · intro w1 h1
        have h1 : (But w.heap.size (fun _ => False)) _ w1 := h1
        simp only [List.nil_append, List.cons_append, List.map_cons, List.map_nil, Given]
        go_wp2_with fail
        exact Post.isv (Ext.refl _) rfl rfl rfl
      -- 2: Op.move t11
      apply Stage2.step (Is _) true [] true false (Is.keeps _) (fun _ => Is.keeps _) (by kernel_rfl)
      · intro w1 h1
        have h1 : Ext _ w1 := h1
        simp only [List.nil_append, List.cons_append, List.map_cons, List.map_nil, Given]
        go_wp2_with fail
        exact Post.isv (Ext.refl _) rfl rfl rfl
      -- 3: Op.move t12
      apply Stage2.step (Is _) true [] true false (Is.keeps _) (fun _ => Is.keeps _) (by kernel_rfl)
      · intro w1 h1
        have h1 : Ext _ w1 := h1
        simp only [List.nil_append, List.cons_append, List.map_cons, List.map_nil, Given]
        go_wp2_with fail
        exact Post.isv (Ext.refl _) rfl rfl rfl
      -- 4: Op.indexAddr 48 t59 t60
      apply Stage2.step (Is _) true [false, false, true, true] true false (Is.keeps _) (fun _ => Is.keeps _) (by kernel_rfl)
      · intro w1 h1
        have h1 : Ext _ w1 := h1
        simp only [List.nil_append, List.cons_append, List.map_cons, List.map_nil, Sp.pr, Given]
        rintro _ rfl
        rintro _ rfl
        go_wp2_with fail
        exact Post.isv (Ext.refl _) rfl rfl rfl
      -- 5: Op.load 22 t61
      apply Stage2.step (Is _) true [false, false, false, false, true] true false (Is.keeps _) (fun _ => Is.keeps _) (by kernel_rfl)
      · intro w1 h1
        have h1 : Ext _ w1 := h1
        simp only [List.nil_append, List.cons_append, List.map_cons, List.map_nil, Sp.pr, Given]
        rintro _ rfl
        have hq := h1.cell c0
        go_wp2_with fail
        exact Post.isv (Ext.refl _) rfl rfl rfl
      -- 6: Op.move t4
      apply Stage2.step (Is _) true [] true false (Is.keeps _) (fun _ => Is.keeps _) (by kernel_rfl)
      · intro w1 h1
        have h1 : Ext _ w1 := h1
        simp only [List.nil_append, List.cons_append, List.map_cons, List.map_nil, Given]
        go_wp2_with fail
        exact Post.isv (Ext.refl _) rfl rfl rfl
      -- 7: Op.move t12
      apply Stage2.step (Is _) true [] true false (Is.keeps _) (fun _ => Is.keeps _) (by kernel_rfl)
      · intro w1 h1
        have h1 : Ext _ w1 := h1
        simp only [List.nil_append, List.cons_append, List.map_cons, List.map_nil, Given]
        go_wp2_with fail
        exact Post.isv (Ext.refl _) rfl rfl rfl
      -- 8: Op.indexAddr 48 t63 t64
      apply Stage2.step (Is _) true [false, false, false, false, false, false, true, true] true false (Is.keeps _) (fun _ => Is.keeps _) (by kernel_rfl)
      · intro w1 h1
        have h1 : Ext _ w1 := h1
        simp only [List.nil_append, List.cons_append, List.map_cons, List.map_nil, Sp.pr, Given]
        rintro _ rfl
        rintro _ rfl
        go_wp2_with fail
        exact Post.isv (Ext.refl _) rfl rfl rfl
      -- 9: Op.load 22 t65
      apply Stage2.step (Is _) true [false, false, false, false, false, false, false, false, true] true false (Is.keeps _) (fun _ => Is.keeps _) (by kernel_rfl)
      · intro w1 h1
        have h1 : Ext _ w1 := h1
        simp only [List.nil_append, List.cons_append, List.map_cons, List.map_nil, Sp.pr, Given]
        rintro _ rfl
        have hq := h1.cell b0
        go_wp2_with fail
        exact Post.isv (Ext.refl _) rfl rfl rfl
      -- 10: Op.call { builtin append, args := #[t62, t66], argTypes := #[22, 22] }
      apply Stage2.step (RAp w.heap.size g N 0 0 i2 (no + nx) (rows.set i2 (r ++ t))) false [false, false, false, false, false, true, false, false, false, true] true true (RAp.keeps _ _ _ _ _ _ _ _) (no_keeps) (by kernel_rfl)
      · intro w1 h1
        have h1 : Ext _ w1 := h1
        simp only [List.nil_append, List.cons_append, List.map_cons, List.map_nil, Sp.pr, Given]
        rintro _ rfl
        rintro _ rfl
        have hs1 := h1.size
        have hs2 := hxr.size
        have hbo3 := hbo.ext h1
        have hbo4 := hst.ext h1
        have z0 := h1.cell c0
        have zf : w1.frozen? ⟨g, i2, none⟩ = false := by
          have e : w1.frozen? ⟨g, i2, none⟩ = w5.frozen? ⟨g, i2, none⟩ := Below.frozen h1 hgl
          rw [e]; exact f0
        go_wp2_with (
          at_builtin
          refine wpList_append_mine _ rfl _ _ _ _ rfl w.heap.size U8 iu _ 1 1 under_bytes hiu hu0 hu1 hu2 rfl Ao no co _ rfl hbo3.own _ rfl nx (t.map bv) (hbo4.src under_bytes) (by simp only [maxLen]; omega) (by omega) (by omega) ?_
          intro A9 c9 w9 hown9 hg9 hr9)
        exact ⟨rfl, rfl, But.grown (But.refl _ _ _) hg9 (fun q hq => .inr (HRO1.out q hq)), A9, c9, _, _, rfl, (HRW.out.ext h1).grow hlt1 HV.out hg9 (Byt.more hbo3.len hbo4.len hown9 rfl) hr9, cell_grownW hg9 z0 hng, frozen_grownW hg9 (Nat.lt_of_lt_of_le hgl hs1) hng zf, fun _ _ _ _ => .inr (Nat.zero_le _)⟩
      -- 11: Op.indexAddr 48 t57 t58
      apply Stage2.step (Is _) true [true, true] false false (Is.keeps _) (fun _ => Is.keeps _) (by kernel_rfl)
      · intro w1 h1
        have h1 : (But w.heap.size (fun _ => False)) _ w1 := h1
        simp only [List.nil_append, List.cons_append, List.map_cons, List.map_nil, Sp.pr, Given]
        rintro _ rfl
        rintro _ rfl
        go_wp2_with fail
        exact Post.isv (Ext.refl _) rfl rfl rfl
      -- 12: Op.store 22 t68 t67
      apply Stage2.step (REn w.heap.size g N 0 0 (rows.set i2 (r ++ t))) false [false, false, false, false, false, false, false, false, false, false, true, true] false true (REn.keeps _ _ _ _ _ _) (no_keeps) (by kernel_rfl)
      · intro w1 h1
        have h1 : (But w.heap.size (fun _ => False)) _ w1 := h1
        simp only [List.nil_append, List.cons_append, List.map_cons, List.map_nil, Sp.pr, Given]
        rintro _ ⟨A9, c9, V9, u9, rfl, h9, y0, yf, yr⟩
        rintro _ rfl
        go_wp2_with fail
        exact ⟨rfl, rfl, But.setCell (p := ⟨g, i2, none⟩) (But.refl _ _ _) (.inr hgB) _, _, h9, yr⟩
      apply Stage2.nil [true, true, true, true, true, true, true, true, true, true, false, true, true] (by kernel_rfl)
      intro w1 h1
      have h1 : (But w.heap.size (fun _ => False)) _ w1 := h1
      simp only [List.nil_append, List.cons_append, List.map_cons, List.map_nil, Sp.pr]
      refine Fin2.is_ ?_
      refine Fin2.is_ ?_
      refine Fin2.is_ ?_
      refine Fin2.is_ ?_
      refine Fin2.is_ ?_
      refine Fin2.is_ ?_
      refine Fin2.is_ ?_
      refine Fin2.is_ ?_
      refine Fin2.is_ ?_
      refine Fin2.is_ ?_
      refine Fin2.dead_ ?_
      intro dead10
      refine Fin2.is_ ?_
      refine Fin2.step_ ?_
      rintro _ ⟨V12, h12, hin12⟩
      refine Fin2.nil_ ?_
      go_simp
      obtain ⟨wm, rfl⟩ : ∃ q, q = w1 := ⟨_, rfl⟩
      have gxm := hxr.but h1 (Nat.le_refl _) (fun _ h => h.elim)
      obtain ⟨A2, n2, c2, r2, hv2, hro2, k0, f2, hbo2⟩ := h12.at_ hlt1
      rw [HRS.out] at hro2
      injection hro2 with hro2
      subst hro2
      have hn2 : n2 = no + nx := by rw [← hbo2.len, List.length_append, hrl, htl2]
      have hn2b : n2 ≤ 4000 := by omega
      have hcl := ref_AllFrames hbo2.sl (by omega)
      rw [HQ.out] at hcl
      have H12 := Lib.hid h12
      clear hn2 hv2 f2 h12 hbo hst hrl htl2 c0 b0 f0 HQ hbo2
      go_wp2_with fail
      refine hcl.mono ?_
      rintro e u6 ⟨A6, n6, c6, rfl, h6, hx6⟩
      clear h6 hcl
      by_cases hqn : q = no
      · have dq : ((q : Int) != (no : Int)) = false := by simp; omega
        have HT2 := Lib.hid (HNT.out hqn)
        clear HNT hqn
        go_wp2_with fail
        go_roundw
        case rel => exact ⟨i2 + 1, V12, _, by omega, by go_num, H12.out.ext hx6, HSH, HT2, gxm.trans hx6⟩
        case measure => simp [intOf]; omega
      · have dq : ((q : Int) != (no : Int)) = true := by simp; omega
        go_wp2_with fail
        refine (law11_known u6).mono ?_
        rintro e u7 ⟨rfl, hx7⟩
        go_wp2_with fail
        go_ret
        exact ⟨rfl, (gxm.trans hx6).trans hx7⟩
    · have hrt := hrw
      have hsht := hsh
      obtain ⟨RT, rfl⟩ : ∃ q, q = rows := ⟨_, rfl⟩
      clear hrw hsh
      by_cases hlt1 : i2 < N
      · have hlt2 : decide ((i2 : Int) < (nt : Int)) = false := by simp; omega
        have hlt3 : decide (i2 < nt) = false := by simp; omega
        clear hlt
        have hlr := hrt.lst (by simp only [maxLen]; omega)
        have HTM := Lib.hid (fun e => tail_merge (N := N) (rows := RT) (i := i2) (ds := data) (s := (s : Int)) e (by omega) (by omega) (by omega) (by omega))
        have HCI := Lib.hid (fun e => cut_is (N := N) (rows := RT) (i := i2) (ds := data) (s := (s : Int)) (last := la) e)
        have HCS := Lib.hid (fun e => fun e2 => fun j r => cut_short (N := N) (rows := RT) (i := i2) (ds := data) (s := (s : Int)) (last := la) (j := j) (r := r) e e2)
        rw [HXS.out] at HTM HCI HCS
        have HTM2 := Lib.hid (HTM.out htl.out)
        have HCI2 := Lib.hid (HCI.out htl.out HER.out)
        have HCS2 := Lib.hid (HCS.out htl.out HER.out)
        clear HTM HCI HCS htl
        go_wp2_with fail
        refine (scan_Ends (last := la) hlr (by omega) hsht.out).mono ?_
        rintro e u4 ⟨A5, c5, rfl, h5, hx5⟩
        have gx5 := hxr.trans hx5
        replace hlr := hlr.ext bl_rep hx5
        replace hrt := hrt.ext hx5
        obtain ⟨F, hF⟩ : ∃ q : List UInt8 → List UInt8, cutF la = q := ⟨_, rfl⟩
        have HF := Lib.hid hF
        rw [hF] at HCI2
        clear hF
        go_wp2_with fail
        go_loopw [17, 18] (fun v i wr => ∃ (k2 : Nat) (Ac : Option Addr) (cc : Nat) (es : List (List UInt8)), k2 ≤ N ∧ v = .slice Ac k2 cc ∧ i = .int .i64 k2 ∧ OwnL TRow 1 blR wr u4.heap.size Ac k2 cc es ∧ Hid ((RT.take k2).map F = es) ∧ Ext u4 wr) (fun _ i _ => N - (intOf i).toNat)
        case atStart => exact ⟨0, none, 0, [], by omega, rfl, rfl, OwnL.nil _ _ _ _, rfl, Ext.refl _⟩
        case round =>
          obtain ⟨k2, Ac, cc, es, hk2, rfl, rfl, hown, hes, hxq⟩ := hrel
          by_cases hlt2 : k2 < N
          · obtain ⟨Aq, nr, cq, r, hvq, hrq, c1, f1, hbq⟩ := hrt.at_ hlt2
            obtain ⟨ge, oe, ev, rfl, hev, e0⟩ := h5.lst.atI hlt2
            obtain ⟨m, hm⟩ : ∃ q, endL r la = q := ⟨_, rfl⟩
            have hee := endsC_at (last := la) hrq
            rw [hev, hm] at hee
            injection hee with hee
            subst hee
            have hnx := map_nextC (f := F) hrq
            rw [hes.out] at hnx
            have hmq := HCS2.out k2 r hrq
            rw [hm, hbq.len] at hmq
            have hFr : F r = r.take m := by have := congrFun HF.out r; rw [← this]; unfold cutF; rw [hm]
            rw [hFr] at hnx
            have hnq : nr ≤ 10000 := by have := hsht.out r (List.mem_of_getElem? hrq); rw [hbq.len] at this; exact this
            obtain ⟨hcut, hsl⟩ := cut_upto hbq.sl m (m : Int) rfl hmq
            have hlow : ∀ ad, Aq = some ad → 0 < m → ad.block < u4.heap.size := hsl.blk
            obtain ⟨X, hX⟩ : ∃ X, r.take m = X := ⟨_, rfl⟩
            rw [hX] at hnx hsl
            have HNX := Lib.hid hnx
            have HLOW := Lib.hid hlow
            have d1 : decide ((m : Int) < 0) = false := by simp
            have d2 : decide ((nr : Int) < (m : Int)) = false := by simp; omega
            have d3 : decide (nr < m) = false := by simp; omega
            replace c1 := hxq.cell c1
            replace e0 := hxq.cell e0
            replace hsl := hsl.ext hxq
            have hsz := hxq.size
            clear hnx hFr hrq hvq hbq hev hm f1 hX hes hlow
            go_wp2_with fail
            go_quiet (fail)
            go_wp2_with fail
            have gx6 : Ext u4 (wr.drewN nq) := hxq.drewNC nq
            obtain ⟨w5, hw5⟩ : ∃ q, q = wr.drewN nq := ⟨_, rfl⟩
            rw [← hw5] at gx6 ⊢
            have hx56 : Ext wr w5 := by rw [hw5]; exact (Ext.refl _).drewNC nq
            replace c1 := hx56.cell c1
            replace e0 := hx56.cell e0
            replace hsl := hsl.ext hx56
            replace hown := hown.ext bl_rep hx56
            have HOWN := Lib.hid hown
            have hsz5 := gx6.size
            obtain ⟨ir, hir, hr0, hr1, hr2⟩ := info_parts info_row
            clear hw5 hx56 hsz hxq
            refine wp_region_typed2 (R := But u4.heap.size (fun _ => False)) Ext.steady (But.steady _ _) (fun _ _ => But.of_ext) rfl 170 rfl [0, 0, 0, 6, 14, 0, 0, 96, 224, 510, 1022, 2047, 4095] 2048 (by kernel_rfl) ?_
            -- 0: Op.move t17
            apply Stage2.step (Is _) true [] true false (Is.keeps _) (fun _ => Is.keeps _) (by kernel_rfl)
            · intro w1 h1
              have h1 : Ext _ w1 := h1
              simp only [List.nil_append, List.cons_append, List.map_cons, List.map_nil, Given]
              go_wp2_with fail
              exact Post.isv (Ext.refl _) rfl rfl rfl
            -- 1: Op.move t11
            apply Stage2.step (Is _) true [] true false (Is.keeps _) (fun _ => Is.keeps _) (by kernel_rfl)
            · intro w1 h1
              have h1 : Ext _ w1 := h1
              simp only [List.nil_append, List.cons_append, List.map_cons, List.map_nil, Given]
              go_wp2_with fail
              exact Post.isv (Ext.refl _) rfl rfl rfl
            -- 2: Op.move t18
            apply Stage2.step (Is _) true [] true false (Is.keeps _) (fun _ => Is.keeps _) (by kernel_rfl)
            · intro w1 h1
              have h1 : Ext _ w1 := h1
              simp only [List.nil_append, List.cons_append, List.map_cons, List.map_nil, Given]
              go_wp2_with fail
              exact Post.isv (Ext.refl _) rfl rfl rfl
            -- 3: Op.indexAddr 48 t118 t119
            apply Stage2.step (Is _) true [false, true, true] true false (Is.keeps _) (fun _ => Is.keeps _) (by kernel_rfl)
            · intro w1 h1
              have h1 : Ext _ w1 := h1
              simp only [List.nil_append, List.cons_append, List.map_cons, List.map_nil, Sp.pr, Given]
              rintro _ rfl
              rintro _ rfl
              go_wp2_with fail
              exact Post.isv (Ext.refl _) rfl rfl rfl
            -- 4: Op.load 22 t120
            apply Stage2.step (Is (.slice Aq nr cq)) true [false, false, false, true] true false (Is.keeps _) (fun _ => Is.keeps _) (by kernel_rfl)
            · intro w1 h1
              have h1 : Ext _ w1 := h1
              simp only [List.nil_append, List.cons_append, List.map_cons, List.map_nil, Sp.pr, Given]
              rintro _ rfl
              have hq := h1.cell c1
              go_wp2_with fail
              exact Post.isv (Ext.refl _) rfl rfl rfl
            -- 5: Op.move t16
            apply Stage2.step (Is _) true [] true false (Is.keeps _) (fun _ => Is.keeps _) (by kernel_rfl)
            · intro w1 h1
              have h1 : Ext _ w1 := h1
              simp only [List.nil_append, List.cons_append, List.map_cons, List.map_nil, Given]
              go_wp2_with fail
              exact Post.isv (Ext.refl _) rfl rfl rfl
            -- 6: Op.move t18
            apply Stage2.step (Is _) true [] true false (Is.keeps _) (fun _ => Is.keeps _) (by kernel_rfl)
            · intro w1 h1
              have h1 : Ext _ w1 := h1
              simp only [List.nil_append, List.cons_append, List.map_cons, List.map_nil, Given]
              go_wp2_with fail
              exact Post.isv (Ext.refl _) rfl rfl rfl
            -- 7: Op.indexAddr 46 t122 t123
            apply Stage2.step (Is _) true [false, false, false, false, false, true, true] true false (Is.keeps _) (fun _ => Is.keeps _) (by kernel_rfl)
            · intro w1 h1
              have h1 : Ext _ w1 := h1
              simp only [List.nil_append, List.cons_append, List.map_cons, List.map_nil, Sp.pr, Given]
              rintro _ rfl
              rintro _ rfl
              go_wp2_with fail
              exact Post.isv (Ext.refl _) rfl rfl rfl
            -- 8: Op.load 3 t124
            apply Stage2.step (Is (.int .i64 (m : Int))) true [false, false, false, false, false, false, false, true] true false (Is.keeps _) (fun _ => Is.keeps _) (by kernel_rfl)
            · intro w1 h1
              have h1 : Ext _ w1 := h1
              simp only [List.nil_append, List.cons_append, List.map_cons, List.map_nil, Sp.pr, Given]
              rintro _ rfl
              have hq := h1.cell e0
              go_wp2_with fail
              exact Post.isv (Ext.refl _) rfl rfl rfl
            -- 9: Op.slice 22 t121 none (some t125) none
            apply Stage2.step (Is (.slice Aq m cq)) true [false, false, false, false, true, false, false, false, true] true false (Is.keeps _) (fun _ => Is.keeps _) (by kernel_rfl)
            · intro w1 h1
              have h1 : Ext _ w1 := h1
              simp only [List.nil_append, List.cons_append, List.map_cons, List.map_nil, Sp.pr, Given]
              rintro _ rfl
              rintro _ rfl
              go_wp2_with fail
              exact Post.isv (Ext.refl _) rfl rfl rfl
            -- 10: Op.buildSlice 48 1 #[(0, t126)]
            apply Stage2.step (CutT u4.heap.size X) false [false, false, false, false, false, false, false, false, false, true] true false (CutT.keeps _ _) (no_keeps) (by kernel_rfl)
            · intro w1 h1
              have h1 : Ext _ w1 := h1
              simp only [List.nil_append, List.cons_append, List.map_cons, List.map_nil, Sp.pr, Given]
              rintro _ rfl
              have hsl1 := hsl.ext h1
              go_wp2_with fail
              exact ⟨rfl, rfl, Ext.alloc _ _, _, _, _, _, rfl, cell_new _ _ _ 0, hsl1.ext (Ext.alloc _ _), HLOW.out⟩
            -- 11: Op.call { builtin append, args := #[t117, t127], argTypes := #[48, 48] }
            apply Stage2.step (RowsT u4.heap.size (k2 + 1) (es ++ [X])) false [true, false, false, false, false, false, false, false, false, false, true] true true (RowsT.keeps _ _ _) (no_keeps) (by kernel_rfl)
            · intro w1 h1
              have h1 : Ext _ w1 := h1
              simp only [List.nil_append, List.cons_append, List.map_cons, List.map_nil, Sp.pr, Given]
              rintro _ rfl
              rintro _ ⟨g8, A8, n8, c8, rfl, q8, s8, b8⟩
              have hown1 := HOWN.out.ext bl_rep h1
              have hfd := CutT.feed (A2 := Ac) (c2 := cc) q8 s8 b8 (fun q hq => (hown1.row_lt q hq).1)
              go_wp2_with (
                at_builtin
                refine wpList_append_lst2 (w0 := u4) bl_rep rfl _ _ _ _ rfl TRow ir _ 24 under_rows hir hr0 hr1 hr2 rfl Ac k2 cc es rfl hown1 _ 1 [X] rfl hfd (k2 + 1) rfl _ rfl (by simp only [maxLen]; omega) (by omega) (gx6.trans h1) ?_
                intro A9 c9 w9 hown9 hx9 hg9)
              exact ⟨rfl, rfl, But.grown (But.refl _ _ _) hg9 (fun q hq => .inr (hown1.row_lt q hq).1), _, _, rfl, hown9⟩
            -- 12: Op.assign t128
            apply Stage2.step (RowsT u4.heap.size (k2 + 1) (es ++ [X])) false [false, false, false, false, false, false, false, false, false, false, false, true] false false (RowsT.keeps _ _ _) (no_keeps) (by kernel_rfl)
            · intro w1 h1
              have h1 : (But u4.heap.size (fun _ => False)) _ w1 := h1
              simp only [List.nil_append, List.cons_append, List.map_cons, List.map_nil, Sp.pr, Given]
              rintro v hcp
              go_wp2_with fail
              exact ⟨rfl, rfl, Ext.refl _, hcp⟩
            apply Stage2.nil [true, true, true, true, true, true, true, true, true, true, false, true, true] (by kernel_rfl)
            intro w1 h1
            have h1 : (But u4.heap.size (fun _ => False)) _ w1 := h1
            simp only [List.nil_append, List.cons_append, List.map_cons, List.map_nil, Sp.pr]
            refine Fin2.is_ ?_
            refine Fin2.is_ ?_
            refine Fin2.is_ ?_
            refine Fin2.is_ ?_
            refine Fin2.is_ ?_
            refine Fin2.is_ ?_
            refine Fin2.is_ ?_
            refine Fin2.is_ ?_
            refine Fin2.is_ ?_
            refine Fin2.is_ ?_
            refine Fin2.dead_ ?_
            intro dead10
            refine Fin2.step_ ?_
            rintro _ ⟨A9, c9, rfl, h9⟩
            refine Fin2.step_ ?_
            rintro _ ⟨A9, c9, rfl, h9⟩
            refine Fin2.nil_ ?_
            go_simp
            go_wp2_with fail
            go_roundw
            case rel => exact ⟨k2 + 1, A9, c9, _, by omega, rfl, by go_num, h9, HNX, gx6.but h1 (Nat.le_refl _) (fun _ h => h.elim)⟩
            case measure => simp [intOf]; omega
          · obtain rfl : k2 = N := by omega
            have e := hes.out
            rw [List.take_of_length_le (by rw [hlr.len]; exact Nat.le_refl _), HCI2.out, HCTE.out] at e
            subst e
            have hlc := hown.lst
            have HSC : Hid (ShortF CT) := by
              unfold Hid
              intro x hx
              rw [← HCTE.out, ← HCI2.out] at hx
              obtain ⟨y, hy, rfl⟩ := List.mem_map.1 hx
              have h1 := hsht.out y hy
              rw [← HF.out]
              unfold cutF
              rw [List.length_take]
              omega
            have gxq := gx5.trans hxq
            replace hlr := hlr.ext bl_rep hxq
            clear hes HCI2 hown h5 hrt HCS2 HF HCTE
            go_wp2_with fail
            have hcl := scan_Merge hlr (s := (s : Int)) (by omega) hsht.out (by omega)
            rw [HTM2.out] at hcl
            refine hcl.mono ?_
            rintro e v1 ⟨A7, n7, c7, rfl, h7, hy1⟩
            clear hcl HTM2
            obtain rfl : n7 = n := by rw [← h7.len]; exact HXL.out
            have gx7 := gxq.trans hy1
            replace hlc := hlc.ext bl_rep hy1
            go_wp2_with fail
            have hcl := scan_Merge hlc (s := (s : Int)) (by omega) HSC.out (by omega)
            rw [HCM.out] at hcl
            refine hcl.mono ?_
            rintro e v2 ⟨A8, n8, c8, rfl, h8, hy2⟩
            clear hcl HCM
            obtain rfl : n8 = mm := by rw [← h8.len, List.length_take, HXL.out]; omega
            have gx8 := gx7.trans hy2
            replace hlc := hlc.ext bl_rep hy2
            have l7 := h7.lst.ext en_rep hy2
            have l8 := h8.lst
            obtain ⟨ie, hie, he0, he1, he2⟩ := info_parts info_en
            obtain ⟨hcut, hl9⟩ := cutL_upto (t := 32) en_rep under_ens hie he1 l7 n8 (n8 : Int) rfl (by omega)
            have hd0 : la - (s : Int) + 1 = (l0 : Int) := by omega
            clear h7 h8 hla
            by_cases hnl : n7 ≤ l0
            · obtain rfl : n8 = n7 := by omega
              clear hmm
              go_wp2_with fail
              refine (scan_Torn (last := la) hlc (by omega) HSC.out HCT).mono ?_
              rintro e v3 ⟨rfl, hy3⟩
              go_wp2_with fail
              have hcl := ref_SameEntries (l8.ext en_rep hy3) (hl9.ext en_rep hy3)
              rw [sameEn_selfC] at hcl
              refine hcl.mono ?_
              rintro e v4 ⟨rfl, hy4⟩
              go_wp2_with fail
              refine (law11_known v4).mono ?_
              rintro e v5 ⟨rfl, hy5⟩
              go_wp2_with fail
              go_ret
              exact ⟨rfl, ((gx8.trans hy3).trans hy4).trans hy5⟩
            · obtain rfl : n8 = l0 := by omega
              have hnl2 : ¬ (n7 < n8) := by omega
              clear hmm
              go_wp2_with fail
              refine (scan_Torn (last := la) hlc (by omega) HSC.out HCT).mono ?_
              rintro e v3 ⟨rfl, hy3⟩
              go_wp2_with fail
              have hcl := ref_SameEntries (l8.ext en_rep hy3) (hl9.ext en_rep hy3)
              rw [sameEn_selfC] at hcl
              refine hcl.mono ?_
              rintro e v4 ⟨rfl, hy4⟩
              go_wp2_with fail
              refine (law11_known v4).mono ?_
              rintro e v5 ⟨rfl, hy5⟩
              go_wp2_with fail
              go_ret
              exact ⟨rfl, ((gx8.trans hy3).trans hy4).trans hy5⟩
      · have hlt2 : decide ((i2 : Int) < (N : Int)) = false := by simp; omega
        have hlt3 : decide (i2 < N) = false := by simp; omega
        clear hlt
        have hlr := hrt.lst (by simp only [maxLen]; omega)
        have HTM := Lib.hid (fun e => tail_merge (N := N) (rows := RT) (i := i2) (ds := data) (s := (s : Int)) e (by omega) (by omega) (by omega) (by omega))
        have HCI := Lib.hid (fun e => cut_is (N := N) (rows := RT) (i := i2) (ds := data) (s := (s : Int)) (last := la) e)
        have HCS := Lib.hid (fun e => fun e2 => fun j r => cut_short (N := N) (rows := RT) (i := i2) (ds := data) (s := (s : Int)) (last := la) (j := j) (r := r) e e2)
        rw [HXS.out] at HTM HCI HCS
        have HTM2 := Lib.hid (HTM.out htl.out)
        have HCI2 := Lib.hid (HCI.out htl.out HER.out)
        have HCS2 := Lib.hid (HCS.out htl.out HER.out)
        clear HTM HCI HCS htl
        go_wp2_with fail
        refine (scan_Ends (last := la) hlr (by omega) hsht.out).mono ?_
        rintro e u4 ⟨A5, c5, rfl, h5, hx5⟩
        have gx5 := hxr.trans hx5
        replace hlr := hlr.ext bl_rep hx5
        replace hrt := hrt.ext hx5
        obtain ⟨F, hF⟩ : ∃ q : List UInt8 → List UInt8, cutF la = q := ⟨_, rfl⟩
        have HF := Lib.hid hF
        rw [hF] at HCI2
        clear hF
        go_wp2_with fail
        go_loopw [17, 18] (fun v i wr => ∃ (k2 : Nat) (Ac : Option Addr) (cc : Nat) (es : List (List UInt8)), k2 ≤ N ∧ v = .slice Ac k2 cc ∧ i = .int .i64 k2 ∧ OwnL TRow 1 blR wr u4.heap.size Ac k2 cc es ∧ Hid ((RT.take k2).map F = es) ∧ Ext u4 wr) (fun _ i _ => N - (intOf i).toNat)
        case atStart => exact ⟨0, none, 0, [], by omega, rfl, rfl, OwnL.nil _ _ _ _, rfl, Ext.refl _⟩
        case round =>
          obtain ⟨k2, Ac, cc, es, hk2, rfl, rfl, hown, hes, hxq⟩ := hrel
          by_cases hlt2 : k2 < N
          · obtain ⟨Aq, nr, cq, r, hvq, hrq, c1, f1, hbq⟩ := hrt.at_ hlt2
            obtain ⟨ge, oe, ev, rfl, hev, e0⟩ := h5.lst.atI hlt2
            obtain ⟨m, hm⟩ : ∃ q, endL r la = q := ⟨_, rfl⟩
            have hee := endsC_at (last := la) hrq
            rw [hev, hm] at hee
            injection hee with hee
            subst hee
            have hnx := map_nextC (f := F) hrq
            rw [hes.out] at hnx
            have hmq := HCS2.out k2 r hrq
            rw [hm, hbq.len] at hmq
            have hFr : F r = r.take m := by have := congrFun HF.out r; rw [← this]; unfold cutF; rw [hm]
            rw [hFr] at hnx
            have hnq : nr ≤ 10000 := by have := hsht.out r (List.mem_of_getElem? hrq); rw [hbq.len] at this; exact this
            obtain ⟨hcut, hsl⟩ := cut_upto hbq.sl m (m : Int) rfl hmq
            have hlow : ∀ ad, Aq = some ad → 0 < m → ad.block < u4.heap.size := hsl.blk
            obtain ⟨X, hX⟩ : ∃ X, r.take m = X := ⟨_, rfl⟩
            rw [hX] at hnx hsl
            have HNX := Lib.hid hnx
            have HLOW := Lib.hid hlow
            have d1 : decide ((m : Int) < 0) = false := by simp
            have d2 : decide ((nr : Int) < (m : Int)) = false := by simp; omega
            have d3 : decide (nr < m) = false := by simp; omega
            replace c1 := hxq.cell c1
            replace e0 := hxq.cell e0
            replace hsl := hsl.ext hxq
            have hsz := hxq.size
            clear hnx hFr hrq hvq hbq hev hm f1 hX hes hlow
            go_wp2_with fail
            go_quiet (fail)
            go_wp2_with fail
            have gx6 : Ext u4 (wr.drewN nq) := hxq.drewNC nq
            obtain ⟨w5, hw5⟩ : ∃ q, q = wr.drewN nq := ⟨_, rfl⟩
            rw [← hw5] at gx6 ⊢
            have hx56 : Ext wr w5 := by rw [hw5]; exact (Ext.refl _).drewNC nq
            replace c1 := hx56.cell c1
            replace e0 := hx56.cell e0
            replace hsl := hsl.ext hx56
            replace hown := hown.ext bl_rep hx56
            have HOWN := Lib.hid hown
            have hsz5 := gx6.size
            obtain ⟨ir, hir, hr0, hr1, hr2⟩ := info_parts info_row
            clear hw5 hx56 hsz hxq
            refine wp_region_typed2 (R := But u4.heap.size (fun _ => False)) Ext.steady (But.steady _ _) (fun _ _ => But.of_ext) rfl 170 rfl [0, 0, 0, 6, 14, 0, 0, 96, 224, 510, 1022, 2047, 4095] 2048 (by kernel_rfl) ?_
            -- 0: Op.move t17
            apply Stage2.step (Is _) true [] true false (Is.keeps _) (fun _ => Is.keeps _) (by kernel_rfl)
            · intro w1 h1
              have h1 : Ext _ w1 := h1
              simp only [List.nil_append, List.cons_append, List.map_cons, List.map_nil, Given]
              go_wp2_with fail
              exact Post.isv (Ext.refl _) rfl rfl rfl
            -- 1: Op.move t11
            apply Stage2.step (Is _) true [] true false (Is.keeps _) (fun _ => Is.keeps _) (by kernel_rfl)
            · intro w1 h1
              have h1 : Ext _ w1 := h1
              simp only [List.nil_append, List.cons_append, List.map_cons, List.map_nil, Given]
              go_wp2_with fail
              exact Post.isv (Ext.refl _) rfl rfl rfl
            -- 2: Op.move t18
            apply Stage2.step (Is _) true [] true false (Is.keeps _) (fun _ => Is.keeps _) (by kernel_rfl)
            · intro w1 h1
              have h1 : Ext _ w1 := h1
              simp only [List.nil_append, List.cons_append, List.map_cons, List.map_nil, Given]
              go_wp2_with fail
              exact Post.isv (Ext.refl _) rfl rfl rfl
            -- 3: Op.indexAddr 48 t118 t119
            apply Stage2.step (Is _) true [false, true, true] true false (Is.keeps _) (fun _ => Is.keeps _) (by kernel_rfl)
            · intro w1 h1
              have h1 : Ext _ w1 := h1
              simp only [List.nil_append, List.cons_append, List.map_cons, List.map_nil, Sp.pr, Given]
              rintro _ rfl
              rintro _ rfl
              go_wp2_with fail
              exact Post.isv (Ext.refl _) rfl rfl rfl
            -- 4: Op.load 22 t120
            apply Stage2.step (Is (.slice Aq nr cq)) true [false, false, false, true] true false (Is.keeps _) (fun _ => Is.keeps _) (by kernel_rfl)
            · intro w1 h1
              have h1 : Ext _ w1 := h1
              simp only [List.nil_append, List.cons_append, List.map_cons, List.map_nil, Sp.pr, Given]
              rintro _ rfl
              have hq := h1.cell c1
              go_wp2_with fail
              exact Post.isv (Ext.refl _) rfl rfl rfl
            -- 5: Op.move t16
            apply Stage2.step (Is _) true [] true false (Is.keeps _) (fun _ => Is.keeps _) (by kernel_rfl)
            · intro w1 h1
              have h1 : Ext _ w1 := h1
              simp only [List.nil_append, List.cons_append, List.map_cons, List.map_nil, Given]
              go_wp2_with fail
              exact Post.isv (Ext.refl _) rfl rfl rfl
            -- 6: Op.move t18
            apply Stage2.step (Is _) true [] true false (Is.keeps _) (fun _ => Is.keeps _) (by kernel_rfl)
            · intro w1 h1
              have h1 : Ext _ w1 := h1
              simp only [List.nil_append, List.cons_append, List.map_cons, List.map_nil, Given]
              go_wp2_with fail
              exact Post.isv (Ext.refl _) rfl rfl rfl
            -- 7: Op.indexAddr 46 t122 t123
            apply Stage2.step (Is _) true [false, false, false, false, false, true, true] true false (Is.keeps _) (fun _ => Is.keeps _) (by kernel_rfl)
            · intro w1 h1
              have h1 : Ext _ w1 := h1
              simp only [List.nil_append, List.cons_append, List.map_cons, List.map_nil, Sp.pr, Given]
              rintro _ rfl
              rintro _ rfl
              go_wp2_with fail
              exact Post.isv (Ext.refl _) rfl rfl rfl
            -- 8: Op.load 3 t124
            apply Stage2.step (Is (.int .i64 (m : Int))) true [false, false, false, false, false, false, false, true] true false (Is.keeps _) (fun _ => Is.keeps _) (by kernel_rfl)
            · intro w1 h1
              have h1 : Ext _ w1 := h1
              simp only [List.nil_append, List.cons_append, List.map_cons, List.map_nil, Sp.pr, Given]
              rintro _ rfl
              have hq := h1.cell e0
              go_wp2_with fail
              exact Post.isv (Ext.refl _) rfl rfl rfl
            -- 9: Op.slice 22 t121 none (some t125) none
            apply Stage2.step (Is (.slice Aq m cq)) true [false, false, false, false, true, false, false, false, true] true false (Is.keeps _) (fun _ => Is.keeps _) (by kernel_rfl)
            · intro w1 h1
              have h1 : Ext _ w1 := h1
              simp only [List.nil_append, List.cons_append, List.map_cons, List.map_nil, Sp.pr, Given]
              rintro _ rfl
              rintro _ rfl
              go_wp2_with fail
              exact Post.isv (Ext.refl _) rfl rfl rfl
            -- 10: Op.buildSlice 48 1 #[(0, t126)]
            apply Stage2.step (CutT u4.heap.size X) false [false, false, false, false, false, false, false, false, false, true] true false (CutT.keeps _ _) (no_keeps) (by kernel_rfl)
            · intro w1 h1
              have h1 : Ext _ w1 := h1
              simp only [List.nil_append, List.cons_append, List.map_cons, List.map_nil, Sp.pr, Given]
              rintro _ rfl
              have hsl1 := hsl.ext h1
              go_wp2_with fail
              exact ⟨rfl, rfl, Ext.alloc _ _, _, _, _, _, rfl, cell_new _ _ _ 0, hsl1.ext (Ext.alloc _ _), HLOW.out⟩
            -- 11: Op.call { builtin append, args := #[t117, t127], argTypes := #[48, 48] }
            apply Stage2.step (RowsT u4.heap.size (k2 + 1) (es ++ [X])) false [true, false, false, false, false, false, false, false, false, false, true] true true (RowsT.keeps _ _ _) (no_keeps) (by kernel_rfl)
            · intro w1 h1
              have h1 : Ext _ w1 := h1
              simp only [List.nil_append, List.cons_append, List.map_cons, List.map_nil, Sp.pr, Given]
              rintro _ rfl
              rintro _ ⟨g8, A8, n8, c8, rfl, q8, s8, b8⟩
              have hown1 := HOWN.out.ext bl_rep h1
              have hfd := CutT.feed (A2 := Ac) (c2 := cc) q8 s8 b8 (fun q hq => (hown1.row_lt q hq).1)
              go_wp2_with (
                at_builtin
                refine wpList_append_lst2 (w0 := u4) bl_rep rfl _ _ _ _ rfl TRow ir _ 24 under_rows hir hr0 hr1 hr2 rfl Ac k2 cc es rfl hown1 _ 1 [X] rfl hfd (k2 + 1) rfl _ rfl (by simp only [maxLen]; omega) (by omega) (gx6.trans h1) ?_
                intro A9 c9 w9 hown9 hx9 hg9)
              exact ⟨rfl, rfl, But.grown (But.refl _ _ _) hg9 (fun q hq => .inr (hown1.row_lt q hq).1), _, _, rfl, hown9⟩
            -- 12: Op.assign t128
            apply Stage2.step (RowsT u4.heap.size (k2 + 1) (es ++ [X])) false [false, false, false, false, false, false, false, false, false, false, false, true] false false (RowsT.keeps _ _ _) (no_keeps) (by kernel_rfl)
            · intro w1 h1
              have h1 : (But u4.heap.size (fun _ => False)) _ w1 := h1
              simp only [List.nil_append, List.cons_append, List.map_cons, List.map_nil, Sp.pr, Given]
              rintro v hcp
              go_wp2_with fail
              exact ⟨rfl, rfl, Ext.refl _, hcp⟩
            apply Stage2.nil [true, true, true, true, true, true, true, true, true, true, false, true, true] (by kernel_rfl)
            intro w1 h1
            have h1 : (But u4.heap.size (fun _ => False)) _ w1 := h1
            simp only [List.nil_append, List.cons_append, List.map_cons, List.map_nil, Sp.pr]
            refine Fin2.is_ ?_
            refine Fin2.is_ ?_
            refine Fin2.is_ ?_
            refine Fin2.is_ ?_
            refine Fin2.is_ ?_
            refine Fin2.is_ ?_
            refine Fin2.is_ ?_
            refine Fin2.is_ ?_
            refine Fin2.is_ ?_
            refine Fin2.is_ ?_
            refine Fin2.dead_ ?_
            intro dead10
            refine Fin2.step_ ?_
            rintro _ ⟨A9, c9, rfl, h9⟩
            refine Fin2.step_ ?_
            rintro _ ⟨A9, c9, rfl, h9⟩
            refine Fin2.nil_ ?_
            go_simp
            go_wp2_with fail
            go_roundw
            case rel => exact ⟨k2 + 1, A9, c9, _, by omega, rfl, by go_num, h9, HNX, gx6.but h1 (Nat.le_refl _) (fun _ h => h.elim)⟩
            case measure => simp [intOf]; omega
          · obtain rfl : k2 = N := by omega
            have e := hes.out
            rw [List.take_of_length_le (by rw [hlr.len]; exact Nat.le_refl _), HCI2.out, HCTE.out] at e
            subst e
            have hlc := hown.lst
            have HSC : Hid (ShortF CT) := by
              unfold Hid
              intro x hx
              rw [← HCTE.out, ← HCI2.out] at hx
              obtain ⟨y, hy, rfl⟩ := List.mem_map.1 hx
              have h1 := hsht.out y hy
              rw [← HF.out]
              unfold cutF
              rw [List.length_take]
              omega
            have gxq := gx5.trans hxq
            replace hlr := hlr.ext bl_rep hxq
            clear hes HCI2 hown h5 hrt HCS2 HF HCTE
            go_wp2_with fail
            have hcl := scan_Merge hlr (s := (s : Int)) (by omega) hsht.out (by omega)
            rw [HTM2.out] at hcl
            refine hcl.mono ?_
            rintro e v1 ⟨A7, n7, c7, rfl, h7, hy1⟩
            clear hcl HTM2
            obtain rfl : n7 = n := by rw [← h7.len]; exact HXL.out
            have gx7 := gxq.trans hy1
            replace hlc := hlc.ext bl_rep hy1
            go_wp2_with fail
            have hcl := scan_Merge hlc (s := (s : Int)) (by omega) HSC.out (by omega)
            rw [HCM.out] at hcl
            refine hcl.mono ?_
            rintro e v2 ⟨A8, n8, c8, rfl, h8, hy2⟩
            clear hcl HCM
            obtain rfl : n8 = mm := by rw [← h8.len, List.length_take, HXL.out]; omega
            have gx8 := gx7.trans hy2
            replace hlc := hlc.ext bl_rep hy2
            have l7 := h7.lst.ext en_rep hy2
            have l8 := h8.lst
            obtain ⟨ie, hie, he0, he1, he2⟩ := info_parts info_en
            obtain ⟨hcut, hl9⟩ := cutL_upto (t := 32) en_rep under_ens hie he1 l7 n8 (n8 : Int) rfl (by omega)
            have hd0 : la - (s : Int) + 1 = (l0 : Int) := by omega
            clear h7 h8 hla
            by_cases hnl : n7 ≤ l0
            · obtain rfl : n8 = n7 := by omega
              clear hmm
              go_wp2_with fail
              refine (scan_Torn (last := la) hlc (by omega) HSC.out HCT).mono ?_
              rintro e v3 ⟨rfl, hy3⟩
              go_wp2_with fail
              have hcl := ref_SameEntries (l8.ext en_rep hy3) (hl9.ext en_rep hy3)
              rw [sameEn_selfC] at hcl
              refine hcl.mono ?_
              rintro e v4 ⟨rfl, hy4⟩
              go_wp2_with fail
              refine (law11_known v4).mono ?_
              rintro e v5 ⟨rfl, hy5⟩
              go_wp2_with fail
              go_ret
              exact ⟨rfl, ((gx8.trans hy3).trans hy4).trans hy5⟩
            · obtain rfl : n8 = l0 := by omega
              have hnl2 : ¬ (n7 < n8) := by omega
              clear hmm
              go_wp2_with fail
              refine (scan_Torn (last := la) hlc (by omega) HSC.out HCT).mono ?_
              rintro e v3 ⟨rfl, hy3⟩
              go_wp2_with fail
              have hcl := ref_SameEntries (l8.ext en_rep hy3) (hl9.ext en_rep hy3)
              rw [sameEn_selfC] at hcl
              refine hcl.mono ?_
              rintro e v4 ⟨rfl, hy4⟩
              go_wp2_with fail
              refine (law11_known v4).mono ?_
              rintro e v5 ⟨rfl, hy5⟩
              go_wp2_with fail
              go_ret
              exact ⟨rfl, ((gx8.trans hy3).trans hy4).trans hy5⟩
end Go.Proofs.Ytcchlkialgjamaa
