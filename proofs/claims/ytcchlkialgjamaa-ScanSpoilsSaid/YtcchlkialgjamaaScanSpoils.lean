/-
  Chapter 11: the statement ScanSpoils, walked.
-/
import Derived.Test.YtcchlkialgjamaaScanTells
import Derived.Test.YtcchlkialgjamaaScanRows
import Derived.Test.YtcchlkialgjamaaMask
import Derived.Test.YtcchlkialgjamaaRwsT
namespace Go.Proofs.Ytcchlkialgjamaa
open Go.RowKit
set_option linter.unusedVariables false
set_option linter.unusedSimpArgs false
set_option linter.unnecessarySimpa false
set_option maxRecDepth 100000

theorem spoil_short {N : Nat} {ds : List (List UInt8)} {s : Int} (h : ds.length ≤ 100) : ShortF (rowsOf N (ensF s ds)) := fun r hr => by
  obtain ⟨j, hj⟩ := List.getElem?_of_mem hr
  have := rowsOf_small hj ensF_small
  rw [ensF_len] at this
  omega
theorem short_set {rows : List (List UInt8)} (h : ShortF rows) {j : Nat} {r : List UInt8} (hr : r.length ≤ 10000) : ShortF (rows.set j r) := fun x hx => by
  rcases List.mem_or_eq_of_mem_set hx with hx | rfl
  · exact h x hx
  · exact hr
theorem Byt.uptoS {w : World} {B : Nat} {A : Option Addr} {n c m : Nat} {l : List UInt8} (h : Byt U8 w B A n c l) (hm : m ≤ n) : Byt U8 w B A m c (l.take m) := by
  refine ⟨by rw [List.length_take, h.len]; omega, ?_⟩
  rcases h.own with ⟨h1, h2, h3⟩ | ⟨g, cur, rfl, hB, hg, h1, h2, h3, h4, h5⟩
  · refine .inl ⟨h1, by omega, ?_⟩
    rw [List.map_take, h3, List.take_nil]
  · refine .inr ⟨g, cur, rfl, hB, hg, by omega, h2, h3, by simp [h.len]; omega, ?_⟩
    rw [List.map_take, ← h5, List.take_take]
    congr 1
    omega
theorem any_nextS {f : List UInt8 → Bool} {xs : List (List UInt8)} {k : Nat} {x : List UInt8} (h : xs[k]? = some x) : (xs.take (k + 1)).any f = ((xs.take k).any f || f x) := by
  rw [List.take_add_one, h, List.any_append]
  simp
theorem ends_at {rows : List (List UInt8)} {last : Int} {k : Nat} {r : List UInt8} (h : rows[k]? = some r) : (endsL rows last)[k]? = some (endL r last : Int) := by
  unfold endsL
  rw [List.getElem?_map, h]
  rfl
theorem lenF_whileLe (p : En → Bool) : ∀ l : List En, lenF (l.takeWhile p) ≤ lenF l
  | [] => Nat.le_refl _
  | x :: l => by
    have := lenF_whileLe p l
    unfold lenF at this ⊢
    rw [List.takeWhile_cons]
    split
    · simp only [List.map_cons, List.sum_cons]; omega
    · simp
theorem lenF_allL (b : List UInt8) : lenF (enL (allL b).1) ≤ b.length := by
  induction h : b.length using Nat.strongRecOn generalizing b with
  | _ n ih =>
    subst h
    by_cases h0 : tkE b = 0
    · obtain ⟨_, _, h3, h6⟩ := lay_take h0
      have hd : (b.drop (tkN b + 22)).length = b.length - (tkN b + 22) := List.length_drop
      have i2 := ih _ (by omega) (b.drop (tkN b + 22)) rfl
      rw [allL_yes h0]
      unfold enL lenF at i2 ⊢
      simp only [List.map_cons, List.sum_cons]
      have h7 : (frOf b).d.length = tkN b := h3
      omega
    · rw [allL_no h0]
      simp [enL, lenF]
theorem endL_le (b : List UInt8) (last : Int) : endL b last ≤ b.length := Nat.le_trans (lenF_whileLe _ _) (lenF_allL b)
theorem Ext.drewN {a w : World} (h : Ext a w) (n : Nat) : Ext a (w.drewN n) := Ext.trans h ⟨rfl, rfl, rfl, Nat.le_refl _, fun _ _ => rfl⟩
set_option maxHeartbeats 8000000 in
theorem law_ScanSpoils (A : Option Addr) (n c : Nat) (data : List (List UInt8)) (a1 a2 : Int) (Ai : Option Addr) (ni ci : Nat) (cl : List Int) (a4 a5 a6 a7 : Int) (w : World) (hl : Lst 1 blR w A n c data) (hi : Lst 1 intR w Ai ni ci cl) (h4 : a4 ≤ 9223372036854775807) (h70 : 0 ≤ a7) (h71 : a7 ≤ 255) :
    Calls Try.prog 12 #[.slice A n c, .int .i64 a1, .int .i64 a2, .slice Ai ni ci, .int .i64 a4, .int .i64 a5, .int .i64 a6, .int .u8 a7] w fun e w' => e = .returned (.bool true) ∧ Ext w w' := by
  have h63 := hl.n63
  have hi63 := hi.n63
  obtain ⟨res, hres⟩ : ∃ q, fewB data = q := ⟨_, rfl⟩
  have HR := Lib.hid hres
  by_cases hbad : res = false ∨ 10 < ni ∨ a4 < 0
  · clear hres
    have key : ∃ b1 b2, res = b1 ∧ b2 = decide (10 < ni) := ⟨_, _, rfl, rfl⟩
    cases res with
    | false =>
      clear hbad
      go_enter Try.func12, Try.ntmps12
      go_wp2_with fail
      refine (law11_few hl HR).mono ?_
      rintro e u1 ⟨rfl, hx1⟩
      go_wp2_with fail
      refine (law11_known u1).mono ?_
      rintro e u2 ⟨rfl, hx2⟩
      go_wp2_with fail
      go_ret
      exact ⟨rfl, hx1.trans hx2⟩
    | true =>
      by_cases h10 : 10 < ni
      · go_enter Try.func12, Try.ntmps12
        go_wp2_with fail
        refine (law11_few hl HR).mono ?_
        rintro e u1 ⟨rfl, hx1⟩
        go_wp2_with fail
        refine (law11_known u1).mono ?_
        rintro e u2 ⟨rfl, hx2⟩
        go_wp2_with fail
        go_ret
        exact ⟨rfl, hx1.trans hx2⟩
      · have h40 : a4 < 0 := by
          rcases hbad with h | h | h
          · cases h
          · exact absurd h h10
          · exact h
        have d10 : decide ((10 : Int) < (ni : Int)) = false := by simp; omega
        have d10n : decide (10 < ni) = false := by simp; omega
        clear hbad
        go_enter Try.func12, Try.ntmps12
        go_wp2_with fail
        refine (law11_few hl HR).mono ?_
        rintro e u1 ⟨rfl, hx1⟩
        go_wp2_with fail
        refine (law11_known u1).mono ?_
        rintro e u2 ⟨rfl, hx2⟩
        go_wp2_with fail
        go_ret
        exact ⟨rfl, hx1.trans hx2⟩
  obtain rfl : res = true := by cases res <;> simp_all
  have hni : ni ≤ 10 := by omega
  obtain ⟨at0, rfl⟩ := Int.eq_ofNat_of_zero_le (show 0 ≤ a4 by omega)
  obtain ⟨x7, rfl⟩ := Int.eq_ofNat_of_zero_le h70
  clear hbad
  have hn : n ≤ 40 := by have := (fewB_iff.1 hres).2.1; rw [hl.len] at this; exact this
  have hdl := hl.len
  obtain ⟨s0, hs0, hs0b⟩ : ∃ p : Nat, bits BinOp.and IntKind.i64 a1 65535 = (p : Int) ∧ p ≤ 65535 := ⟨(a1 % 65536).toNat, by rw [and65535]; omega, by omega⟩
  obtain ⟨N0, hN0, hN0b⟩ : ∃ p : Nat, bits BinOp.and IntKind.i64 a2 3 = (p : Int) ∧ p ≤ 3 := ⟨(a2 % 4).toNat, by rw [and3]; omega, by omega⟩
  obtain ⟨f0, hf0, hf0b⟩ : ∃ p : Nat, bits BinOp.and IntKind.i64 a5 15 = (p : Int) ∧ p ≤ 15 := ⟨(a5 % 16).toNat, by rw [and15]; omega, by omega⟩
  obtain ⟨l0, hl0, hl0b⟩ : ∃ p : Nat, bits BinOp.and IntKind.i64 a6 63 = (p : Int) ∧ p ≤ 63 := ⟨(a6 % 64).toNat, by rw [and63]; omega, by omega⟩
  obtain ⟨s, hs⟩ : ∃ s, s = s0 + 1 := ⟨_, rfl⟩
  obtain ⟨N, hN⟩ : ∃ N, N = N0 + 1 := ⟨_, rfl⟩
  have hs1 : 1 + (s0 : Int) = (s : Int) := by omega
  have hN1 : 1 + (N0 : Int) = (N : Int) := by omega
  have hsb : 1 ≤ s ∧ s ≤ 65536 := by omega
  have hNb : 1 ≤ N ∧ N ≤ 4 := by omega
  obtain ⟨fr, hfr⟩ : ∃ fr : Int, (s : Int) + (f0 : Int) - 4 = fr := ⟨_, rfl⟩
  obtain ⟨la, hla⟩ : ∃ la : Int, (s : Int) + (l0 : Int) - 2 = la := ⟨_, rfl⟩
  have hfrb : fr ≤ 100000 := by omega
  obtain ⟨k, hk, hkN⟩ : ∃ k : Nat, (at0 : Int) % (N : Int) = (k : Int) ∧ k < N := ⟨at0 % N, by simp, Nat.mod_lt _ (by omega)⟩
  obtain ⟨dv, hdv, hdvb⟩ : ∃ d : Nat, (at0 : Int) / (N : Int) = (d : Int) ∧ d ≤ at0 := ⟨at0 / N, by simp, Nat.div_le_self _ _⟩
  have hSH0 := Lib.hid (spoil_short (N := N) (ds := data) (s := (s : Int)) (by omega))
  clear hres hs hN hdl
  go_enter Try.func12, Try.ntmps12
  go_wp2_with fail
  refine (law11_few hl HR).mono ?_
  rintro e u1 ⟨rfl, hx1⟩
  clear HR
  go_wp2_with fail
  refine (law11_Rows (N := N) (s := s) (hl.ext bl_rep hx1) hn hsb.1 (by omega) hNb.1 hNb.2).mono ?_
  rintro e u2 ⟨g, V, rfl, hrw, hx2⟩
  have gx2 := hx1.trans hx2
  have hrw0 := hrw.low hx1.size
  clear hs0 hN0 hs1 hN1 hrw hl
  go_wp2_with fail
  go_loopw [18] (fun i wr => ∃ (i2 : Nat) (V : Spots) (rows : List (List UInt8)), i2 ≤ N ∧ i = .int .i64 i2 ∧ Rws wr w.heap.size g N V rows ∧ Hid (ShortF rows) ∧ Ext w wr) (fun i _ => N - (intOf i).toNat)
  case atStart => exact ⟨0, V, _, by omega, rfl, hrw0, hSH0, gx2⟩
  case round =>
    clear hrw0 V hSH0
    obtain ⟨i2, V, rows, hi2, rfl, hrw, hsh, hxr⟩ := hrel
    by_cases hlt : i2 < N ∧ i2 < ni
    · obtain ⟨hlt1, hlt2⟩ := hlt
      obtain ⟨Ao, no, co, r, hv, hro, c0, f1, hbo⟩ := hrw.at_ hlt1
      obtain ⟨gi, oi, cv, rfl, hcv, b0⟩ := hi.atI hlt2
      replace b0 := hxr.cell b0
      have hno : no ≤ 10000 := by have := hsh.out r (List.mem_of_getElem? hro); rw [hbo.len] at this; exact this
      obtain ⟨p, hp, hpb⟩ : ∃ p : Nat, bits BinOp.and IntKind.i64 cv 255 = (p : Int) ∧ p ≤ 255 := ⟨(cv % 256).toNat, by rw [and255]; omega, by omega⟩
      obtain ⟨q, hq, hqb⟩ : ∃ q : Nat, (p : Int) % ((no : Int) + 1) = (q : Int) ∧ q ≤ no := ⟨p % (no + 1), by simp, by have := Nat.mod_lt p (show no + 1 > 0 by omega); omega⟩
      obtain ⟨m, hm⟩ : ∃ m, m = no - q := ⟨_, rfl⟩
      have hmI : (no : Int) - (q : Int) = (m : Int) := by omega
      have hmn : m ≤ no := by omega
      obtain ⟨hcut, _⟩ := cut_upto hbo.sl m (m : Int) rfl hmn
      have hcb := hbo.uptoS hmn
      have hgB := hrw.hB
      have hgl := hrw.lt
      have HRW := Lib.hid (fun (u : World) (hx : Ext wr u) => (hrw.ext hx).cut hlt1 hv hmn (hcb.ext hx))
      have HSH := Lib.hid (short_set (j := i2) hsh.out (r := r.take m) (by rw [hcb.len]; omega))
      obtain ⟨R, hR⟩ : ∃ q, rows.set i2 (r.take m) = q := ⟨_, rfl⟩
      rw [hR] at HRW HSH
      clear hrw hv hro hbo hcb hcv hm hR hsh
      obtain ⟨w5, rfl⟩ : ∃ q, q = wr := ⟨_, rfl⟩
      go_wp2_with fail
      refine wp_region_typed2 (R := But w.heap.size (fun _ => False)) Ext.steady (But.steady _ _) (fun _ _ => But.of_ext) rfl 180 rfl [0, 0, 0, 0, 12, 28, 0, 0, 192, 448, 960, 0, 0, 6144, 14336, 30720, 0, 0, 196608, 458752, 983040, 2031616, 4192256, 8388544, 16777212, 33554431, 67108863] 67108864 (by kernel_rfl) ?_
      -- 0: Op.move t17
      apply Stage2.step (Is _) true [] true false (Is.keeps _) (fun _ => Is.keeps _) (by kernel_rfl)
      · intro w1 h1
        have h1 : Ext _ w1 := h1
        simp only [List.nil_append, List.cons_append, List.map_cons, List.map_nil, Given]
        go_wp2_with fail
        exact Post.isv (Ext.refl _) rfl rfl rfl
      -- 1: Op.move t18
      apply Stage2.step (Is _) true [] true false (Is.keeps _) (fun _ => Is.keeps _) (by kernel_rfl)
      · intro w1 h1
        have h1 : Ext _ w1 := h1
        simp only [List.nil_append, List.cons_append, List.map_cons, List.map_nil, Given]
        go_wp2_with fail
        exact Post.isv (Ext.refl _) rfl rfl rfl
      -- 2: Op.move t17
      apply Stage2.step (Is _) true [] true false (Is.keeps _) (fun _ => Is.keeps _) (by kernel_rfl)
      · intro w1 h1
        have h1 : Ext _ w1 := h1
        simp only [List.nil_append, List.cons_append, List.map_cons, List.map_nil, Given]
        go_wp2_with fail
        exact Post.isv (Ext.refl _) rfl rfl rfl
      -- 3: Op.move t18
      apply Stage2.step (Is _) true [] true false (Is.keeps _) (fun _ => Is.keeps _) (by kernel_rfl)
      · intro w1 h1
        have h1 : Ext _ w1 := h1
        simp only [List.nil_append, List.cons_append, List.map_cons, List.map_nil, Given]
        go_wp2_with fail
        exact Post.isv (Ext.refl _) rfl rfl rfl
      -- 4: Op.indexAddr 48 t60 t61
      apply Stage2.step (Is _) true [false, false, true, true] true false (Is.keeps _) (fun _ => Is.keeps _) (by kernel_rfl)
      · intro w1 h1
        have h1 : Ext _ w1 := h1
        simp only [List.nil_append, List.cons_append, List.map_cons, List.map_nil, Sp.pr, Given]
        rintro _ rfl
        rintro _ rfl
        go_wp2_with fail
        exact Post.isv (Ext.refl _) rfl rfl rfl
      -- 5: Op.load 22 t62
      apply Stage2.step (Is _) true [false, false, false, false, true] true false (Is.keeps _) (fun _ => Is.keeps _) (by kernel_rfl)
      · intro w1 h1
        have h1 : Ext _ w1 := h1
        simp only [List.nil_append, List.cons_append, List.map_cons, List.map_nil, Sp.pr, Given]
        rintro _ rfl
        have hq := h1.cell c0
        go_wp2_with fail
        exact Post.isv (Ext.refl _) rfl rfl rfl
      -- 6: Op.move t17
      apply Stage2.step (Is _) true [] true false (Is.keeps _) (fun _ => Is.keeps _) (by kernel_rfl)
      · intro w1 h1
        have h1 : Ext _ w1 := h1
        simp only [List.nil_append, List.cons_append, List.map_cons, List.map_nil, Given]
        go_wp2_with fail
        exact Post.isv (Ext.refl _) rfl rfl rfl
      -- 7: Op.move t18
      apply Stage2.step (Is _) true [] true false (Is.keeps _) (fun _ => Is.keeps _) (by kernel_rfl)
      · intro w1 h1
        have h1 : Ext _ w1 := h1
        simp only [List.nil_append, List.cons_append, List.map_cons, List.map_nil, Given]
        go_wp2_with fail
        exact Post.isv (Ext.refl _) rfl rfl rfl
      -- 8: Op.indexAddr 48 t64 t65
      apply Stage2.step (Is _) true [false, false, false, false, false, false, true, true] true false (Is.keeps _) (fun _ => Is.keeps _) (by kernel_rfl)
      · intro w1 h1
        have h1 : Ext _ w1 := h1
        simp only [List.nil_append, List.cons_append, List.map_cons, List.map_nil, Sp.pr, Given]
        rintro _ rfl
        rintro _ rfl
        go_wp2_with fail
        exact Post.isv (Ext.refl _) rfl rfl rfl
      -- 9: Op.load 22 t66
      apply Stage2.step (Is _) true [false, false, false, false, false, false, false, false, true] true false (Is.keeps _) (fun _ => Is.keeps _) (by kernel_rfl)
      · intro w1 h1
        have h1 : Ext _ w1 := h1
        simp only [List.nil_append, List.cons_append, List.map_cons, List.map_nil, Sp.pr, Given]
        rintro _ rfl
        have hq := h1.cell c0
        go_wp2_with fail
        exact Post.isv (Ext.refl _) rfl rfl rfl
      -- 10: Op.call { builtin len, args := #[t67], argTypes := #[22] }
      apply Stage2.step (Is _) true [false, false, false, false, false, false, false, false, false, true] true false (Is.keeps _) (fun _ => Is.keeps _) (by kernel_rfl)
      · intro w1 h1
        have h1 : Ext _ w1 := h1
        simp only [List.nil_append, List.cons_append, List.map_cons, List.map_nil, Sp.pr, Given]
        rintro _ rfl
        go_wp2_with fail
        exact Post.isv (Ext.refl _) rfl rfl rfl
      -- 11: Op.move t3
      apply Stage2.step (Is _) true [] true false (Is.keeps _) (fun _ => Is.keeps _) (by kernel_rfl)
      · intro w1 h1
        have h1 : Ext _ w1 := h1
        simp only [List.nil_append, List.cons_append, List.map_cons, List.map_nil, Given]
        go_wp2_with fail
        exact Post.isv (Ext.refl _) rfl rfl rfl
      -- 12: Op.move t18
      apply Stage2.step (Is _) true [] true false (Is.keeps _) (fun _ => Is.keeps _) (by kernel_rfl)
      · intro w1 h1
        have h1 : Ext _ w1 := h1
        simp only [List.nil_append, List.cons_append, List.map_cons, List.map_nil, Given]
        go_wp2_with fail
        exact Post.isv (Ext.refl _) rfl rfl rfl
      -- 13: Op.indexAddr 46 t69 t70
      apply Stage2.step (Is _) true [false, false, false, false, false, false, false, false, false, false, false, true, true] true false (Is.keeps _) (fun _ => Is.keeps _) (by kernel_rfl)
      · intro w1 h1
        have h1 : Ext _ w1 := h1
        simp only [List.nil_append, List.cons_append, List.map_cons, List.map_nil, Sp.pr, Given]
        rintro _ rfl
        rintro _ rfl
        go_wp2_with fail
        exact Post.isv (Ext.refl _) rfl rfl rfl
      -- 14: Op.load 3 t71
      apply Stage2.step (Is _) true [false, false, false, false, false, false, false, false, false, false, false, false, false, true] true false (Is.keeps _) (fun _ => Is.keeps _) (by kernel_rfl)
      · intro w1 h1
        have h1 : Ext _ w1 := h1
        simp only [List.nil_append, List.cons_append, List.map_cons, List.map_nil, Sp.pr, Given]
        rintro _ rfl
        have hq := h1.cell b0
        go_wp2_with fail
        exact Post.isv (Ext.refl _) rfl rfl rfl
      -- 15: Op.binOp BinOp.and 3 t72 (const (255:i64)) 3
      apply Stage2.step (Is _) true [false, false, false, false, false, false, false, false, false, false, false, false, false, false, true] true false (Is.keeps _) (fun _ => Is.keeps _) (by kernel_rfl)
      · intro w1 h1
        have h1 : Ext _ w1 := h1
        simp only [List.nil_append, List.cons_append, List.map_cons, List.map_nil, Sp.pr, Given]
        rintro _ rfl
        go_wp2_with fail
        exact Post.isv (Ext.refl _) rfl rfl rfl
      -- 16: Op.move t17
      apply Stage2.step (Is _) true [] true false (Is.keeps _) (fun _ => Is.keeps _) (by kernel_rfl)
      · intro w1 h1
        have h1 : Ext _ w1 := h1
        simp only [List.nil_append, List.cons_append, List.map_cons, List.map_nil, Given]
        go_wp2_with fail
        exact Post.isv (Ext.refl _) rfl rfl rfl
      -- 17: Op.move t18
      apply Stage2.step (Is _) true [] true false (Is.keeps _) (fun _ => Is.keeps _) (by kernel_rfl)
      · intro w1 h1
        have h1 : Ext _ w1 := h1
        simp only [List.nil_append, List.cons_append, List.map_cons, List.map_nil, Given]
        go_wp2_with fail
        exact Post.isv (Ext.refl _) rfl rfl rfl
      -- 18: Op.indexAddr 48 t74 t75
      apply Stage2.step (Is _) true [false, false, false, false, false, false, false, false, false, false, false, false, false, false, false, false, true, true] true false (Is.keeps _) (fun _ => Is.keeps _) (by kernel_rfl)
      · intro w1 h1
        have h1 : Ext _ w1 := h1
        simp only [List.nil_append, List.cons_append, List.map_cons, List.map_nil, Sp.pr, Given]
        rintro _ rfl
        rintro _ rfl
        go_wp2_with fail
        exact Post.isv (Ext.refl _) rfl rfl rfl
      -- 19: Op.load 22 t76
      apply Stage2.step (Is _) true [false, false, false, false, false, false, false, false, false, false, false, false, false, false, false, false, false, false, true] true false (Is.keeps _) (fun _ => Is.keeps _) (by kernel_rfl)
      · intro w1 h1
        have h1 : Ext _ w1 := h1
        simp only [List.nil_append, List.cons_append, List.map_cons, List.map_nil, Sp.pr, Given]
        rintro _ rfl
        have hq := h1.cell c0
        go_wp2_with fail
        exact Post.isv (Ext.refl _) rfl rfl rfl
      -- 20: Op.call { builtin len, args := #[t77], argTypes := #[22] }
      apply Stage2.step (Is _) true [false, false, false, false, false, false, false, false, false, false, false, false, false, false, false, false, false, false, false, true] true false (Is.keeps _) (fun _ => Is.keeps _) (by kernel_rfl)
      · intro w1 h1
        have h1 : Ext _ w1 := h1
        simp only [List.nil_append, List.cons_append, List.map_cons, List.map_nil, Sp.pr, Given]
        rintro _ rfl
        go_wp2_with fail
        exact Post.isv (Ext.refl _) rfl rfl rfl
      -- 21: Op.binOp BinOp.add 3 t78 (const (1:i64)) 3
      apply Stage2.step (Is _) true [false, false, false, false, false, false, false, false, false, false, false, false, false, false, false, false, false, false, false, false, true] true false (Is.keeps _) (fun _ => Is.keeps _) (by kernel_rfl)
      · intro w1 h1
        have h1 : Ext _ w1 := h1
        simp only [List.nil_append, List.cons_append, List.map_cons, List.map_nil, Sp.pr, Given]
        rintro _ rfl
        go_wp2_with fail
        exact Post.isv (Ext.refl _) rfl rfl rfl
      -- 22: Op.binOp BinOp.rem 3 t73 t79 3
      apply Stage2.step (Is _) true [false, false, false, false, false, false, false, false, false, false, false, false, false, false, false, true, false, false, false, false, false, true] true false (Is.keeps _) (fun _ => Is.keeps _) (by kernel_rfl)
      · intro w1 h1
        have h1 : Ext _ w1 := h1
        simp only [List.nil_append, List.cons_append, List.map_cons, List.map_nil, Sp.pr, Given]
        rintro _ rfl
        rintro _ rfl
        go_wp2_with fail
        exact Post.isv (Ext.refl _) rfl rfl rfl
      -- 23: Op.binOp BinOp.sub 3 t68 t80 3
      apply Stage2.step (Is _) true [false, false, false, false, false, false, false, false, false, false, true, false, false, false, false, false, false, false, false, false, false, false, true] true false (Is.keeps _) (fun _ => Is.keeps _) (by kernel_rfl)
      · intro w1 h1
        have h1 : Ext _ w1 := h1
        simp only [List.nil_append, List.cons_append, List.map_cons, List.map_nil, Sp.pr, Given]
        rintro _ rfl
        rintro _ rfl
        go_wp2_with fail
        exact Post.isv (Ext.refl _) rfl rfl rfl
      -- 24: Op.slice 22 t63 none (some t81) none
      apply Stage2.step (Is _) true [false, false, false, false, false, true, false, false, false, false, false, false, false, false, false, false, false, false, false, false, false, false, false, true] true false (Is.keeps _) (fun _ => Is.keeps _) (by kernel_rfl)
      · intro w1 h1
        have h1 : Ext _ w1 := h1
        simp only [List.nil_append, List.cons_append, List.map_cons, List.map_nil, Sp.pr, Given]
        rintro _ rfl
        rintro _ rfl
        go_wp2_with fail
        exact Post.isv (Ext.refl _) rfl rfl rfl
      -- 25: Op.indexAddr 48 t58 t59
      apply Stage2.step (Is _) true [true, true] true false (Is.keeps _) (fun _ => Is.keeps _) (by kernel_rfl)
      · intro w1 h1
        have h1 : Ext _ w1 := h1
        simp only [List.nil_append, List.cons_append, List.map_cons, List.map_nil, Sp.pr, Given]
        rintro _ rfl
        rintro _ rfl
        go_wp2_with fail
        exact Post.isv (Ext.refl _) rfl rfl rfl
      -- 26: Op.store 22 t83 t82
      apply Stage2.step (REn w.heap.size g N 0 0 R) false [false, false, false, false, false, false, false, false, false, false, false, false, false, false, false, false, false, false, false, false, false, false, false, false, true, true] true true (REn.keeps _ _ _ _ _ _) (no_keeps) (by kernel_rfl)
      · intro w1 h1
        have h1 : Ext _ w1 := h1
        simp only [List.nil_append, List.cons_append, List.map_cons, List.map_nil, Sp.pr, Given]
        rintro _ rfl
        rintro _ rfl
        have z0 := h1.cell c0
        have zf : w1.frozen? ⟨g, i2, none⟩ = false := by
          have e : w1.frozen? ⟨g, i2, none⟩ = w5.frozen? ⟨g, i2, none⟩ := Below.frozen h1 hgl
          rw [e]; exact f1
        go_wp2_with fail
        exact ⟨rfl, rfl, But.setCell (p := ⟨g, i2, none⟩) (But.refl _ _ _) (.inr hgB) _, _, HRW.out w1 h1, fun _ _ _ _ => .inr (Nat.zero_le _)⟩
      apply Stage2.nil [true, true, true, true, true, true, true, true, true, true, true, true, true, true, true, true, true, true, true, true, true, true, true, true, true, true, true] (by kernel_rfl)
      intro w1 h1
      have h1 : (But w.heap.size (fun _ => False)) _ w1 := h1
      simp only [List.nil_append, List.cons_append, List.map_cons, List.map_nil, Sp.pr]
      refine Fin2.is_ ?_
      refine Fin2.is_ ?_
      refine Fin2.is_ ?_
      refine Fin2.is_ ?_
      refine Fin2.is_ ?_
      refine Fin2.is_ ?_
      refine Fin2.is_ ?_
      refine Fin2.is_ ?_
      refine Fin2.is_ ?_
      refine Fin2.is_ ?_
      refine Fin2.is_ ?_
      refine Fin2.is_ ?_
      refine Fin2.is_ ?_
      refine Fin2.is_ ?_
      refine Fin2.is_ ?_
      refine Fin2.is_ ?_
      refine Fin2.is_ ?_
      refine Fin2.is_ ?_
      refine Fin2.is_ ?_
      refine Fin2.is_ ?_
      refine Fin2.is_ ?_
      refine Fin2.is_ ?_
      refine Fin2.is_ ?_
      refine Fin2.is_ ?_
      refine Fin2.is_ ?_
      refine Fin2.is_ ?_
      refine Fin2.step_ ?_
      rintro _ ⟨V12, h12, hin12⟩
      refine Fin2.nil_ ?_
      go_simp
      obtain ⟨wm, rfl⟩ : ∃ q, q = w1 := ⟨_, rfl⟩
      go_wp2_with fail
      go_roundw
      case rel => exact ⟨i2 + 1, V12, _, by omega, by go_num, h12, HSH, hxr.but h1 (Nat.le_refl _) (fun _ h => h.elim)⟩
      case measure => simp [intOf]; omega
    · obtain ⟨Ao, no, co, r, hv, hro, c0, f1, hbo⟩ := hrw.at_ hkN
      have hno : no ≤ 10000 := by have := hsh.out r (List.mem_of_getElem? hro); rw [hbo.len] at this; exact this
      by_cases hlt1 : i2 < N
      · have hlt2 : decide ((i2 : Int) < (ni : Int)) = false := by simp; omega
        have hlt3 : decide (i2 < ni) = false := by simp; omega
        clear hlt
        by_cases hno0 : 0 < no
        · obtain ⟨j, hj, hjn⟩ : ∃ j : Nat, (dv : Int) % (no : Int) = (j : Int) ∧ j < no := ⟨dv % no, by simp, Nat.mod_lt _ hno0⟩
          obtain ⟨gj, rfl, hgjB, hgjl, hcell⟩ := hbo.open_ (by omega)
          obtain ⟨c1, f2⟩ := hcell j hjn
          obtain ⟨y, hy⟩ : ∃ y, y = r.getD j 0 := ⟨_, rfl⟩
          rw [← hy] at c1
          have hval : bits .xor .u8 (y.toNat : Int) (x7 : Int) = (((y ^^^ UInt8.ofNat x7).toNat : Nat) : Int) := by
            have e : (x7 : Int) = (((UInt8.ofNat x7).toNat : Nat) : Int) := by simp; omega
            rw [e, u8_xor_nat _ _ y.toNat_lt (UInt8.toNat_lt _), UInt8.toNat_xor]
          have HRW := Lib.hid (fun (u : World) (hx : Ext wr u) => (hrw.ext hx).poke hkN hv hro hjn (y ^^^ UInt8.ofNat x7))
          have HSH := Lib.hid (short_set (j := k) hsh.out (r := r.set j (y ^^^ UInt8.ofNat x7)) (by rw [List.length_set, hbo.len]; exact hno))
          obtain ⟨RT, hRT⟩ : ∃ q, rows.set k (r.set j (y ^^^ UInt8.ofNat x7)) = q := ⟨_, rfl⟩
          rw [hRT] at HRW HSH
          clear hrw hv hro hbo hRT hsh hcell hy
          obtain ⟨w5, rfl⟩ : ∃ q, q = wr := ⟨_, rfl⟩
          go_wp2_with fail
          refine wp_region_typed2 (R := But w.heap.size (fun _ => False)) Ext.steady (But.steady _ _) (fun _ _ => But.of_ext) rfl 180 rfl [0, 0, 3, 7, 0, 0, 48, 0, 0, 384, 896, 1920, 4080, 8191, 16383, 0, 65535, 131071, 262143] 262144 (by kernel_rfl) ?_
          -- 0: Op.move t17
          apply Stage2.step (Is _) true [] true false (Is.keeps _) (fun _ => Is.keeps _) (by kernel_rfl)
          · intro w1 h1
            have h1 : Ext _ w1 := h1
            simp only [List.nil_append, List.cons_append, List.map_cons, List.map_nil, Given]
            go_wp2_with fail
            exact Post.isv (Ext.refl _) rfl rfl rfl
          -- 1: Op.move t19
          apply Stage2.step (Is _) true [] true false (Is.keeps _) (fun _ => Is.keeps _) (by kernel_rfl)
          · intro w1 h1
            have h1 : Ext _ w1 := h1
            simp only [List.nil_append, List.cons_append, List.map_cons, List.map_nil, Given]
            go_wp2_with fail
            exact Post.isv (Ext.refl _) rfl rfl rfl
          -- 2: Op.indexAddr 48 t93 t94
          apply Stage2.step (Is _) true [true, true] true false (Is.keeps _) (fun _ => Is.keeps _) (by kernel_rfl)
          · intro w1 h1
            have h1 : Ext _ w1 := h1
            simp only [List.nil_append, List.cons_append, List.map_cons, List.map_nil, Sp.pr, Given]
            rintro _ rfl
            rintro _ rfl
            go_wp2_with fail
            exact Post.isv (Ext.refl _) rfl rfl rfl
          -- 3: Op.load 22 t95
          apply Stage2.step (Is _) true [false, false, true] true false (Is.keeps _) (fun _ => Is.keeps _) (by kernel_rfl)
          · intro w1 h1
            have h1 : Ext _ w1 := h1
            simp only [List.nil_append, List.cons_append, List.map_cons, List.map_nil, Sp.pr, Given]
            rintro _ rfl
            have hq := h1.cell c0
            go_wp2_with fail
            exact Post.isv (Ext.refl _) rfl rfl rfl
          -- 4: Op.move t4
          apply Stage2.step (Is _) true [] true false (Is.keeps _) (fun _ => Is.keeps _) (by kernel_rfl)
          · intro w1 h1
            have h1 : Ext _ w1 := h1
            simp only [List.nil_append, List.cons_append, List.map_cons, List.map_nil, Given]
            go_wp2_with fail
            exact Post.isv (Ext.refl _) rfl rfl rfl
          -- 5: Op.move t2
          apply Stage2.step (Is _) true [] true false (Is.keeps _) (fun _ => Is.keeps _) (by kernel_rfl)
          · intro w1 h1
            have h1 : Ext _ w1 := h1
            simp only [List.nil_append, List.cons_append, List.map_cons, List.map_nil, Given]
            go_wp2_with fail
            exact Post.isv (Ext.refl _) rfl rfl rfl
          -- 6: Op.binOp BinOp.quo 3 t97 t98 3
          apply Stage2.step (Is _) true [false, false, false, false, true, true] true false (Is.keeps _) (fun _ => Is.keeps _) (by kernel_rfl)
          · intro w1 h1
            have h1 : Ext _ w1 := h1
            simp only [List.nil_append, List.cons_append, List.map_cons, List.map_nil, Sp.pr, Given]
            rintro _ rfl
            rintro _ rfl
            go_wp2_with fail
            exact Post.isv (Ext.refl _) rfl rfl rfl
          -- 7: Op.move t17
          apply Stage2.step (Is _) true [] true false (Is.keeps _) (fun _ => Is.keeps _) (by kernel_rfl)
          · intro w1 h1
            have h1 : Ext _ w1 := h1
            simp only [List.nil_append, List.cons_append, List.map_cons, List.map_nil, Given]
            go_wp2_with fail
            exact Post.isv (Ext.refl _) rfl rfl rfl
          -- 8: Op.move t19
          apply Stage2.step (Is _) true [] true false (Is.keeps _) (fun _ => Is.keeps _) (by kernel_rfl)
          · intro w1 h1
            have h1 : Ext _ w1 := h1
            simp only [List.nil_append, List.cons_append, List.map_cons, List.map_nil, Given]
            go_wp2_with fail
            exact Post.isv (Ext.refl _) rfl rfl rfl
          -- 9: Op.indexAddr 48 t100 t101
          apply Stage2.step (Is _) true [false, false, false, false, false, false, false, true, true] true false (Is.keeps _) (fun _ => Is.keeps _) (by kernel_rfl)
          · intro w1 h1
            have h1 : Ext _ w1 := h1
            simp only [List.nil_append, List.cons_append, List.map_cons, List.map_nil, Sp.pr, Given]
            rintro _ rfl
            rintro _ rfl
            go_wp2_with fail
            exact Post.isv (Ext.refl _) rfl rfl rfl
          -- 10: Op.load 22 t102
          apply Stage2.step (Is _) true [false, false, false, false, false, false, false, false, false, true] true false (Is.keeps _) (fun _ => Is.keeps _) (by kernel_rfl)
          · intro w1 h1
            have h1 : Ext _ w1 := h1
            simp only [List.nil_append, List.cons_append, List.map_cons, List.map_nil, Sp.pr, Given]
            rintro _ rfl
            have hq := h1.cell c0
            go_wp2_with fail
            exact Post.isv (Ext.refl _) rfl rfl rfl
          -- 11: Op.call { builtin len, args := #[t103], argTypes := #[22] }
          apply Stage2.step (Is _) true [false, false, false, false, false, false, false, false, false, false, true] true false (Is.keeps _) (fun _ => Is.keeps _) (by kernel_rfl)
          · intro w1 h1
            have h1 : Ext _ w1 := h1
            simp only [List.nil_append, List.cons_append, List.map_cons, List.map_nil, Sp.pr, Given]
            rintro _ rfl
            go_wp2_with fail
            exact Post.isv (Ext.refl _) rfl rfl rfl
          -- 12: Op.binOp BinOp.rem 3 t99 t104 3
          apply Stage2.step (Is _) true [false, false, false, false, false, false, true, false, false, false, false, true] true false (Is.keeps _) (fun _ => Is.keeps _) (by kernel_rfl)
          · intro w1 h1
            have h1 : Ext _ w1 := h1
            simp only [List.nil_append, List.cons_append, List.map_cons, List.map_nil, Sp.pr, Given]
            rintro _ rfl
            rintro _ rfl
            go_wp2_with fail
            exact Post.isv (Ext.refl _) rfl rfl rfl
          -- 13: Op.indexAddr 22 t96 t105
          apply Stage2.step (Is _) true [false, false, false, true, false, false, false, false, false, false, false, false, true] true false (Is.keeps _) (fun _ => Is.keeps _) (by kernel_rfl)
          · intro w1 h1
            have h1 : Ext _ w1 := h1
            simp only [List.nil_append, List.cons_append, List.map_cons, List.map_nil, Sp.pr, Given]
            rintro _ rfl
            rintro _ rfl
            go_wp2_with fail
            exact Post.isv (Ext.refl _) rfl rfl rfl
          -- 14: Op.load 5 t106
          apply Stage2.step (Is _) true [false, false, false, false, false, false, false, false, false, false, false, false, false, true] true false (Is.keeps _) (fun _ => Is.keeps _) (by kernel_rfl)
          · intro w1 h1
            have h1 : Ext _ w1 := h1
            simp only [List.nil_append, List.cons_append, List.map_cons, List.map_nil, Sp.pr, Given]
            rintro _ rfl
            have hq := h1.cell c1
            go_wp2_with fail
            exact Post.isv (Ext.refl _) rfl rfl rfl
          -- 15: Op.move t7
          apply Stage2.step (Is _) true [] true false (Is.keeps _) (fun _ => Is.keeps _) (by kernel_rfl)
          · intro w1 h1
            have h1 : Ext _ w1 := h1
            simp only [List.nil_append, List.cons_append, List.map_cons, List.map_nil, Given]
            go_wp2_with fail
            exact Post.isv (Ext.refl _) rfl rfl rfl
          -- 16: Op.binOp BinOp.xor 5 t107 t108 5
          apply Stage2.step (Is _) true [false, false, false, false, false, false, false, false, false, false, false, false, false, false, true, true] true false (Is.keeps _) (fun _ => Is.keeps _) (by kernel_rfl)
          · intro w1 h1
            have h1 : Ext _ w1 := h1
            simp only [List.nil_append, List.cons_append, List.map_cons, List.map_nil, Sp.pr, Given]
            rintro _ rfl
            rintro _ rfl
            go_wp2_with fail
            exact Post.isv (Ext.refl _) rfl rfl rfl
          -- 17: Op.indexAddr 22 t96 t105
          apply Stage2.step (Is _) true [false, false, false, true, false, false, false, false, false, false, false, false, true] true false (Is.keeps _) (fun _ => Is.keeps _) (by kernel_rfl)
          · intro w1 h1
            have h1 : Ext _ w1 := h1
            simp only [List.nil_append, List.cons_append, List.map_cons, List.map_nil, Sp.pr, Given]
            rintro _ rfl
            rintro _ rfl
            go_wp2_with fail
            exact Post.isv (Ext.refl _) rfl rfl rfl
          -- 18: Op.store 5 t110 t109
          apply Stage2.step (REn w.heap.size g N 0 0 RT) false [false, false, false, false, false, false, false, false, false, false, false, false, false, false, false, false, true, true] true true (REn.keeps _ _ _ _ _ _) (no_keeps) (by kernel_rfl)
          · intro w1 h1
            have h1 : Ext _ w1 := h1
            simp only [List.nil_append, List.cons_append, List.map_cons, List.map_nil, Sp.pr, Given]
            rintro _ rfl
            rintro _ rfl
            have z0 := h1.cell c1
            have zf : w1.frozen? ⟨gj, j, none⟩ = false := by
              have e : w1.frozen? ⟨gj, j, none⟩ = w5.frozen? ⟨gj, j, none⟩ := Below.frozen h1 hgjl
              rw [e]; exact f2
            go_wp2_with fail
            exact ⟨rfl, rfl, But.setCell (p := ⟨gj, j, none⟩) (But.refl _ _ _) (.inr hgjB) _, _, HRW.out w1 h1, fun _ _ _ _ => .inr (Nat.zero_le _)⟩
          apply Stage2.nil [true, true, true, true, true, true, true, true, true, true, true, true, true, true, true, true, true, true, true] (by kernel_rfl)
          intro w1 h1
          have h1 : (But w.heap.size (fun _ => False)) _ w1 := h1
          simp only [List.nil_append, List.cons_append, List.map_cons, List.map_nil, Sp.pr]
          refine Fin2.is_ ?_
          refine Fin2.is_ ?_
          refine Fin2.is_ ?_
          refine Fin2.is_ ?_
          refine Fin2.is_ ?_
          refine Fin2.is_ ?_
          refine Fin2.is_ ?_
          refine Fin2.is_ ?_
          refine Fin2.is_ ?_
          refine Fin2.is_ ?_
          refine Fin2.is_ ?_
          refine Fin2.is_ ?_
          refine Fin2.is_ ?_
          refine Fin2.is_ ?_
          refine Fin2.is_ ?_
          refine Fin2.is_ ?_
          refine Fin2.is_ ?_
          refine Fin2.is_ ?_
          refine Fin2.step_ ?_
          rintro _ ⟨V12, h12, hin12⟩
          refine Fin2.nil_ ?_
          go_simp
          obtain ⟨wt, rfl⟩ : ∃ q, q = w1 := ⟨_, rfl⟩
          have hxt := hxr.but h1 (Nat.le_refl _) (fun _ h => h.elim)
          have hrt := h12
          have hsht := HSH
          clear h12 HRW HSH hxr h1 c0 c1 f1 f2 hin12 hval hj
          have hlr := hrt.lst (by simp only [maxLen]; omega)
          go_wp2_with fail
          refine (scan_Ends (last := la) hlr (by omega) hsht.out).mono ?_
          rintro e u4 ⟨A5, c5, rfl, h5, hx5⟩
          have gx5 := hxt.trans hx5
          replace hlr := hlr.ext bl_rep hx5
          replace hrt := hrt.ext hx5
          obtain ⟨F, hF⟩ : ∃ q : List UInt8 → Bool, (fun r => decide (endL r la < r.length)) = q := ⟨_, rfl⟩
          have HF := Lib.hid hF
          clear hF
          go_wp2_with fail
          go_loopw [21, 22] (fun t i wr => ∃ (k2 : Nat) (tb : Bool), k2 ≤ N ∧ t = .bool tb ∧ i = .int .i64 k2 ∧ Hid ((RT.take k2).any F = tb) ∧ Ext u4 wr) (fun _ i _ => N - (intOf i).toNat)
          case atStart => exact ⟨0, false, by omega, rfl, rfl, rfl, Ext.refl _⟩
          case round =>
            obtain ⟨k2, tb, hk2, rfl, rfl, htb, hxq⟩ := hrel
            by_cases hlt2 : k2 < N
            · obtain ⟨Aq, nq, cq, r, hvq, hrq, c1, f1, hbq⟩ := hrt.at_ hlt2
              obtain ⟨ge, oe, ev, rfl, hev, e0⟩ := h5.lst.atI hlt2
              obtain ⟨m, hm⟩ : ∃ q, endL r la = q := ⟨_, rfl⟩
              have hee := ends_at (last := la) hrq
              rw [hev, hm] at hee
              injection hee with hee
              subst hee
              have hnx := any_nextS (f := F) hrq
              have hql := hbq.len
              have hFr : F r = decide (m < nq) := by have := congrFun HF.out r; rw [← this]; simp only [hm, hql]
              rw [hFr, htb.out] at hnx
              have hnq : nq ≤ 10000 := by have := hsht.out r (List.mem_of_getElem? hrq); rw [hql] at this; exact this
              have hmb : m ≤ 10000 := by have := endL_le r la; omega
              replace c1 := hxq.cell c1
              replace e0 := hxq.cell e0
              cases tb with
              | true =>
                have HNX := Lib.hid hnx
                clear hnx hFr hrq hvq hbq hev hm hql htb f1
                go_wp2_with fail
                go_quiet (fail)
                go_wp2_with fail
                go_roundw
                case rel => exact ⟨k2 + 1, true, by omega, rfl, by go_num, by rw [HNX.out]; rfl, hxq.drewN _⟩
                case measure => simp [intOf]; omega
              | false =>
                by_cases hmn : m < nq
                · have HNX : Hid ((RT.take (k2 + 1)).any F = true) := by unfold Hid; rw [hnx]; simpa using hmn
                  clear hnx hFr hrq hvq hbq hev hm hql htb f1
                  go_wp2_with fail
                  go_quiet (fail)
                  go_wp2_with fail
                  go_roundw
                  case rel => exact ⟨k2 + 1, true, by omega, rfl, by go_num, HNX, hxq.drewN _⟩
                  case measure => simp [intOf]; omega
                · have HNX : Hid ((RT.take (k2 + 1)).any F = false) := by unfold Hid; rw [hnx]; simpa using hmn
                  have hmn2 : decide ((m : Int) < (nq : Int)) = false := by simp; omega
                  have hmn3 : decide (m < nq) = false := by simp; omega
                  clear hnx hFr hrq hvq hbq hev hm hql htb f1 hmn
                  go_wp2_with fail
                  go_quiet (fail)
                  go_wp2_with fail
                  go_roundw
                  case rel => exact ⟨k2 + 1, false, by omega, rfl, by go_num, HNX, hxq.drewN _⟩
                  case measure => simp [intOf]; omega
            · obtain rfl : k2 = N := by omega
              have e := htb.out
              rw [List.take_of_length_le (by rw [hlr.len]; exact Nat.le_refl _), ← HF.out] at e
              have HT : Hid (tornL RT la = tb) := e
              have gxq := gx5.trans hxq
              replace hlr := hlr.ext bl_rep hxq
              have h5l := h5.lst.ext int_rep hxq
              obtain ⟨fi, hfi⟩ : ∃ q, firstL RT = q := ⟨_, rfl⟩
              have HFI := Lib.hid hfi
              clear htb e h5 hrt HF hfi
              go_wp2_with fail
              refine (scan_Merge hlr (by omega) hsht.out (by omega) (s := fr)).mono ?_
              rintro e v2 ⟨A2, n2, c2, rfl, h2, hy2⟩
              replace gxq := gxq.trans hy2
              replace hlr := hlr.ext bl_rep hy2
              replace h5l := h5l.ext int_rep hy2
              go_wp2_with fail
              refine (ref10_Merge hlr (by omega) hsht.out (by omega) (s := fr)).mono ?_
              rintro e v3 ⟨A3, n3, c3, rfl, h3, hy3⟩
              replace gxq := gxq.trans hy3
              replace hlr := hlr.ext bl_rep hy3
              replace h5l := h5l.ext int_rep hy3
              go_wp2_with fail
              have hcl := ref_SameEntries (h2.lst.ext en_rep hy3) h3.lst
              rw [sameEn_self] at hcl
              refine hcl.mono ?_
              rintro e v4 ⟨rfl, hy4⟩
              replace gxq := gxq.trans hy4
              replace hlr := hlr.ext bl_rep hy4
              replace h5l := h5l.ext int_rep hy4
              clear hcl h2 h3
              go_wp2_with fail
              refine (ref10_Ends (last := la) hlr (by omega) hsht.out).mono ?_
              rintro e v6 ⟨A6, c6, rfl, h6, hy6⟩
              replace gxq := gxq.trans hy6
              replace hlr := hlr.ext bl_rep hy6
              go_wp2_with fail
              refine (ref10_Same (h5l.ext int_rep hy6) h6.lst (res := true) (Lib.hid (decide_eq_true rfl))).mono ?_
              rintro e v7 ⟨rfl, hy7⟩
              replace gxq := gxq.trans hy7
              replace hlr := hlr.ext bl_rep hy7
              clear h5l h6
              go_wp2_with fail
              refine (scan_First hlr (by omega) hsht.out HFI).mono ?_
              rintro e v8 ⟨rfl, hy8⟩
              replace gxq := gxq.trans hy8
              replace hlr := hlr.ext bl_rep hy8
              go_wp2_with fail
              refine (ref10_First hlr (by omega) hsht.out HFI).mono ?_
              rintro e v9 ⟨rfl, hy9⟩
              replace gxq := gxq.trans hy9
              replace hlr := hlr.ext bl_rep hy9
              clear HFI
              go_wp2_with fail
              refine (scan_Torn (last := la) hlr (by omega) hsht.out HT).mono ?_
              rintro e v10 ⟨rfl, hy10⟩
              replace gxq := gxq.trans hy10
              clear HT
              cases tb
              all_goals
                go_wp2_with fail
                refine (law11_known v10).mono ?_
                rintro e v11 ⟨rfl, hy11⟩
                go_wp2_with fail
                go_ret
                exact ⟨rfl, gxq.trans hy11⟩
        · have hno1 : no = 0 := by omega
          subst hno1
          have hxt := hxr
          have hrt := hrw
          have hsht := hsh
          obtain ⟨RT, rfl⟩ : ∃ q, q = rows := ⟨_, rfl⟩
          clear hrw hsh hxr hro hv hbo f1
          have hlr := hrt.lst (by simp only [maxLen]; omega)
          go_wp2_with fail
          refine (scan_Ends (last := la) hlr (by omega) hsht.out).mono ?_
          rintro e u4 ⟨A5, c5, rfl, h5, hx5⟩
          have gx5 := hxt.trans hx5
          replace hlr := hlr.ext bl_rep hx5
          replace hrt := hrt.ext hx5
          obtain ⟨F, hF⟩ : ∃ q : List UInt8 → Bool, (fun r => decide (endL r la < r.length)) = q := ⟨_, rfl⟩
          have HF := Lib.hid hF
          clear hF
          go_wp2_with fail
          go_loopw [21, 22] (fun t i wr => ∃ (k2 : Nat) (tb : Bool), k2 ≤ N ∧ t = .bool tb ∧ i = .int .i64 k2 ∧ Hid ((RT.take k2).any F = tb) ∧ Ext u4 wr) (fun _ i _ => N - (intOf i).toNat)
          case atStart => exact ⟨0, false, by omega, rfl, rfl, rfl, Ext.refl _⟩
          case round =>
            obtain ⟨k2, tb, hk2, rfl, rfl, htb, hxq⟩ := hrel
            by_cases hlt2 : k2 < N
            · obtain ⟨Aq, nq, cq, r, hvq, hrq, c1, f1, hbq⟩ := hrt.at_ hlt2
              obtain ⟨ge, oe, ev, rfl, hev, e0⟩ := h5.lst.atI hlt2
              obtain ⟨m, hm⟩ : ∃ q, endL r la = q := ⟨_, rfl⟩
              have hee := ends_at (last := la) hrq
              rw [hev, hm] at hee
              injection hee with hee
              subst hee
              have hnx := any_nextS (f := F) hrq
              have hql := hbq.len
              have hFr : F r = decide (m < nq) := by have := congrFun HF.out r; rw [← this]; simp only [hm, hql]
              rw [hFr, htb.out] at hnx
              have hnq : nq ≤ 10000 := by have := hsht.out r (List.mem_of_getElem? hrq); rw [hql] at this; exact this
              have hmb : m ≤ 10000 := by have := endL_le r la; omega
              replace c1 := hxq.cell c1
              replace e0 := hxq.cell e0
              cases tb with
              | true =>
                have HNX := Lib.hid hnx
                clear hnx hFr hrq hvq hbq hev hm hql htb f1
                go_wp2_with fail
                go_quiet (fail)
                go_wp2_with fail
                go_roundw
                case rel => exact ⟨k2 + 1, true, by omega, rfl, by go_num, by rw [HNX.out]; rfl, hxq.drewN _⟩
                case measure => simp [intOf]; omega
              | false =>
                by_cases hmn : m < nq
                · have HNX : Hid ((RT.take (k2 + 1)).any F = true) := by unfold Hid; rw [hnx]; simpa using hmn
                  clear hnx hFr hrq hvq hbq hev hm hql htb f1
                  go_wp2_with fail
                  go_quiet (fail)
                  go_wp2_with fail
                  go_roundw
                  case rel => exact ⟨k2 + 1, true, by omega, rfl, by go_num, HNX, hxq.drewN _⟩
                  case measure => simp [intOf]; omega
                · have HNX : Hid ((RT.take (k2 + 1)).any F = false) := by unfold Hid; rw [hnx]; simpa using hmn
                  have hmn2 : decide ((m : Int) < (nq : Int)) = false := by simp; omega
                  have hmn3 : decide (m < nq) = false := by simp; omega
                  clear hnx hFr hrq hvq hbq hev hm hql htb f1 hmn
                  go_wp2_with fail
                  go_quiet (fail)
                  go_wp2_with fail
                  go_roundw
                  case rel => exact ⟨k2 + 1, false, by omega, rfl, by go_num, HNX, hxq.drewN _⟩
                  case measure => simp [intOf]; omega
            · obtain rfl : k2 = N := by omega
              have e := htb.out
              rw [List.take_of_length_le (by rw [hlr.len]; exact Nat.le_refl _), ← HF.out] at e
              have HT : Hid (tornL RT la = tb) := e
              have gxq := gx5.trans hxq
              replace hlr := hlr.ext bl_rep hxq
              have h5l := h5.lst.ext int_rep hxq
              obtain ⟨fi, hfi⟩ : ∃ q, firstL RT = q := ⟨_, rfl⟩
              have HFI := Lib.hid hfi
              clear htb e h5 hrt HF hfi
              go_wp2_with fail
              refine (scan_Merge hlr (by omega) hsht.out (by omega) (s := fr)).mono ?_
              rintro e v2 ⟨A2, n2, c2, rfl, h2, hy2⟩
              replace gxq := gxq.trans hy2
              replace hlr := hlr.ext bl_rep hy2
              replace h5l := h5l.ext int_rep hy2
              go_wp2_with fail
              refine (ref10_Merge hlr (by omega) hsht.out (by omega) (s := fr)).mono ?_
              rintro e v3 ⟨A3, n3, c3, rfl, h3, hy3⟩
              replace gxq := gxq.trans hy3
              replace hlr := hlr.ext bl_rep hy3
              replace h5l := h5l.ext int_rep hy3
              go_wp2_with fail
              have hcl := ref_SameEntries (h2.lst.ext en_rep hy3) h3.lst
              rw [sameEn_self] at hcl
              refine hcl.mono ?_
              rintro e v4 ⟨rfl, hy4⟩
              replace gxq := gxq.trans hy4
              replace hlr := hlr.ext bl_rep hy4
              replace h5l := h5l.ext int_rep hy4
              clear hcl h2 h3
              go_wp2_with fail
              refine (ref10_Ends (last := la) hlr (by omega) hsht.out).mono ?_
              rintro e v6 ⟨A6, c6, rfl, h6, hy6⟩
              replace gxq := gxq.trans hy6
              replace hlr := hlr.ext bl_rep hy6
              go_wp2_with fail
              refine (ref10_Same (h5l.ext int_rep hy6) h6.lst (res := true) (Lib.hid (decide_eq_true rfl))).mono ?_
              rintro e v7 ⟨rfl, hy7⟩
              replace gxq := gxq.trans hy7
              replace hlr := hlr.ext bl_rep hy7
              clear h5l h6
              go_wp2_with fail
              refine (scan_First hlr (by omega) hsht.out HFI).mono ?_
              rintro e v8 ⟨rfl, hy8⟩
              replace gxq := gxq.trans hy8
              replace hlr := hlr.ext bl_rep hy8
              go_wp2_with fail
              refine (ref10_First hlr (by omega) hsht.out HFI).mono ?_
              rintro e v9 ⟨rfl, hy9⟩
              replace gxq := gxq.trans hy9
              replace hlr := hlr.ext bl_rep hy9
              clear HFI
              go_wp2_with fail
              refine (scan_Torn (last := la) hlr (by omega) hsht.out HT).mono ?_
              rintro e v10 ⟨rfl, hy10⟩
              replace gxq := gxq.trans hy10
              clear HT
              cases tb
              all_goals
                go_wp2_with fail
                refine (law11_known v10).mono ?_
                rintro e v11 ⟨rfl, hy11⟩
                go_wp2_with fail
                go_ret
                exact ⟨rfl, gxq.trans hy11⟩
      · have hlt2 : decide ((i2 : Int) < (N : Int)) = false := by simp; omega
        have hlt3 : decide (i2 < N) = false := by simp; omega
        clear hlt
        by_cases hno0 : 0 < no
        · obtain ⟨j, hj, hjn⟩ : ∃ j : Nat, (dv : Int) % (no : Int) = (j : Int) ∧ j < no := ⟨dv % no, by simp, Nat.mod_lt _ hno0⟩
          obtain ⟨gj, rfl, hgjB, hgjl, hcell⟩ := hbo.open_ (by omega)
          obtain ⟨c1, f2⟩ := hcell j hjn
          obtain ⟨y, hy⟩ : ∃ y, y = r.getD j 0 := ⟨_, rfl⟩
          rw [← hy] at c1
          have hval : bits .xor .u8 (y.toNat : Int) (x7 : Int) = (((y ^^^ UInt8.ofNat x7).toNat : Nat) : Int) := by
            have e : (x7 : Int) = (((UInt8.ofNat x7).toNat : Nat) : Int) := by simp; omega
            rw [e, u8_xor_nat _ _ y.toNat_lt (UInt8.toNat_lt _), UInt8.toNat_xor]
          have HRW := Lib.hid (fun (u : World) (hx : Ext wr u) => (hrw.ext hx).poke hkN hv hro hjn (y ^^^ UInt8.ofNat x7))
          have HSH := Lib.hid (short_set (j := k) hsh.out (r := r.set j (y ^^^ UInt8.ofNat x7)) (by rw [List.length_set, hbo.len]; exact hno))
          obtain ⟨RT, hRT⟩ : ∃ q, rows.set k (r.set j (y ^^^ UInt8.ofNat x7)) = q := ⟨_, rfl⟩
          rw [hRT] at HRW HSH
          clear hrw hv hro hbo hRT hsh hcell hy
          obtain ⟨w5, rfl⟩ : ∃ q, q = wr := ⟨_, rfl⟩
          go_wp2_with fail
          refine wp_region_typed2 (R := But w.heap.size (fun _ => False)) Ext.steady (But.steady _ _) (fun _ _ => But.of_ext) rfl 180 rfl [0, 0, 3, 7, 0, 0, 48, 0, 0, 384, 896, 1920, 4080, 8191, 16383, 0, 65535, 131071, 262143] 262144 (by kernel_rfl) ?_
          -- 0: Op.move t17
          apply Stage2.step (Is _) true [] true false (Is.keeps _) (fun _ => Is.keeps _) (by kernel_rfl)
          · intro w1 h1
            have h1 : Ext _ w1 := h1
            simp only [List.nil_append, List.cons_append, List.map_cons, List.map_nil, Given]
            go_wp2_with fail
            exact Post.isv (Ext.refl _) rfl rfl rfl
          -- 1: Op.move t19
          apply Stage2.step (Is _) true [] true false (Is.keeps _) (fun _ => Is.keeps _) (by kernel_rfl)
          · intro w1 h1
            have h1 : Ext _ w1 := h1
            simp only [List.nil_append, List.cons_append, List.map_cons, List.map_nil, Given]
            go_wp2_with fail
            exact Post.isv (Ext.refl _) rfl rfl rfl
          -- 2: Op.indexAddr 48 t93 t94
          apply Stage2.step (Is _) true [true, true] true false (Is.keeps _) (fun _ => Is.keeps _) (by kernel_rfl)
          · intro w1 h1
            have h1 : Ext _ w1 := h1
            simp only [List.nil_append, List.cons_append, List.map_cons, List.map_nil, Sp.pr, Given]
            rintro _ rfl
            rintro _ rfl
            go_wp2_with fail
            exact Post.isv (Ext.refl _) rfl rfl rfl
          -- 3: Op.load 22 t95
          apply Stage2.step (Is _) true [false, false, true] true false (Is.keeps _) (fun _ => Is.keeps _) (by kernel_rfl)
          · intro w1 h1
            have h1 : Ext _ w1 := h1
            simp only [List.nil_append, List.cons_append, List.map_cons, List.map_nil, Sp.pr, Given]
            rintro _ rfl
            have hq := h1.cell c0
            go_wp2_with fail
            exact Post.isv (Ext.refl _) rfl rfl rfl
          -- 4: Op.move t4
          apply Stage2.step (Is _) true [] true false (Is.keeps _) (fun _ => Is.keeps _) (by kernel_rfl)
          · intro w1 h1
            have h1 : Ext _ w1 := h1
            simp only [List.nil_append, List.cons_append, List.map_cons, List.map_nil, Given]
            go_wp2_with fail
            exact Post.isv (Ext.refl _) rfl rfl rfl
          -- 5: Op.move t2
          apply Stage2.step (Is _) true [] true false (Is.keeps _) (fun _ => Is.keeps _) (by kernel_rfl)
          · intro w1 h1
            have h1 : Ext _ w1 := h1
            simp only [List.nil_append, List.cons_append, List.map_cons, List.map_nil, Given]
            go_wp2_with fail
            exact Post.isv (Ext.refl _) rfl rfl rfl
          -- 6: Op.binOp BinOp.quo 3 t97 t98 3
          apply Stage2.step (Is _) true [false, false, false, false, true, true] true false (Is.keeps _) (fun _ => Is.keeps _) (by kernel_rfl)
          · intro w1 h1
            have h1 : Ext _ w1 := h1
            simp only [List.nil_append, List.cons_append, List.map_cons, List.map_nil, Sp.pr, Given]
            rintro _ rfl
            rintro _ rfl
            go_wp2_with fail
            exact Post.isv (Ext.refl _) rfl rfl rfl
          -- 7: Op.move t17
          apply Stage2.step (Is _) true [] true false (Is.keeps _) (fun _ => Is.keeps _) (by kernel_rfl)
          · intro w1 h1
            have h1 : Ext _ w1 := h1
            simp only [List.nil_append, List.cons_append, List.map_cons, List.map_nil, Given]
            go_wp2_with fail
            exact Post.isv (Ext.refl _) rfl rfl rfl
          -- 8: Op.move t19
          apply Stage2.step (Is _) true [] true false (Is.keeps _) (fun _ => Is.keeps _) (by kernel_rfl)
          · intro w1 h1
            have h1 : Ext _ w1 := h1
            simp only [List.nil_append, List.cons_append, List.map_cons, List.map_nil, Given]
            go_wp2_with fail
            exact Post.isv (Ext.refl _) rfl rfl rfl
          -- 9: Op.indexAddr 48 t100 t101
          apply Stage2.step (Is _) true [false, false, false, false, false, false, false, true, true] true false (Is.keeps _) (fun _ => Is.keeps _) (by kernel_rfl)
          · intro w1 h1
            have h1 : Ext _ w1 := h1
            simp only [List.nil_append, List.cons_append, List.map_cons, List.map_nil, Sp.pr, Given]
            rintro _ rfl
            rintro _ rfl
            go_wp2_with fail
            exact Post.isv (Ext.refl _) rfl rfl rfl
          -- 10: Op.load 22 t102
          apply Stage2.step (Is _) true [false, false, false, false, false, false, false, false, false, true] true false (Is.keeps _) (fun _ => Is.keeps _) (by kernel_rfl)
          · intro w1 h1
            have h1 : Ext _ w1 := h1
            simp only [List.nil_append, List.cons_append, List.map_cons, List.map_nil, Sp.pr, Given]
            rintro _ rfl
            have hq := h1.cell c0
            go_wp2_with fail
            exact Post.isv (Ext.refl _) rfl rfl rfl
          -- 11: Op.call { builtin len, args := #[t103], argTypes := #[22] }
          apply Stage2.step (Is _) true [false, false, false, false, false, false, false, false, false, false, true] true false (Is.keeps _) (fun _ => Is.keeps _) (by kernel_rfl)
          · intro w1 h1
            have h1 : Ext _ w1 := h1
            simp only [List.nil_append, List.cons_append, List.map_cons, List.map_nil, Sp.pr, Given]
            rintro _ rfl
            go_wp2_with fail
            exact Post.isv (Ext.refl _) rfl rfl rfl
          -- 12: Op.binOp BinOp.rem 3 t99 t104 3
          apply Stage2.step (Is _) true [false, false, false, false, false, false, true, false, false, false, false, true] true false (Is.keeps _) (fun _ => Is.keeps _) (by kernel_rfl)
          · intro w1 h1
            have h1 : Ext _ w1 := h1
            simp only [List.nil_append, List.cons_append, List.map_cons, List.map_nil, Sp.pr, Given]
            rintro _ rfl
            rintro _ rfl
            go_wp2_with fail
            exact Post.isv (Ext.refl _) rfl rfl rfl
          -- 13: Op.indexAddr 22 t96 t105
          apply Stage2.step (Is _) true [false, false, false, true, false, false, false, false, false, false, false, false, true] true false (Is.keeps _) (fun _ => Is.keeps _) (by kernel_rfl)
          · intro w1 h1
            have h1 : Ext _ w1 := h1
            simp only [List.nil_append, List.cons_append, List.map_cons, List.map_nil, Sp.pr, Given]
            rintro _ rfl
            rintro _ rfl
            go_wp2_with fail
            exact Post.isv (Ext.refl _) rfl rfl rfl
          -- 14: Op.load 5 t106
          apply Stage2.step (Is _) true [false, false, false, false, false, false, false, false, false, false, false, false, false, true] true false (Is.keeps _) (fun _ => Is.keeps _) (by kernel_rfl)
          · intro w1 h1
            have h1 : Ext _ w1 := h1
            simp only [List.nil_append, List.cons_append, List.map_cons, List.map_nil, Sp.pr, Given]
            rintro _ rfl
            have hq := h1.cell c1
            go_wp2_with fail
            exact Post.isv (Ext.refl _) rfl rfl rfl
          -- 15: Op.move t7
          apply Stage2.step (Is _) true [] true false (Is.keeps _) (fun _ => Is.keeps _) (by kernel_rfl)
          · intro w1 h1
            have h1 : Ext _ w1 := h1
            simp only [List.nil_append, List.cons_append, List.map_cons, List.map_nil, Given]
            go_wp2_with fail
            exact Post.isv (Ext.refl _) rfl rfl rfl
          -- 16: Op.binOp BinOp.xor 5 t107 t108 5
          apply Stage2.step (Is _) true [false, false, false, false, false, false, false, false, false, false, false, false, false, false, true, true] true false (Is.keeps _) (fun _ => Is.keeps _) (by kernel_rfl)
          · intro w1 h1
            have h1 : Ext _ w1 := h1
            simp only [List.nil_append, List.cons_append, List.map_cons, List.map_nil, Sp.pr, Given]
            rintro _ rfl
            rintro _ rfl
            go_wp2_with fail
            exact Post.isv (Ext.refl _) rfl rfl rfl
          -- 17: Op.indexAddr 22 t96 t105
          apply Stage2.step (Is _) true [false, false, false, true, false, false, false, false, false, false, false, false, true] true false (Is.keeps _) (fun _ => Is.keeps _) (by kernel_rfl)
          · intro w1 h1
            have h1 : Ext _ w1 := h1
            simp only [List.nil_append, List.cons_append, List.map_cons, List.map_nil, Sp.pr, Given]
            rintro _ rfl
            rintro _ rfl
            go_wp2_with fail
            exact Post.isv (Ext.refl _) rfl rfl rfl
          -- 18: Op.store 5 t110 t109
          apply Stage2.step (REn w.heap.size g N 0 0 RT) false [false, false, false, false, false, false, false, false, false, false, false, false, false, false, false, false, true, true] true true (REn.keeps _ _ _ _ _ _) (no_keeps) (by kernel_rfl)
          · intro w1 h1
            have h1 : Ext _ w1 := h1
            simp only [List.nil_append, List.cons_append, List.map_cons, List.map_nil, Sp.pr, Given]
            rintro _ rfl
            rintro _ rfl
            have z0 := h1.cell c1
            have zf : w1.frozen? ⟨gj, j, none⟩ = false := by
              have e : w1.frozen? ⟨gj, j, none⟩ = w5.frozen? ⟨gj, j, none⟩ := Below.frozen h1 hgjl
              rw [e]; exact f2
            go_wp2_with fail
            exact ⟨rfl, rfl, But.setCell (p := ⟨gj, j, none⟩) (But.refl _ _ _) (.inr hgjB) _, _, HRW.out w1 h1, fun _ _ _ _ => .inr (Nat.zero_le _)⟩
          apply Stage2.nil [true, true, true, true, true, true, true, true, true, true, true, true, true, true, true, true, true, true, true] (by kernel_rfl)
          intro w1 h1
          have h1 : (But w.heap.size (fun _ => False)) _ w1 := h1
          simp only [List.nil_append, List.cons_append, List.map_cons, List.map_nil, Sp.pr]
          refine Fin2.is_ ?_
          refine Fin2.is_ ?_
          refine Fin2.is_ ?_
          refine Fin2.is_ ?_
          refine Fin2.is_ ?_
          refine Fin2.is_ ?_
          refine Fin2.is_ ?_
          refine Fin2.is_ ?_
          refine Fin2.is_ ?_
          refine Fin2.is_ ?_
          refine Fin2.is_ ?_
          refine Fin2.is_ ?_
          refine Fin2.is_ ?_
          refine Fin2.is_ ?_
          refine Fin2.is_ ?_
          refine Fin2.is_ ?_
          refine Fin2.is_ ?_
          refine Fin2.is_ ?_
          refine Fin2.step_ ?_
          rintro _ ⟨V12, h12, hin12⟩
          refine Fin2.nil_ ?_
          go_simp
          obtain ⟨wt, rfl⟩ : ∃ q, q = w1 := ⟨_, rfl⟩
          have hxt := hxr.but h1 (Nat.le_refl _) (fun _ h => h.elim)
          have hrt := h12
          have hsht := HSH
          clear h12 HRW HSH hxr h1 c0 c1 f1 f2 hin12 hval hj
          have hlr := hrt.lst (by simp only [maxLen]; omega)
          go_wp2_with fail
          refine (scan_Ends (last := la) hlr (by omega) hsht.out).mono ?_
          rintro e u4 ⟨A5, c5, rfl, h5, hx5⟩
          have gx5 := hxt.trans hx5
          replace hlr := hlr.ext bl_rep hx5
          replace hrt := hrt.ext hx5
          obtain ⟨F, hF⟩ : ∃ q : List UInt8 → Bool, (fun r => decide (endL r la < r.length)) = q := ⟨_, rfl⟩
          have HF := Lib.hid hF
          clear hF
          go_wp2_with fail
          go_loopw [21, 22] (fun t i wr => ∃ (k2 : Nat) (tb : Bool), k2 ≤ N ∧ t = .bool tb ∧ i = .int .i64 k2 ∧ Hid ((RT.take k2).any F = tb) ∧ Ext u4 wr) (fun _ i _ => N - (intOf i).toNat)
          case atStart => exact ⟨0, false, by omega, rfl, rfl, rfl, Ext.refl _⟩
          case round =>
            obtain ⟨k2, tb, hk2, rfl, rfl, htb, hxq⟩ := hrel
            by_cases hlt2 : k2 < N
            · obtain ⟨Aq, nq, cq, r, hvq, hrq, c1, f1, hbq⟩ := hrt.at_ hlt2
              obtain ⟨ge, oe, ev, rfl, hev, e0⟩ := h5.lst.atI hlt2
              obtain ⟨m, hm⟩ : ∃ q, endL r la = q := ⟨_, rfl⟩
              have hee := ends_at (last := la) hrq
              rw [hev, hm] at hee
              injection hee with hee
              subst hee
              have hnx := any_nextS (f := F) hrq
              have hql := hbq.len
              have hFr : F r = decide (m < nq) := by have := congrFun HF.out r; rw [← this]; simp only [hm, hql]
              rw [hFr, htb.out] at hnx
              have hnq : nq ≤ 10000 := by have := hsht.out r (List.mem_of_getElem? hrq); rw [hql] at this; exact this
              have hmb : m ≤ 10000 := by have := endL_le r la; omega
              replace c1 := hxq.cell c1
              replace e0 := hxq.cell e0
              cases tb with
              | true =>
                have HNX := Lib.hid hnx
                clear hnx hFr hrq hvq hbq hev hm hql htb f1
                go_wp2_with fail
                go_quiet (fail)
                go_wp2_with fail
                go_roundw
                case rel => exact ⟨k2 + 1, true, by omega, rfl, by go_num, by rw [HNX.out]; rfl, hxq.drewN _⟩
                case measure => simp [intOf]; omega
              | false =>
                by_cases hmn : m < nq
                · have HNX : Hid ((RT.take (k2 + 1)).any F = true) := by unfold Hid; rw [hnx]; simpa using hmn
                  clear hnx hFr hrq hvq hbq hev hm hql htb f1
                  go_wp2_with fail
                  go_quiet (fail)
                  go_wp2_with fail
                  go_roundw
                  case rel => exact ⟨k2 + 1, true, by omega, rfl, by go_num, HNX, hxq.drewN _⟩
                  case measure => simp [intOf]; omega
                · have HNX : Hid ((RT.take (k2 + 1)).any F = false) := by unfold Hid; rw [hnx]; simpa using hmn
                  have hmn2 : decide ((m : Int) < (nq : Int)) = false := by simp; omega
                  have hmn3 : decide (m < nq) = false := by simp; omega
                  clear hnx hFr hrq hvq hbq hev hm hql htb f1 hmn
                  go_wp2_with fail
                  go_quiet (fail)
                  go_wp2_with fail
                  go_roundw
                  case rel => exact ⟨k2 + 1, false, by omega, rfl, by go_num, HNX, hxq.drewN _⟩
                  case measure => simp [intOf]; omega
            · obtain rfl : k2 = N := by omega
              have e := htb.out
              rw [List.take_of_length_le (by rw [hlr.len]; exact Nat.le_refl _), ← HF.out] at e
              have HT : Hid (tornL RT la = tb) := e
              have gxq := gx5.trans hxq
              replace hlr := hlr.ext bl_rep hxq
              have h5l := h5.lst.ext int_rep hxq
              obtain ⟨fi, hfi⟩ : ∃ q, firstL RT = q := ⟨_, rfl⟩
              have HFI := Lib.hid hfi
              clear htb e h5 hrt HF hfi
              go_wp2_with fail
              refine (scan_Merge hlr (by omega) hsht.out (by omega) (s := fr)).mono ?_
              rintro e v2 ⟨A2, n2, c2, rfl, h2, hy2⟩
              replace gxq := gxq.trans hy2
              replace hlr := hlr.ext bl_rep hy2
              replace h5l := h5l.ext int_rep hy2
              go_wp2_with fail
              refine (ref10_Merge hlr (by omega) hsht.out (by omega) (s := fr)).mono ?_
              rintro e v3 ⟨A3, n3, c3, rfl, h3, hy3⟩
              replace gxq := gxq.trans hy3
              replace hlr := hlr.ext bl_rep hy3
              replace h5l := h5l.ext int_rep hy3
              go_wp2_with fail
              have hcl := ref_SameEntries (h2.lst.ext en_rep hy3) h3.lst
              rw [sameEn_self] at hcl
              refine hcl.mono ?_
              rintro e v4 ⟨rfl, hy4⟩
              replace gxq := gxq.trans hy4
              replace hlr := hlr.ext bl_rep hy4
              replace h5l := h5l.ext int_rep hy4
              clear hcl h2 h3
              go_wp2_with fail
              refine (ref10_Ends (last := la) hlr (by omega) hsht.out).mono ?_
              rintro e v6 ⟨A6, c6, rfl, h6, hy6⟩
              replace gxq := gxq.trans hy6
              replace hlr := hlr.ext bl_rep hy6
              go_wp2_with fail
              refine (ref10_Same (h5l.ext int_rep hy6) h6.lst (res := true) (Lib.hid (decide_eq_true rfl))).mono ?_
              rintro e v7 ⟨rfl, hy7⟩
              replace gxq := gxq.trans hy7
              replace hlr := hlr.ext bl_rep hy7
              clear h5l h6
              go_wp2_with fail
              refine (scan_First hlr (by omega) hsht.out HFI).mono ?_
              rintro e v8 ⟨rfl, hy8⟩
              replace gxq := gxq.trans hy8
              replace hlr := hlr.ext bl_rep hy8
              go_wp2_with fail
              refine (ref10_First hlr (by omega) hsht.out HFI).mono ?_
              rintro e v9 ⟨rfl, hy9⟩
              replace gxq := gxq.trans hy9
              replace hlr := hlr.ext bl_rep hy9
              clear HFI
              go_wp2_with fail
              refine (scan_Torn (last := la) hlr (by omega) hsht.out HT).mono ?_
              rintro e v10 ⟨rfl, hy10⟩
              replace gxq := gxq.trans hy10
              clear HT
              cases tb
              all_goals
                go_wp2_with fail
                refine (law11_known v10).mono ?_
                rintro e v11 ⟨rfl, hy11⟩
                go_wp2_with fail
                go_ret
                exact ⟨rfl, gxq.trans hy11⟩
        · have hno1 : no = 0 := by omega
          subst hno1
          have hxt := hxr
          have hrt := hrw
          have hsht := hsh
          obtain ⟨RT, rfl⟩ : ∃ q, q = rows := ⟨_, rfl⟩
          clear hrw hsh hxr hro hv hbo f1
          have hlr := hrt.lst (by simp only [maxLen]; omega)
          go_wp2_with fail
          refine (scan_Ends (last := la) hlr (by omega) hsht.out).mono ?_
          rintro e u4 ⟨A5, c5, rfl, h5, hx5⟩
          have gx5 := hxt.trans hx5
          replace hlr := hlr.ext bl_rep hx5
          replace hrt := hrt.ext hx5
          obtain ⟨F, hF⟩ : ∃ q : List UInt8 → Bool, (fun r => decide (endL r la < r.length)) = q := ⟨_, rfl⟩
          have HF := Lib.hid hF
          clear hF
          go_wp2_with fail
          go_loopw [21, 22] (fun t i wr => ∃ (k2 : Nat) (tb : Bool), k2 ≤ N ∧ t = .bool tb ∧ i = .int .i64 k2 ∧ Hid ((RT.take k2).any F = tb) ∧ Ext u4 wr) (fun _ i _ => N - (intOf i).toNat)
          case atStart => exact ⟨0, false, by omega, rfl, rfl, rfl, Ext.refl _⟩
          case round =>
            obtain ⟨k2, tb, hk2, rfl, rfl, htb, hxq⟩ := hrel
            by_cases hlt2 : k2 < N
            · obtain ⟨Aq, nq, cq, r, hvq, hrq, c1, f1, hbq⟩ := hrt.at_ hlt2
              obtain ⟨ge, oe, ev, rfl, hev, e0⟩ := h5.lst.atI hlt2
              obtain ⟨m, hm⟩ : ∃ q, endL r la = q := ⟨_, rfl⟩
              have hee := ends_at (last := la) hrq
              rw [hev, hm] at hee
              injection hee with hee
              subst hee
              have hnx := any_nextS (f := F) hrq
              have hql := hbq.len
              have hFr : F r = decide (m < nq) := by have := congrFun HF.out r; rw [← this]; simp only [hm, hql]
              rw [hFr, htb.out] at hnx
              have hnq : nq ≤ 10000 := by have := hsht.out r (List.mem_of_getElem? hrq); rw [hql] at this; exact this
              have hmb : m ≤ 10000 := by have := endL_le r la; omega
              replace c1 := hxq.cell c1
              replace e0 := hxq.cell e0
              cases tb with
              | true =>
                have HNX := Lib.hid hnx
                clear hnx hFr hrq hvq hbq hev hm hql htb f1
                go_wp2_with fail
                go_quiet (fail)
                go_wp2_with fail
                go_roundw
                case rel => exact ⟨k2 + 1, true, by omega, rfl, by go_num, by rw [HNX.out]; rfl, hxq.drewN _⟩
                case measure => simp [intOf]; omega
              | false =>
                by_cases hmn : m < nq
                · have HNX : Hid ((RT.take (k2 + 1)).any F = true) := by unfold Hid; rw [hnx]; simpa using hmn
                  clear hnx hFr hrq hvq hbq hev hm hql htb f1
                  go_wp2_with fail
                  go_quiet (fail)
                  go_wp2_with fail
                  go_roundw
                  case rel => exact ⟨k2 + 1, true, by omega, rfl, by go_num, HNX, hxq.drewN _⟩
                  case measure => simp [intOf]; omega
                · have HNX : Hid ((RT.take (k2 + 1)).any F = false) := by unfold Hid; rw [hnx]; simpa using hmn
                  have hmn2 : decide ((m : Int) < (nq : Int)) = false := by simp; omega
                  have hmn3 : decide (m < nq) = false := by simp; omega
                  clear hnx hFr hrq hvq hbq hev hm hql htb f1 hmn
                  go_wp2_with fail
                  go_quiet (fail)
                  go_wp2_with fail
                  go_roundw
                  case rel => exact ⟨k2 + 1, false, by omega, rfl, by go_num, HNX, hxq.drewN _⟩
                  case measure => simp [intOf]; omega
            · obtain rfl : k2 = N := by omega
              have e := htb.out
              rw [List.take_of_length_le (by rw [hlr.len]; exact Nat.le_refl _), ← HF.out] at e
              have HT : Hid (tornL RT la = tb) := e
              have gxq := gx5.trans hxq
              replace hlr := hlr.ext bl_rep hxq
              have h5l := h5.lst.ext int_rep hxq
              obtain ⟨fi, hfi⟩ : ∃ q, firstL RT = q := ⟨_, rfl⟩
              have HFI := Lib.hid hfi
              clear htb e h5 hrt HF hfi
              go_wp2_with fail
              refine (scan_Merge hlr (by omega) hsht.out (by omega) (s := fr)).mono ?_
              rintro e v2 ⟨A2, n2, c2, rfl, h2, hy2⟩
              replace gxq := gxq.trans hy2
              replace hlr := hlr.ext bl_rep hy2
              replace h5l := h5l.ext int_rep hy2
              go_wp2_with fail
              refine (ref10_Merge hlr (by omega) hsht.out (by omega) (s := fr)).mono ?_
              rintro e v3 ⟨A3, n3, c3, rfl, h3, hy3⟩
              replace gxq := gxq.trans hy3
              replace hlr := hlr.ext bl_rep hy3
              replace h5l := h5l.ext int_rep hy3
              go_wp2_with fail
              have hcl := ref_SameEntries (h2.lst.ext en_rep hy3) h3.lst
              rw [sameEn_self] at hcl
              refine hcl.mono ?_
              rintro e v4 ⟨rfl, hy4⟩
              replace gxq := gxq.trans hy4
              replace hlr := hlr.ext bl_rep hy4
              replace h5l := h5l.ext int_rep hy4
              clear hcl h2 h3
              go_wp2_with fail
              refine (ref10_Ends (last := la) hlr (by omega) hsht.out).mono ?_
              rintro e v6 ⟨A6, c6, rfl, h6, hy6⟩
              replace gxq := gxq.trans hy6
              replace hlr := hlr.ext bl_rep hy6
              go_wp2_with fail
              refine (ref10_Same (h5l.ext int_rep hy6) h6.lst (res := true) (Lib.hid (decide_eq_true rfl))).mono ?_
              rintro e v7 ⟨rfl, hy7⟩
              replace gxq := gxq.trans hy7
              replace hlr := hlr.ext bl_rep hy7
              clear h5l h6
              go_wp2_with fail
              refine (scan_First hlr (by omega) hsht.out HFI).mono ?_
              rintro e v8 ⟨rfl, hy8⟩
              replace gxq := gxq.trans hy8
              replace hlr := hlr.ext bl_rep hy8
              go_wp2_with fail
              refine (ref10_First hlr (by omega) hsht.out HFI).mono ?_
              rintro e v9 ⟨rfl, hy9⟩
              replace gxq := gxq.trans hy9
              replace hlr := hlr.ext bl_rep hy9
              clear HFI
              go_wp2_with fail
              refine (scan_Torn (last := la) hlr (by omega) hsht.out HT).mono ?_
              rintro e v10 ⟨rfl, hy10⟩
              replace gxq := gxq.trans hy10
              clear HT
              cases tb
              all_goals
                go_wp2_with fail
                refine (law11_known v10).mono ?_
                rintro e v11 ⟨rfl, hy11⟩
                go_wp2_with fail
                go_ret
                exact ⟨rfl, gxq.trans hy11⟩
end Go.Proofs.Ytcchlkialgjamaa
