/-
  Two images with snapshots: the way from one to the other: contract of Way.
-/
import Derived.Test.YtcklkjklepmabaaZAlike
import Derived.Test.YtcklkjklepmabaaZDiffFr
import Derived.Test.YtcklkjklepmabaaZModelRight
import Derived.Test.YtcklkjklepmabaaZCore
import Derived.Test.YtcklkjklepmabaaZEvLit
namespace Go.Proofs.Ytcklkjklepmabaa
open Go.RowKit
set_option linter.unusedVariables false
set_option linter.unusedSimpArgs false
set_option linter.unnecessarySimpa false
set_option maxRecDepth 100000

theorem wayF_len (x b : List UInt8) : ∀ (f i : Nat), (wayF f x b i).length ≤ f
  | 0, i => by simp [wayF]
  | f + 1, i => by
    rw [wayF]
    split
    · split
      · have := wayF_len x b f (i + 1); omega
      · have := wayF_len x b f (i + runF 64 x b i); simp only [List.length_cons]; omega
    · simp
theorem bytesL_len (a b : List UInt8) : (bytesL a b).length ≤ 513 := by
  unfold bytesL
  split
  · simp
  · have := wayF_len (sizedL a b.length) b (b.length - 0) 0
    rw [List.length_append]
    unfold wayL
    split <;> simp only [List.length_cons, List.length_nil] <;> omega
theorem under_evl {w : World} {A : Option Addr} {c : Nat} {k : Int} {s : ByteArray} (hs : s.size ≤ maxLen) : Feed Try.prog 5 (fromR evR 0) (w.alloc (.cells #[.int .i64 k, .int .i64 0, .int .i64 0, .slice none 0 0, .string s] TEv)) 23 A c (.slice (some ⟨w.heap.size, 0, none⟩) 1 1) 1 [⟨k, 0, 0, [], s⟩] :=
  Feed.lit (P := Try.prog) (from_rep ev_rep 0) #[.int .i64 k, .int .i64 0, .int .i64 0, .slice none 0 0, .string s] ⟨k, 0, 0, [], s⟩ ⟨⟨none, 0, 0, rfl, Sl.nil _, hs⟩, fun _ _ => Nat.zero_le _⟩ under_evs (fun k hk => by
    obtain ⟨ad, e, _⟩ := pts_ev hk
    cases e) rfl
set_option maxHeartbeats 8000000 in
theorem diff_Way {A : Option Addr} {n c : Nat} {A2 : Option Addr} {n2 c2 : Nat} {s : St} {B : Option Addr} {m d : Nat} {B2 : Option Addr} {m2 d2 : Nat} {t : St} {w : World} (h1 : StR w A n c A2 n2 c2 s) (h2 : StR w B m d B2 m2 d2 t) {R : List Ev} (hR : Hid (wayS s t = R)) :
    Calls Try.prog 28 #[stV A n c A2 n2 c2, stV B m d B2 m2 d2] w fun e w' => ∃ A3 n3 c3, e = .returned (.slice A3 n3 c3) ∧ Lst 5 evR w' A3 n3 c3 R ∧ Ext w w' := by
  have h63 := h1.1.n63
  have h63a := h1.2.n63
  have h63b := h2.1.n63
  have h63c := h2.2.n63
  obtain ⟨ra, hra⟩ : ∃ q, rightS s = q := ⟨_, rfl⟩
  obtain ⟨rb, hrb⟩ : ∃ q, rightS t = q := ⟨_, rfl⟩
  have HRA := Lib.hid hra
  have HRB := Lib.hid hrb
  obtain ⟨W, hW⟩ : ∃ W, (w.alloc (.cells #[.slice A n c, .slice A2 n2 c2] TSt)).alloc (.cells #[.slice B m d, .slice B2 m2 d2] TSt) = W := ⟨_, rfl⟩
  have gW : Ext w W := by rw [← hW]; exact (Ext.alloc _ _).trans (Ext.alloc _ _)
  have s0 : W.cell? ⟨w.heap.size, 0, none⟩ = some (.slice A n c) := by rw [← hW]; exact (Ext.alloc _ _).cell (cell_new w _ _ 0)
  have s1 : W.cell? ⟨w.heap.size, 1, none⟩ = some (.slice A2 n2 c2) := by rw [← hW]; exact (Ext.alloc _ _).cell (cell_new w _ _ 1)
  have u0 : W.cell? ⟨w.heap.size + 1, 0, none⟩ = some (.slice B m d) := by rw [← hW]; have := cell_new (w.alloc (.cells #[.slice A n c, .slice A2 n2 c2] TSt)) #[.slice B m d, .slice B2 m2 d2] TSt 0; simpa using this
  have u1 : W.cell? ⟨w.heap.size + 1, 1, none⟩ = some (.slice B2 m2 d2) := by rw [← hW]; have := cell_new (w.alloc (.cells #[.slice A n c, .slice A2 n2 c2] TSt)) #[.slice B m d, .slice B2 m2 d2] TSt 1; simpa using this
  cases ra with
  | false =>
    obtain rfl : [] = R := by rw [← hR.out]; unfold wayS; rw [hra]; rfl
    clear hra hrb hR
    go_enter Try.func28, Try.ntmps28
    go_wp2_with fail
    clear hW
    refine (model_Right (h1.ext gW) HRA).mono ?_
    rintro e w1 ⟨rfl, gq⟩
    replace s0 := gq.cell s0
    replace s1 := gq.cell s1
    replace u0 := gq.cell u0
    replace u1 := gq.cell u1
    replace gW := gW.trans gq
    clear gq
    go_wp2_with fail
    go_ret
    exact ⟨none, 0, 0, rfl, Lst.nil _, gW⟩
  | true =>
    cases rb with
    | false =>
      obtain rfl : [] = R := by rw [← hR.out]; unfold wayS; rw [hrb]; simp
      clear hra hrb hR
      go_enter Try.func28, Try.ntmps28
      go_wp2_with fail
      clear hW
      refine (model_Right (h1.ext gW) HRA).mono ?_
      rintro e w1 ⟨rfl, gq⟩
      replace s0 := gq.cell s0
      replace s1 := gq.cell s1
      replace u0 := gq.cell u0
      replace u1 := gq.cell u1
      replace gW := gW.trans gq
      clear gq
      go_wp2_with fail
      refine (model_Right (h2.ext gW) HRB).mono ?_
      rintro e w1 ⟨rfl, gq⟩
      replace s0 := gq.cell s0
      replace s1 := gq.cell s1
      replace u0 := gq.cell u0
      replace u1 := gq.cell u1
      replace gW := gW.trans gq
      clear gq
      go_wp2_with fail
      go_ret
      exact ⟨none, 0, 0, rfl, Lst.nil _, gW⟩
    | true =>
      obtain ⟨a1, a2, a3, a4⟩ := right_iff.1 hra
      obtain ⟨b1, b2, b3, b4⟩ := right_iff.1 hrb
      obtain ⟨k0, hk0⟩ : ∃ q, alikeL s.sn t.sn = q := ⟨_, rfl⟩
      have hkl := alike_le s.sn t.sn
      rw [hk0, h1.2.len, h2.2.len] at hkl
      rw [h1.2.len] at a4
      rw [h2.2.len] at b4
      have hRR := hR.out
      unfold wayS at hRR
      rw [hra, hrb, hk0] at hRR
      simp only [Bool.and_self, if_true] at hRR
      replace hR := Lib.hid hRR
      have HK := Lib.hid hk0
      obtain ⟨i0, hi0, hy0, hy1, hy2⟩ := info_parts info_ev
      obtain ⟨j0, hj0, hz0, hz1, hz2⟩ := info_parts info_ol
      obtain ⟨L, hL⟩ : ∃ L, k0 + L = m2 := ⟨m2 - k0, by omega⟩
      obtain ⟨Ac, cc, hcut, hlc⟩ := cutL_from (t := 33) ol_rep under_ols hj0 hz1 h2.2 k0 L (k0 : Int) rfl hL
      clear hra hrb hk0 hRR
      go_enter Try.func28, Try.ntmps28
      go_wp2_with fail
      clear hW
      refine (model_Right (h1.ext gW) HRA).mono ?_
      rintro e w1 ⟨rfl, gq⟩
      replace s0 := gq.cell s0
      replace s1 := gq.cell s1
      replace u0 := gq.cell u0
      replace u1 := gq.cell u1
      replace gW := gW.trans gq
      clear gq
      go_wp2_with fail
      refine (model_Right (h2.ext gW) HRB).mono ?_
      rintro e w1 ⟨rfl, gq⟩
      replace s0 := gq.cell s0
      replace s1 := gq.cell s1
      replace u0 := gq.cell u0
      replace u1 := gq.cell u1
      replace gW := gW.trans gq
      clear gq
      go_wp2_with fail
      refine (diff_alike (h1.ext gW) (h2.ext gW) HK).mono ?_
      rintro e wb ⟨rfl, gq⟩
      replace s0 := gq.cell s0
      replace s1 := gq.cell s1
      replace u0 := gq.cell u0
      replace u1 := gq.cell u1
      replace gW := gW.trans gq
      clear gq
      go_wp2_with fail
      have sb0 := s0
      have sb1 := s1
      have ub0 := u0
      have ub1 := u1
      go_loopw [5, 7] (fun v i wr => ∃ (p mo : Nat) (Ao : Option Addr) (co : Nat), k0 ≤ p ∧ p ≤ n2 ∧ v = .slice Ao mo co ∧ i = .int .i64 ((p : Int) - 1) ∧ OwnL TEv 5 (fromR evR 0) wr wb.heap.size Ao mo co ((s.sn.drop p).reverse.map unE) ∧ Ext wb wr) (fun _ i _ => (intOf i + 1).toNat)
      case atStart => exact ⟨n2, 0, none, 0, by omega, by omega, rfl, rfl, by rw [List.drop_of_length_le (by rw [h1.2.len]; exact Nat.le_refl _)]; exact OwnL.nil _ _ _ _, Ext.refl _⟩
      case round =>
        obtain ⟨p, mo, Ao, co, hkp, hpn, rfl, rfl, hown, hxr⟩ := hrel
        replace s0 := hxr.cell s0
        replace s1 := hxr.cell s1
        replace u0 := hxr.cell u0
        replace u1 := hxr.cell u1
        have gx := gW.trans hxr
        have hmo := hown.len
        simp only [List.length_map, List.length_reverse, List.length_drop, h1.2.len] at hmo
        by_cases hlt : k0 < p
        · obtain ⟨q, rfl⟩ : ∃ q, p = q + 1 := ⟨p - 1, by omega⟩
          obtain ⟨ga, oa, x, cs, rfl, hx, ⟨Aa, na, ca, rfl, sa0, hs⟩, ha⟩ := h1.2.at2 ol_rep (i := q) (by omega) (by omega)
          have x0 : wr.cell? ⟨ga, oa + q * 2, none⟩ = _ := gx.cell (ha 0 _ rfl)
          have e1 : ((q + 1 : Nat) : Int) - 1 = (q : Int) := by omega
          rw [e1]
          have hl1 : (s.sn.drop (q + 1)).reverse.map unE ++ [unE x] = (s.sn.drop q).reverse.map unE := by
            rw [drop_stepO hx, List.reverse_cons, List.map_append]
            rfl
          obtain ⟨xn, xd⟩ := x
          simp only at x0 hs
          replace hl1 := Lib.hid hl1
          have k1 : decide ((q : Int) ≥ (k0 : Int)) = true := by simp; omega
          have k2 : decide ((k0 : Int) ≤ (q : Int)) = true := by simp; omega
          clear ha hx sa0 e1
          go_wp2_with (
            at_builtin
            refine wpList_append_lst4 (B := wb.heap.size) (from_rep ev_rep 0) rfl _ _ _ _ rfl TEv i0 _ 64 under_evs hi0 hy0 hy1 hy2 rfl Ao mo co _ rfl (hown.ext (from_rep ev_rep 0) (Ext.alloc _ _)) _ 1 [⟨6, 0, 0, [], xn⟩] rfl (under_evl hs) (mo + 1) rfl _ hl1.out (by simp only [maxLen]; omega) (by omega) (by have := hxr.size; simp; omega) ?_
            intro A9 c9 w9 ho9 hg9 hr9)
          have hrow := hown.row_lt
          have gx9 : Ext wb w9 := (hxr.trans (Ext.alloc _ _)).but (But.grown (H := wb.heap.size) (S := fun _ => False) (But.refl _ _ _) hg9 (fun g hg => .inr (hrow g hg).1)) (Nat.le_refl _) (fun _ h => h.elim)
          go_wp2_with fail
          go_roundw
          case rel => exact ⟨q, mo + 1, A9, c9, by omega, by omega, rfl, rfl, ho9, gx9⟩
          case measure => first | (simp [intOf]; done) | (simp [intOf]; omega)
        · obtain rfl : k0 = p := by omega
          have k1 : decide ((k0 : Int) - 1 ≥ (k0 : Int)) = false := by simp; omega
          have k2 : decide ((k0 : Int) ≤ (k0 : Int) - 1) = false := by simp; omega
          go_wp2_with fail
          obtain ⟨wl, rfl⟩ : ∃ q, q = wr := ⟨_, rfl⟩
          have hlw := hlc
          have hR0 : Hid ((s.sn.drop k0).reverse.map unE ++ snapsW s.d (t.sn.drop (k0 + 0)) t.d = R) := hR
          go_loopw [5, 8, 48] (fun v nw i wr => ∃ (j mo : Nat) (Ao : Option Addr) (co : Nat) (out : List Ev) (An : Option Addr) (nn cn : Nat) (now : List UInt8), j ≤ L ∧ v = .slice Ao mo co ∧ nw = .slice An nn cn ∧ i = .int .i64 j ∧ OwnL TEv 5 (fromR evR 0) wr wb.heap.size Ao mo co out ∧ Sl w An nn cn now ∧ now.length ≤ 512 ∧ mo ≤ 8 + 600 * j ∧ Hid (out ++ snapsW now (t.sn.drop (k0 + j)) t.d = R) ∧ Ext wb wr) (fun _ _ i _ => L - (intOf i).toNat)
          case atStart => exact ⟨0, mo, Ao, co, _, A, n, c, s.d, by omega, rfl, rfl, rfl, hown, h1.1, a3, by omega, hR0, hxr⟩
          case round =>
            obtain ⟨j, mo, Ao, co, out, An, nn, cn, now, hj, rfl, rfl, rfl, hown, hnow, hn512, hmo8, hRj, hx2⟩ := hrel
            clear hR0 hR
            replace s0 := hx2.cell sb0
            replace s1 := hx2.cell sb1
            replace u0 := hx2.cell ub0
            replace u1 := hx2.cell ub1
            have g2 := gW.trans hx2
            have hxb := hx2
            clear sb0 sb1 ub0 ub1
            have hmo := hown.len
            have bn := hnow.n63
            have hrow0 := hown.row_lt
            by_cases hlt : j < L
            · obtain ⟨ga, oa, x, cs, rfl, hx, ⟨Aa, na, ca, rfl, sa0, hs⟩, ha⟩ := hlw.at2 ol_rep (i := j) (by omega) hlt
              have x0 : wr.cell? ⟨ga, oa + j * 2, none⟩ = _ := g2.cell (ha 0 _ rfl)
              have x1 := g2.cell (ha 1 _ rfl)
              rw [List.getElem?_drop] at hx
              have hxm := (b1 x (List.mem_of_getElem? hx)).2
              have hRx := hRj.out
              rw [drop_stepO hx, snapsW] at hRx
              obtain ⟨xn, xd⟩ := x
              simp only at x0 x1 hs sa0 hRx hxm
              have ba := sa0.n63
              obtain ⟨E, hE⟩ : ∃ q, bytesL now xd = q := ⟨_, rfl⟩
              have hEl := bytesL_len now xd
              rw [hE] at hRx hEl
              have HE := Lib.hid hE
              have hRn : Hid ((out ++ E) ++ [⟨5, 0, 0, [], xn⟩] ++ snapsW xd (t.sn.drop (k0 + (j + 1))) t.d = R) := Lib.hid (by rw [← hRx]; simp [Nat.add_assoc])
              obtain ⟨w3, hw3⟩ : ∃ q, wr.alloc (.cells #[.string xn, .slice Aa na ca] TOl) = q := ⟨_, rfl⟩
              obtain ⟨gb, hgb⟩ : ∃ q, wr.heap.size = q := ⟨_, rfl⟩
              have gq : Ext wr w3 := by rw [← hw3]; exact Ext.alloc _ _
              have y0 : w3.cell? ⟨gb, 0, none⟩ = some (.string xn) := by rw [← hw3, ← hgb]; exact cell_new wr _ _ 0
              have y1 : w3.cell? ⟨gb, 1, none⟩ = some (.slice Aa na ca) := by rw [← hw3, ← hgb]; exact cell_new wr _ _ 1
              have hs3 : w3.heap.size = gb + 1 := by rw [← hw3, ← hgb]; simp
              have hge : wb.heap.size ≤ gb := by have := hxb.size; omega
              have hrowg : ∀ g, rowOf Ao co = some g → g < gb := fun g hg => by have := (hrow0 g hg).2; omega
              have hown3 := hown.ext (from_rep ev_rep 0) gq
              have g3 := g2.trans gq
              have hxb3 := hxb.trans gq
              clear ha hx hRx hE hRj hown
              go_wp2_with fail
              clear hw3 x0 x1
              refine (diff_BytesF (hnow.ext g3) (sa0.ext g3) HE).mono ?_
              rintro e w4 ⟨A7, n7, c7, rfl, h7, gq4⟩
              have h7l := h7.len
              have b7 := h7.lst.n63
              have hs4 := gq4.size
              have hown4 := hown3.ext (from_rep ev_rep 0) gq4
              have hxb4 := hxb3.trans gq4
              replace y0 := gq4.cell y0
              replace y1 := gq4.cell y1
              have hfd := Feed.from (P := Try.prog) (tx := 23) (B0 := 0) ev_rep hown4 (fun g hg => show g < w3.heap.size by have := hrowg g hg; omega) (Nat.zero_le _) (h7.lst.weak fun x cs h => h) under_evs
              have hne0 : rowOf Ao co ≠ some gb := fun e => by have := hrowg _ e; omega
              clear hown3
              go_wp2_with (
                at_builtin
                first
                | (refine wpList_append_lst4 (B := wb.heap.size) (from_rep ev_rep 0) rfl _ _ _ _ rfl TEv i0 _ 64 under_evs hi0 hy0 hy1 hy2 rfl Ao mo co out rfl hown4 _ n7 E rfl hfd (mo + n7) rfl _ rfl (by simp only [maxLen]; omega) (by omega) (by omega) ?_
                   intro A8 c8 w8 ho8 hg8 hr8
                   have Y0 := cell_grown hg8 y0 hne0
                   have Y1 := cell_grown hg8 y1 hne0
                   have hne1 : rowOf A8 c8 ≠ some gb := fun e => by
                     rcases hr8 with h | h
                     · rw [h] at e; exact hne0 e
                     · rw [h] at e; injection e with e; omega
                   have gx8 : Ext wb w8 := hxb4.but (But.grown (H := wb.heap.size) (S := fun _ => False) (But.refl _ _ _) hg8 (fun g hg => .inr (hrow0 g hg).1)) (Nat.le_refl _) (fun _ h => h.elim)
                   have gs8 := gx8.size)
                | (refine wpList_append_lst4 (B := wb.heap.size) (from_rep ev_rep 0) rfl _ _ _ _ rfl TEv i0 _ 64 under_evs hi0 hy0 hy1 hy2 rfl A8 (mo + n7) c8 _ rfl (ho8.ext (from_rep ev_rep 0) (Ext.alloc _ _)) _ 1 [⟨5, 0, 0, [], xn⟩] rfl (under_evl hs) (mo + n7 + 1) rfl _ rfl (by simp only [maxLen]; omega) (by omega) (by simp; omega) ?_
                   intro A9 c9 w9 ho9 hg9 hr9
                   have Z1 := cell_grown hg9 ((Ext.alloc _ _).cell Y1) hne1))
              have hrow8 := ho8.row_lt
              have gx9 : Ext wb w9 := (gx8.trans (Ext.alloc _ _)).but (But.grown (H := wb.heap.size) (S := fun _ => False) (But.refl _ _ _) hg9 (fun g hg => .inr (hrow8 g hg).1)) (Nat.le_refl _) (fun _ h => h.elim)
              clear hg8 hr8 hg9 hr9 hown4 hfd ho8 gx8 hxb4 hxb3 Y0 Y1 y0 y1 hown
              go_wp2_with fail
              go_roundw
              case rel => exact ⟨j + 1, mo + n7 + 1, A9, c9, _, Aa, na, ca, xd, by omega, rfl, rfl, by go_num, ho9, sa0, hxm, by omega, hRn, gx9⟩
              case measure => simp [intOf]; omega
            · obtain ⟨E, hE⟩ : ∃ q, bytesL now t.d = q := ⟨_, rfl⟩
              have hEl := bytesL_len now t.d
              have hRx := hRj.out
              rw [List.drop_of_length_le (by rw [h2.2.len]; omega), snapsW, hE] at hRx
              rw [hE] at hEl
              have HE := Lib.hid hE
              replace hRx := Lib.hid hRx
              clear hE hRj
              go_wp2_with fail
              refine (diff_BytesF (hnow.ext g2) (h2.1.ext g2) HE).mono ?_
              rintro e w4 ⟨A7, n7, c7, rfl, h7, gq4⟩
              have h7l := h7.len
              have b7 := h7.lst.n63
              have hs4 := gq4.size
              have hs5 := hxb.size
              have hown4 := hown.ext (from_rep ev_rep 0) gq4
              have hxb4 := hxb.trans gq4
              have hfd := Feed.from (P := Try.prog) (tx := 23) (B0 := 0) ev_rep hown4 (fun g hg => (hrow0 g hg).2) (Nat.zero_le _) (h7.lst.weak fun x cs h => h) under_evs
              clear hown
              go_wp2_with (
                at_builtin
                refine wpList_append_lst4 (B := wb.heap.size) (from_rep ev_rep 0) rfl _ _ _ _ rfl TEv i0 _ 64 under_evs hi0 hy0 hy1 hy2 rfl Ao mo co out rfl hown4 _ n7 E rfl hfd (mo + n7) rfl _ rfl (by simp only [maxLen]; omega) (by omega) (by omega) ?_
                intro A8 c8 w8 ho8 hg8 hr8)
              have gx8 : Ext wb w8 := hxb4.but (But.grown (H := wb.heap.size) (S := fun _ => False) (But.refl _ _ _) hg8 (fun g hg => .inr (hrow0 g hg).1)) (Nat.le_refl _) (fun _ h => h.elim)
              rw [hRx.out] at ho8
              go_wp2_with fail
              go_ret
              exact ⟨A8, mo + n7, c8, rfl, ho8.lst.weak fun x cs h => h.1, gW.trans gx8⟩
end Go.Proofs.Ytcklkjklepmabaa
