/-
  Chapter 11: the reference's AllFrames once more: its entries lead into memory of the call's own.
-/
import Derived.Test.YtcchlkialgjamaaFrameAll
import Derived.Test.YtcchlkialgjamaaAppL
namespace Go.Proofs.Ytcchlkialgjamaa
open Go.RowKit
set_option linter.unusedVariables false
set_option linter.unusedSimpArgs false
set_option linter.unnecessarySimpa false
set_option maxRecDepth 100000

/-- entries that lead into blocks from B on alone -/
def hiR (B : Nat) (x : En) (cs : List Value) (w : World) : Prop := enR x cs w ∧ ∀ k, Pts cs k → B ≤ k
theorem hi_rep (B : Nat) : Rep 3 (hiR B) where
  len := fun x cs w h => en_rep.len x cs w h.1
  one := fun x cs w h => en_rep.one x cs w h.1
  keep := fun x cs w w' h hk => ⟨en_rep.keep x cs w w' h.1 hk, h.2⟩
  lt := fun x cs w h => en_rep.lt x cs w h.1
theorem All2.hi {B : Nat} {w : World} : ∀ {xs : List En} {css : List (List Value)}, All2 (hiR B) w xs css → All2 enR w xs css ∧ ∀ cs ∈ css, ∀ k, Pts cs k → B ≤ k
  | _, _, .nil => ⟨.nil, by simp⟩
  | _, _, .cons h t => ⟨.cons h.1 t.hi.1, fun cs hc k hk => by
    rcases List.mem_cons.1 hc with rfl | hc
    · exact h.2 k hk
    · exact t.hi.2 cs hc k hk⟩
theorem Feed.hi {P : Program} {tx e' : TypeId} {w : World} {B : Nat} {A : Option Addr} {c : Nat} (hrow : ∀ g, rowOf A c = some g → g < B)
    {A2 : Option Addr} {m c2 : Nat} {ys : List En} (h : Lst 3 (hiR B) w A2 m c2 ys) (hk : P.underlying tx = some (.slice e')) : Feed P 3 enR w tx A c (.slice A2 m c2) m ys := by
  refine ⟨h.len, ?_⟩
  obtain ⟨dss, h1, h2⟩ := h.rd
  obtain ⟨h3, h4⟩ := h1.hi
  refine ⟨dss, h3, h2.src c2 hk (h3.one en_rep), fun cs hcs k hk e => ?_⟩
  have q1 := h4 cs hcs k hk
  have q2 := hrow k e
  omega
set_option maxHeartbeats 1000000 in
theorem ref_AllFramesH {A : Option Addr} {n c : Nat} {b : List UInt8} {w : World} (hb : Sl w A n c b) (hn6 : n ≤ 1000000) :
    Calls Try.prog 27 #[.slice A n c] w fun e w' => ∃ A' n' c', e = .returned (.tuple #[.slice A' n' c', .int .i64 (allL b).2]) ∧ OwnL TEn 3 (hiR w.heap.size) w' w.heap.size A' n' c' (enL (allL b).1) ∧ Ext w w' := by
  have h63 := hb.n63
  have hbl := hb.len
  obtain ⟨i0, hi0, hz0, hz1, hz2⟩ := info_parts info_en
  obtain ⟨ae, hae⟩ : ∃ q, enL (allL b).1 = q := ⟨_, rfl⟩
  obtain ⟨am, ham⟩ : ∃ q, (allL b).2 = q := ⟨_, rfl⟩
  rw [hae, ham]
  have HAE := Lib.hid hae
  have HAM := Lib.hid ham
  clear hae ham
  go_enter Try.func27, Try.ntmps27
  go_wp2_with fail
  go_loopw [4, 5] (fun v i wr => ∃ (k : Nat) (es : List En) (Ak : Option Addr) (m ck : Nat), Hid (Upto b k es) ∧ k ≤ n ∧ m * 22 ≤ k ∧ v = .slice Ak m ck ∧ i = .int .i64 k ∧ OwnL TEn 3 (hiR w.heap.size) wr w.heap.size Ak m ck es ∧ Ext w wr) (fun _ i _ => n - (intOf i).toNat)
  case atStart => exact ⟨0, [], none, 0, 0, upto_zero b, by omega, by omega, rfl, rfl, OwnL.nil _ _ _ _, Ext.refl _⟩
  case round =>
    obtain ⟨k, es, Ak, m, ck, hup, hkn, hmk, rfl, rfl, hown, hxr⟩ := hrel
    have ht := tkA_at (b := b) (k := k) (by omega)
    by_cases hlt : k < n
    case neg =>
      have h0 : tkE (b.drop k) ≠ 0 := by rw [List.drop_of_length_le (by omega)]; decide
      obtain ⟨e1, e2⟩ := upto_end hup.out h0
      rw [HAE.out] at e1
      rw [HAM.out] at e2
      subst e1 e2
      clear ht h0 hup
      go_wp2_with fail
      go_ret2
      exact ⟨_, _, _, rfl, hown, hxr⟩
    by_cases h0 : tkE (b.drop k) = 0
    · rw [if_pos h0] at ht
      have hnx := upto_next hup.out h0
      have hk1 : k + (tkN (b.drop k) + 22) ≤ n := by have := hnx.1; omega
      obtain ⟨T, hT⟩ : ∃ q, tkT (b.drop k) = q := ⟨_, rfl⟩
      obtain ⟨S, hS⟩ : ∃ q, tkS (b.drop k) = q := ⟨_, rfl⟩
      obtain ⟨D, hD⟩ : ∃ q, tkD (b.drop k) = q := ⟨_, rfl⟩
      obtain ⟨k2, hk2⟩ : ∃ q, k + (tkN (b.drop k) + 22) = q := ⟨_, rfl⟩
      have hkk : k + 22 ≤ k2 := by omega
      rw [hT, hS, hD, hk2] at ht hnx
      rw [hk2] at hk1
      have HT := Lib.hid ht
      have HNX := Lib.hid hnx
      clear ht hnx hT hS hD hk2 h0 hup
      go_wp2_with fail
      refine (ref_TakeFrame (hb.ext hxr) hn6 HT).mono ?_
      rintro e w2 ⟨A2, n2, c2, rfl, hb2, hx2⟩
      have hr2 := hxr.size
      have hw2 := hx2.size
      obtain ⟨css, ha, ho, hp⟩ := (hown.ext (hi_rep w.heap.size) hx2).own
      have hlen := hown.len
      have hrow := hown.row_lt
      have hA2 : All2 (hiR w.heap.size) ((w2.alloc (.cells #[.int .i64 T, .int .i64 S, .slice A2 n2 c2] 24)).alloc (.cells #[.int .i64 T, .int .i64 S, .slice A2 n2 c2] 24)) [⟨T, S, D⟩] [[.int .i64 T, .int .i64 S, .slice A2 n2 c2]] := .cons ⟨⟨A2, n2, c2, rfl, (hb2.sl.ext (Ext.alloc _ _)).ext (Ext.alloc _ _)⟩, fun k hk => by obtain ⟨ad, e1, e2, rfl⟩ := pts_en hk; have := hb2.fr ad e1 e2; omega⟩ .nil
      have hsrc : Src Try.prog 3 32 (.slice (some ⟨w2.heap.size + 1, 0, none⟩) 1 1) 1 [.int .i64 T, .int .i64 S, .slice A2 n2 c2] ((w2.alloc (.cells #[.int .i64 T, .int .i64 S, .slice A2 n2 c2] 24)).alloc (.cells #[.int .i64 T, .int .i64 S, .slice A2 n2 c2] 24)) := by
        have := src_cells (P := Try.prog) (w := w2.alloc (.cells #[.int .i64 T, .int .i64 S, .slice A2 n2 c2] 24)) (e := 24) under_ens #[.int .i64 T, .int .i64 S, .slice A2 n2 c2] rfl (by intro u hu; simp at hu; rcases hu with rfl | rfl | rfl <;> rfl)
        rw [show (w2.alloc (.cells #[.int .i64 T, .int .i64 S, .slice A2 n2 c2] 24)).heap.size = w2.heap.size + 1 by simp] at this
        exact this
      have hk3 : ∀ cs ∈ [[Value.int .i64 T, .int .i64 S, .slice A2 n2 c2]], ∀ k, Pts cs k → rowOf Ak ck ≠ some k := by
        intro cs hcs k hk e
        simp at hcs
        subst hcs
        obtain ⟨ad, e1, e2, e3⟩ := pts_en hk
        have h4 := hb2.fr ad e1 e2
        have h5 := (hrow k e).2
        omega
      go_wp2_with (at_builtin; refine wpList_append_mine _ rfl _ _ _ _ rfl w.heap.size TEn i0 _ 3 40 under_ens hi0 hz0 hz1 hz2 rfl Ak m ck _ rfl ((ho.alloc _).alloc _) _ rfl 1 _ hsrc (by simp only [maxLen]; omega) (by omega) (by simp; omega) ?_; intro A3 c3 w3 hown3 hg3 hr3)
      have hnew : OwnL TEn 3 (hiR w.heap.size) w3 w.heap.size A3 (m + 1) c3 (es ++ [⟨T, S, D⟩]) := OwnL.more (hi_rep w.heap.size) hlen rfl (ha.mono fun x cs _ hr => (hi_rep w.heap.size).keep _ _ _ _ hr fun k hk => Below.block ((Ext.alloc _ _).allocs _) k ((hi_rep w.heap.size).lt _ _ _ hr k hk)) hp hA2 hk3 (by simpa using hown3) hg3 hr3
      have hx3 : Ext w w3 := below_grown (((hxr.trans hx2).allocs _).allocs _) ((ho.alloc _).alloc _) hg3 (by simp; omega)
      clear hown3 hg3 hr3 hk3 hsrc hA2 ha ho hp hown hb2 hrow
      go_wp2_with fail
      go_roundw
      case rel => exact ⟨k2, _, A3, m + 1, c3, HNX, hk1, by omega, rfl, rfl, hnew, hx3⟩
      case measure => simp [intOf]; omega
    · rw [if_neg h0] at ht
      obtain ⟨e1, e2⟩ := upto_end hup.out h0
      obtain ⟨er, her⟩ : ∃ q, tkE (b.drop k) = q := ⟨_, rfl⟩
      rw [her] at ht h0
      have hern : ((er : Int) != 0) = true := by simpa using h0
      have HT := Lib.hid ht
      rw [HAE.out] at e1
      rw [HAM.out] at e2
      subst e1 e2
      clear ht h0 her hup
      go_wp2_with fail
      refine (ref_TakeFrame (hb.ext hxr) hn6 HT).mono ?_
      rintro e w2 ⟨A2, n2, c2, rfl, hb2, hx2⟩
      go_wp2_with fail
      go_ret2
      exact ⟨_, _, _, rfl, (hown.ext (hi_rep w.heap.size) hx2).ext (hi_rep w.heap.size) (Ext.alloc _ _), (hxr.trans hx2).trans (Ext.alloc _ _)⟩

end Go.Proofs.Ytcchlkialgjamaa
