/-
  Images with snapshots: contract of the program's Right.
-/
import Derived.Test.YtcklkjklepmabaaZSetB
import Derived.Test.YtcklkjklepmabaaZEvSame
namespace Go.Proofs.Ytcklkjklepmabaa
open Go.RowKit
set_option linter.unusedVariables false
set_option linter.unusedSimpArgs false
set_option linter.unnecessarySimpa false
set_option maxRecDepth 100000

theorem rightS_long {st : St} (h : 512 < st.d.length ∨ 8 < st.sn.length) : rightS st = false := by
  unfold rightS
  rw [Bool.and_eq_false_iff]
  right
  rcases h with h | h
  · simp; omega
  · simp; omega
theorem in_take {xs : List Ol} {k : Nat} {t : ByteArray} : (∃ y ∈ xs.take k, y.nm = t) ↔ ¬ ∀ j, j < k → ∀ y, xs[j]? = some y → y.nm ≠ t := by
  constructor
  · rintro ⟨y, hy, e⟩ hh
    obtain ⟨j, hj⟩ := List.mem_iff_getElem?.1 hy
    rw [List.getElem?_take] at hj
    split at hj
    · rename_i h; exact hh j h y hj e
    · cases hj
  · intro hh
    apply Classical.byContradiction
    intro hc
    apply hh
    intro j hj y hy e
    exact hc ⟨y, List.mem_iff_getElem?.2 ⟨j, by rw [List.getElem?_take, if_pos hj]; exact hy⟩, e⟩
theorem set_next {xs : List Ol} {k : Nat} {xn : ByteArray} {xd : List UInt8} {p : ByteArray → Bool} (hp : ∀ t, p t = (xs.take k).any (fun y => decide (y.nm = t))) (hx : xs[k]? = some ⟨xn, xd⟩) : ∀ t, (decide (t = xn) || p t) = (xs.take (k + 1)).any (fun y => decide (y.nm = t)) := by
  intro t
  rw [hp t, List.take_add_one, hx, List.any_append, Bool.or_comm]
  congr 1
  simp [eq_comm]
set_option maxHeartbeats 4000000 in
theorem model_Right {A : Option Addr} {n c : Nat} {A2 : Option Addr} {n2 c2 : Nat} {st : St} {w : World} (hst : StR w A n c A2 n2 c2 st) {r : Bool} (hr : Hid (rightS st = r)) :
    Calls Try.prog 58 #[stV A n c A2 n2 c2] w fun e w' => e = .returned (.bool r) ∧ Ext w w' := by
  have h63 := hst.1.n63
  have h632 := hst.2.n63
  have hdl := hst.1.len
  have hsn := hst.2.len
  obtain ⟨W, hW⟩ : ∃ W, w.alloc (.cells #[.slice A n c, .slice A2 n2 c2] TSt) = W := ⟨_, rfl⟩
  have g0 : Ext w W := by rw [← hW]; exact Ext.alloc _ _
  have s0 : W.cell? ⟨w.heap.size, 0, none⟩ = some (.slice A n c) := by rw [← hW]; exact cell_new w _ _ 0
  have s1 : W.cell? ⟨w.heap.size, 1, none⟩ = some (.slice A2 n2 c2) := by rw [← hW]; exact cell_new w _ _ 1
  have hmm := @run_makeMap Try.prog
  by_cases v1 : 512 < n
  · have e1 : decide ((512 : Int) < (n : Int)) = true := by simp; omega
    have e1n : decide (512 < n) = true := by simp; omega
    obtain rfl : false = r := by rw [← hr.out]; exact (rightS_long (.inl (by omega))).symm
    clear hr
    go_enter Try.func58, Try.ntmps58
    go_wp2_with fail
    go_ret
    exact ⟨rfl, g0⟩
  have e1 : decide ((512 : Int) < (n : Int)) = false := by simp; omega
  have e1n : decide (512 < n) = false := by simp; omega
  by_cases v2 : 8 < n2
  · have e2 : decide ((8 : Int) < (n2 : Int)) = true := by simp; omega
    have e2n : decide (8 < n2) = true := by simp; omega
    obtain rfl : false = r := by rw [← hr.out]; exact (rightS_long (.inr (by omega))).symm
    clear hr
    go_enter Try.func58, Try.ntmps58
    go_wp2_with fail
    go_ret
    exact ⟨rfl, g0⟩
  have e2 : decide ((8 : Int) < (n2 : Int)) = false := by simp; omega
  have e2n : decide (8 < n2) = false := by simp; omega
  obtain ⟨W1, hW1⟩ : ∃ W1, W.alloc (.map #[] 0) = W1 := ⟨_, rfl⟩
  obtain ⟨bm, hbm⟩ : ∃ bm, W.heap.size = bm := ⟨_, rfl⟩
  have hset0 : SetB W1 bm 0 (fun _ => false) := by rw [← hW1, ← hbm]; exact SetB.made W
  have gW1 : Ext W W1 := by rw [← hW1]; exact Ext.alloc _ _
  have t0 := gW1.cell s0
  have t1 := gW1.cell s1
  go_enter Try.func58, Try.ntmps58
  go_wp2_with fail
  go_loopw [20] (fun i wr => ∃ (k : Nat) (p : ByteArray → Bool), k ≤ n2 ∧ i = .int .i64 k ∧ SetB wr bm k p ∧ Hid (∀ t, p t = (st.sn.take k).any (fun y => decide (y.nm = t))) ∧ Hid (∀ j, j < k → ∀ x, st.sn[j]? = some x → okO st j x = true) ∧ Ext W wr) (fun i _ => n2 - (intOf i).toNat)
  case atStart => exact ⟨0, _, by omega, rfl, hset0, (by intro t; simp), (by intro j hj; omega), gW1⟩
  case round =>
    obtain ⟨k, p, hk, rfl, hset, hp, hok, hxr⟩ := hrel
    clear hset0 hW hW1
    replace s0 := hxr.cell s0
    replace s1 := hxr.cell s1
    have gxr := g0.trans hxr
    by_cases hlt : k < n2
    · obtain ⟨ga, oa, x, cs, rfl, hx, ⟨Aa, nd, ca, rfl, sa0, hs1⟩, ha⟩ := hst.2.at2 ol_rep (by omega) hlt
      have a0 : wr.cell? ⟨ga, oa + k * 2, none⟩ = _ := gxr.cell (ha 0 _ rfl)
      have a1 := gxr.cell (ha 1 _ rfl)
      have hn63 := sa0.n63
      have hdd := sa0.len
      have HX := Lib.hid hx
      have hff := find_first hx rfl
      obtain ⟨xn, xd⟩ := x
      simp only at a0 a1 hs1 hdd hff
      obtain ⟨b, hb⟩ : ∃ b, nameB xn = b := ⟨_, rfl⟩
      obtain ⟨pb, hpb⟩ : ∃ pb, p xn = pb := ⟨_, rfl⟩
      have hpf : pb = !decide (findI st.sn xn = (k : Int)) := by
        rw [← hpb, hp.out xn, Bool.eq_iff_iff]
        simp only [List.any_eq_true, decide_eq_true_eq, Bool.not_eq_true', decide_eq_false_iff_not]
        rw [in_take, hff]
      have HB := Lib.hid hb
      have hob : okO st k ⟨xn, xd⟩ = (b && decide (nd ≤ 512) && !pb) := by unfold okO; simp only; rw [hb, hdd, hpf, Bool.not_not]
      obtain ⟨w5, hw5⟩ : ∃ w5, wr.alloc (.cells #[.string xn, .slice Aa nd ca] TOl) = w5 := ⟨_, rfl⟩
      have hx5 : Ext wr w5 := by rw [← hw5]; exact Ext.alloc _ _
      have u0 : w5.cell? ⟨wr.heap.size, 0, none⟩ = some (.string xn) := by rw [← hw5]; exact cell_new wr _ _ 0
      have u1 : w5.cell? ⟨wr.heap.size, 1, none⟩ = some (.slice Aa nd ca) := by rw [← hw5]; exact cell_new wr _ _ 1
      have hset5 : SetB w5 bm k p := by rw [← hw5]; exact hset.grown (World.grownBy_alloc wr _ none) (by simp)
      have hlook := hset5.look hs1
      rw [hpb] at hlook
      have gx5 := gxr.trans hx5
      have hx5r := hxr.trans hx5
      clear ha hx sa0 hb hpb hdd hff hset hpf
      cases b with
      | false =>
        obtain rfl : false = r := by rw [← hr.out]; exact (rightS_no HX.out (by rw [hob]; simp [*])).symm
        clear hob hok hr
        go_wp2_with fail
        refine (event_Name xn _ hs1).mono ?_
        rintro e w7 ⟨rfl, rfl⟩
        rw [HB.out]
        go_wp2_with fail
        go_ret
        exact ⟨rfl, gx5⟩
      | true =>
        cases pb with
        | true =>
          obtain rfl : false = r := by rw [← hr.out]; exact (rightS_no HX.out (by rw [hob]; simp [*])).symm
          clear hob hok hr
          go_wp2_with fail
          refine (event_Name xn _ hs1).mono ?_
          rintro e w7 ⟨rfl, rfl⟩
          rw [HB.out]
          go_wp2_with fail
          go_ret
          exact ⟨rfl, gx5⟩
        | false =>
          by_cases q2 : 512 < nd
          · have d2 : decide ((512 : Int) < (nd : Int)) = true := by simp; omega
            have d2n : decide (512 < nd) = true := by simp; omega
            have d3 : decide (nd ≤ 512) = false := by simp; omega
            obtain rfl : false = r := by rw [← hr.out]; exact (rightS_no HX.out (by rw [hob]; simp [*])).symm
            clear hob hok hr
            go_wp2_with fail
            refine (event_Name xn _ hs1).mono ?_
            rintro e w7 ⟨rfl, rfl⟩
            rw [HB.out]
            go_wp2_with fail
            go_ret
            exact ⟨rfl, gx5⟩
          · have d2 : decide ((512 : Int) < (nd : Int)) = false := by simp; omega
            have d2n : decide (512 < nd) = false := by simp; omega
            have HO := Lib.hid (show okO st k ⟨xn, xd⟩ = true by rw [hob]; simp; omega)
            clear hob
            go_wp2_with fail
            refine (event_Name xn _ hs1).mono ?_
            rintro e w7 ⟨rfl, rfl⟩
            rw [HB.out]
            go_wp2_with (first | (at_mapUpdate; refine wpList_set_put rfl _ _ _ rfl bm k p rfl hset5 (by simp only [maxLen]; omega) xn hs1 rfl rfl ?_; intro w7 hset7 hg7) | fail)
            have hx7 : Ext W w7 := by have := hx5r.grown hg7 hx5r.size (fun j hj => by cases hj; omega); exact this
            go_roundw
            case rel =>
              refine ⟨k + 1, _, by omega, by go_num, hset7, ?_, ?_, hx7⟩
              · exact Lib.hid (set_next hp.out HX.out)
              · intro j hj y hy
                rcases Nat.lt_or_ge j k with h | h
                · exact hok j h y hy
                · obtain rfl : j = k := by omega
                  rw [HX.out] at hy
                  injection hy with hy
                  subst hy
                  exact HO.out
            case measure => simp [intOf]; omega
    · obtain rfl : k = n2 := by omega
      have hrr := hr.out
      rw [rightS_all (fun j hj => hok.out j (by omega)), hdl, hsn] at hrr
      obtain rfl : true = r := by rw [← hrr]; simp; omega
      clear hr hrr hok hp
      go_wp2_with fail
      go_ret
      exact ⟨rfl, gxr⟩
end Go.Proofs.Ytcklkjklepmabaa
