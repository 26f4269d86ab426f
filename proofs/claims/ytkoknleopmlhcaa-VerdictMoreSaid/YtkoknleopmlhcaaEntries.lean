/-
  Chapter 23: a history's entries: contract of the statements' entries.
-/
import Derived.Test.YtkoknleopmlhcaaMore
import Derived.Test.YtkoknleopmlhcaaEvs
namespace Go.Proofs.Ytkoknleopmlhcaa
open Go.RowKit
set_option linter.unusedVariables false
set_option linter.unusedSimpArgs false
set_option linter.unnecessarySimpa false
set_option maxRecDepth 100000

def okX (x : Ev) : Bool := rightE x.k x.o x.m x.l.length x.s
def putX (x : Ev) : List UInt8 := putE x.k x.o x.m x.l x.s
def putsL (l : List Ev) : List (List UInt8) := (l.filter okX).map putX
def enAt (tags : List Tg) (e : Int) (i : Nat) (d : List UInt8) : En := ⟨ofI tags (e + 1 + i) 0, e + 1 + i, d⟩
def entOf (tags : List Tg) (e : Int) (ds : List (List UInt8)) : List En := ds.mapIdx (enAt tags e)
theorem puts_yes {l : List Ev} {k : Nat} {x : Ev} (hx : l[k]? = some x) (h : okX x = true) : putsL (l.take (k + 1)) = putsL (l.take k) ++ [putX x] := by
  unfold putsL
  rw [List.take_add_one, hx, List.filter_append, List.map_append]
  simp [h]
theorem puts_no {l : List Ev} {k : Nat} {x : Ev} (hx : l[k]? = some x) (h : okX x = false) : putsL (l.take (k + 1)) = putsL (l.take k) := by
  unfold putsL
  rw [List.take_add_one, hx, List.filter_append, List.map_append]
  simp [h]
theorem ent_yes {tags : List Tg} {e : Int} {ds : List (List UInt8)} {d : List UInt8} {m : Nat} (hm : ds.length = m) : entOf tags e (ds ++ [d]) = entOf tags e ds ++ [⟨ofI tags (e + 1 + m) 0, e + 1 + m, d⟩] := by
  subst hm
  unfold entOf
  rw [List.mapIdx_concat]
  rfl
theorem ent_len (tags : List Tg) (e : Int) (ds : List (List UInt8)) : (entOf tags e ds).length = ds.length := by unfold entOf; simp
theorem puts_len (l : List Ev) : (putsL l).length ≤ l.length := by unfold putsL; rw [List.length_map]; exact List.length_filter_le _ _
theorem puts_ok {l : List Ev} {d : List UInt8} (h : d ∈ putsL l) : evOk d = true ∧ 1 ≤ d.length ∧ d.length ≤ 90 := by
  unfold putsL at h
  obtain ⟨x, hx, rfl⟩ := List.mem_map.1 h
  have hr := (List.mem_filter.1 hx).2
  have := put_len hr
  exact ⟨evOk_put hr rfl, this.1, this.2⟩
set_option maxHeartbeats 2000000 in
theorem law23_entries {A : Option Addr} {n c : Nat} {tags : List Tg} {e : Int} {A' : Option Addr} {n' c' : Nat} {l : List Ev} {w : World} (l3 : Lst 4 tgR w A n c tags) (l1 : Lst 5 evR w A' n' c' l) (hn : n' ≤ 1000) (he0 : 0 ≤ e) (he1 : e ≤ 1000000) {R : List En} (hR : Hid (entOf tags e (putsL l) = R)) :
    Calls Try.prog 21 #[.slice A n c, .int .i64 e, .slice A' n' c'] w fun e w' => ∃ A3 n3 c3, e = .returned (.slice A3 n3 c3) ∧ OwnL TEn 3 enR w' w.heap.size A3 n3 c3 R ∧ Ext w w' := by
  have h63 := l3.n63
  have h63' := l1.n63
  obtain ⟨i0, hi0, hz0, hz1, hz2⟩ := info_parts info_en
  go_enter Try.func21, Try.ntmps21
  go_wp2_with fail
  go_loopw [7, 8] (fun v i wr => ∃ (k m : Nat) (Ak : Option Addr) (ck : Nat) (out : List En), k ≤ n' ∧ m ≤ k ∧ v = .slice Ak m ck ∧ i = .int .i64 k ∧ OwnL TEn 3 enR wr w.heap.size Ak m ck out ∧ Hid (out = entOf tags e (putsL (l.take k))) ∧ Ext w wr) (fun _ i _ => n' - (intOf i).toNat)
  case atStart => exact ⟨0, 0, _, _, [], by omega, by omega, rfl, rfl, OwnL.nil _ _ _ _, rfl, Ext.refl _⟩
  case round =>
    obtain ⟨k, m, Ak, ck, out, hk, hm, rfl, rfl, hown, hrk, hxr⟩ := hrel
    by_cases hlt : k < n'
    · obtain ⟨ga, oa, x, cs, rfl, hx, ⟨Aa, na, ca, rfl, sa0, hs⟩, ha⟩ := l1.at2 ev_rep (by omega) hlt
      have a0 : wr.cell? ⟨ga, oa + k * 5, none⟩ = _ := hxr.cell (ha 0 _ rfl)
      have a1 := hxr.cell (ha 1 _ rfl)
      have a2 := hxr.cell (ha 2 _ rfl)
      have a3 := hxr.cell (ha 3 _ rfl)
      have a4 := hxr.cell (ha 4 _ rfl)
      have sa := sa0.ext hxr
      have hna := sa0.len
      have hlm : (putsL (l.take k)).length = m := by rw [← ent_len tags e, ← hrk.out, hown.len]
      have hY : okX x = true → Hid (out ++ [⟨ofI tags (e + 1 + m) 0, e + 1 + m, putX x⟩] = entOf tags e (putsL (l.take (k + 1)))) := fun h => by
        unfold Hid
        rw [puts_yes hx h, ent_yes hlm, ← hrk.out]
      have hN : okX x = false → Hid (out = entOf tags e (putsL (l.take (k + 1)))) := fun h => by
        unfold Hid
        rw [puts_no hx h, ← hrk.out]
      obtain ⟨r, hr⟩ : ∃ q, okX x = q := ⟨_, rfl⟩
      obtain ⟨L, hL⟩ : ∃ q, (if r = true then putX x else []) = q := ⟨_, rfl⟩
      rw [hr] at hY hN
      have HR : Hid (rightE x.k x.o x.m na x.s = r) := by unfold Hid; rw [← hna]; exact hr
      have HL : Hid ((if r = true then putE x.k x.o x.m x.l x.s else []) = L) := hL
      obtain ⟨og, hog⟩ : ∃ q, ofI tags (e + 1 + m) 0 = q := ⟨_, rfl⟩
      have HO := Lib.hid hog
      rw [hog] at hY
      have hLp : r = true → putX x = L := fun h => by rw [← hL, if_pos h]
      obtain ⟨er, her⟩ : ∃ q : Int, (if r = true then (0 : Int) else 1) = q := ⟨_, rfl⟩
      have HER := Lib.hid her
      obtain ⟨xk, xo, xm, xl, xs'⟩ := x
      simp only at a0 a1 a2 a3 a4 hs HR HL sa
      clear ha hx hrk hna sa0 hR hlm hr hL hog
      by_cases hv : r = true
      · replace hY := hY hv
        rw [hLp hv] at hY
        have q5 : (er == 0) = true := by rw [← her, hv]; rfl
        clear hN hv her hLp
        go_wp2_with fail
        refine (ref_PutEvent xk xo xm Aa na ca xl xs' _ sa hs HR HL).mono ?_
        rintro e1 w2 ⟨A2, n2, c2, rfl, hb2, hx2⟩
        rw [HER.out]
        go_wp2_with fail
        refine (ref_TagOf ((l3.ext tg_rep hxr).ext tg_rep hx2) HO).mono ?_
        rintro e1 w3 ⟨rfl, hx3⟩
        have hown2 := (hown.ext en_rep hx2).ext en_rep hx3
        have hfd := Feed.lit (P := Try.prog) (e := 39) (tx := 32) (A := Ak) (c := ck) en_rep #[.int .i64 og, .int .i64 (e + 1 + (m : Int)), .slice A2 n2 c2] ⟨og, e + 1 + (m : Int), L⟩ ⟨A2, n2, c2, rfl, hb2.sl.ext hx3⟩ under_ens (fun j hj e => by
          obtain ⟨ad, q1, q2, q3⟩ := pts_en hj
          have h4 := hb2.fsl.fr ad q1 q2
          have h5 := (hown.row_lt j e).2
          omega) rfl
        have hx4 := (hxr.trans hx2).trans hx3
        clear a0 a1 a2 a3 a4
        go_wp2_with (
          at_builtin
          refine wpList_append_lst (w0 := w) en_rep rfl _ _ _ _ rfl TEn i0 _ 40 under_ens hi0 hz0 hz1 hz2 rfl Ak m ck _ rfl (hown2.ext en_rep (Ext.alloc _ _)) _ 1 [⟨og, e + 1 + (m : Int), L⟩] rfl hfd (m + 1) rfl _ rfl (by simp only [maxLen]; omega) (by omega) (hx4.allocs _) ?_
          intro A3 c3 w4 hb3 hx5)
        go_wp2_with fail
        go_roundw
        case rel => exact ⟨k + 1, m + 1, A3, c3, _, by omega, by omega, rfl, by go_num, hb3, hY, hx5⟩
        case measure => simp [intOf]; omega
      · have hv : r = false := by simpa using hv
        replace hN := hN hv
        have q5 : (er == 0) = false := by rw [← her, hv]; rfl
        clear hY hv her hLp
        go_wp2_with fail
        refine (ref_PutEvent xk xo xm Aa na ca xl xs' _ sa hs HR HL).mono ?_
        rintro e1 w2 ⟨A2, n2, c2, rfl, hb2, hx2⟩
        rw [HER.out]
        go_wp2_with fail
        go_roundw
        case rel => exact ⟨k + 1, m, Ak, ck, _, by omega, by omega, rfl, by go_num, hown.ext en_rep hx2, hN, hxr.trans hx2⟩
        case measure => simp [intOf]; omega
    · obtain rfl : out = R := by rw [hrk.out, ← hR.out, List.take_of_length_le (by rw [l1.len]; omega)]
      clear hrk hR
      go_wp2_with fail
      go_ret
      exact ⟨_, _, _, rfl, hown, hxr⟩
end Go.Proofs.Ytkoknleopmlhcaa
