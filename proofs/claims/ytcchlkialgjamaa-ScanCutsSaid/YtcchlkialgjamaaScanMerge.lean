/-
  Chapter 11: contract of the program's Merge.
-/
import Derived.Test.YtcchlkialgjamaaScanFirst
namespace Go.Proofs.Ytcchlkialgjamaa
open Go.RowKit
set_option linter.unusedVariables false
set_option linter.unusedSimpArgs false
set_option linter.unnecessarySimpa false
set_option maxRecDepth 100000

theorem cell_grownE {w w' : World} {row : Option Nat} (hg : w.grownBy w' row) {p : Addr} {u : Value} (hc : w.cell? p = some u) (hne : row ≠ some p.block) : w'.cell? p = some u := by
  have hb := World.block_lt_of_cell? w p hc
  rw [← hc]
  exact World.cell?_of_block (hg.block p.block hb hne.symm)
/-- what the box of the loop holds -/
def BoxE (wL w : World) (g : Nat) (o : Option En) : Prop := ∀ x, o = some x → ∃ A n c, w.cell? ⟨g, 0, none⟩ = some (.int .i64 x.t) ∧ w.cell? ⟨g, 1, none⟩ = some (.int .i64 x.s) ∧ w.cell? ⟨g, 2, none⟩ = some (.slice A n c) ∧ Sl wL A n c x.d
theorem Shown.look {w : World} {b nn : Nat} {f : Int → Option Value} {L : List En} (h : MapE w b nn f) (hs : Shown w f L) {i : Int} (hi : -9223372036854775808 ≤ i ∧ i ≤ 9223372036854775807) (o : Option En) (ho : fstEn L i = o) :
    ∃ T S A n c, (∀ w2, Ext w w2 → (Instr.lookup TMapE (.map (some b)) (.int .i64 i) true).run Try.prog w2 = .ok (.tuple #[.agg #[.int .i64 T, .int .i64 S, .slice A n c], .bool o.isSome]) w2) ∧ ∀ x, o = some x → T = x.t ∧ S = x.s ∧ Sl w A n c x.d := by
  cases o with
  | none =>
    have h1 := (hs i).1 ho
    refine ⟨0, 0, none, 0, 0, fun w2 hx => ?_, fun x hx => by cases hx⟩
    have := (h.ext hx).look (WalkArith.wf_i64 hi)
    rw [h1] at this
    exact this
  | some x =>
    obtain ⟨A, n, c, h1, h2⟩ := (hs i).2 x ho
    refine ⟨x.t, x.s, A, n, c, fun w2 hx => ?_, fun y hy => by cases hy; exact ⟨rfl, rfl, h2⟩⟩
    have := (h.ext hx).look (WalkArith.wf_i64 hi)
    rw [h1] at this
    exact this

theorem frsOf_len : ∀ rows : List (List UInt8), ShortF rows → (frsOf rows).length ≤ rows.length * 500
  | [], _ => by simp [frsOf]
  | r :: rows, h => by
    have h1 := frsOf_len rows fun x hx => h x (by simp [hx])
    have h2 := (allL_facts r).2
    have h3 := h r (by simp)
    unfold frsOf at h1 ⊢
    simp only [List.map_cons, List.flatten_cons, List.length_append, List.length_cons]
    omega

set_option maxHeartbeats 2000000 in
theorem scan_Merge {A : Option Addr} {n c : Nat} {rows : List (List UInt8)} {s : Int} {w : World} (hl : Lst 1 blR w A n c rows) (hn : n ≤ 40) (hs : ShortF rows) (hs63 : s ≤ 9223372036854775807) :
    Calls Try.prog 31 #[.slice A n c, .int .i64 s] w fun e w' => ∃ A' n' c', e = .returned (.slice A' n' c') ∧ OwnL TEn 3 enR w' w.heap.size A' n' c' (mergeL rows s) ∧ Ext w w' := by
  have h63 := hl.n63
  by_cases hs1 : s < 1
  · have e : mergeL rows s = [] := by unfold mergeL; rw [if_pos hs1]
    rw [e]
    clear e
    go_enter Try.func31, Try.ntmps31
    go_wp2_with fail
    go_ret
    exact ⟨_, _, _, rfl, OwnL.nil _ _ _ _, Ext.refl _⟩
  obtain ⟨i0, hi0, hz0, hz1, hz2⟩ := info_parts info_en
  obtain ⟨res, hres⟩ : ∃ q, mergeL rows s = q := ⟨_, rfl⟩
  have HRES := Lib.hid hres
  rw [hres]
  clear hres
  have hmm := @run_makeMap Try.prog
  go_enter Try.func31, Try.ntmps31
  go_wp2_with fail
  clear hmm
  go_loopw [22] (fun i wr => ∃ (k nn : Nat) (f : Int → Option Value) (L : List En), k ≤ n ∧ i = .int .i64 k ∧ nn ≤ k * 500 ∧ MapE wr w.heap.size nn f ∧ Hid (frsOf (rows.take k) = L) ∧ Shown wr f L ∧ Ext w wr) (fun i _ => n - (intOf i).toNat)
  case atStart => exact ⟨0, 0, _, [], by omega, rfl, by omega, MapE.made w, rfl, Shown.nil _, Ext.alloc _ _⟩
  case round =>
    obtain ⟨k, nn, f, L, hk, rfl, hnn, hmap, hL, hsh, hxr⟩ := hrel
    by_cases hlt : k < n
    · obtain ⟨ga, oa, r, Ar, nr, cr, rfl, hr, a0, hsl⟩ := row_at hl hlt
      have hnr0 : nr ≤ 10000 := by have := hs r (List.mem_of_getElem? hr); rw [hsl.len] at this; omega
      obtain ⟨ae, hae⟩ : ∃ q, enL (allL r).1 = q := ⟨_, rfl⟩
      have HNX : Hid (frsOf (rows.take (k + 1)) = L ++ ae) := by
        unfold Hid
        rw [frsOf_next hr, hL.out, hae]
      have HNUM : Hid (∀ x ∈ ae, 1 ≤ x.s ∧ x.s ≤ 1099511627776) := by rw [← hae]; exact (allL_facts r).1
      have hael : ae.length ≤ 500 := by have := (allL_facts r).2; rw [hae, hsl.len] at this; omega
      replace a0 := hxr.cell a0
      replace hsl := hsl.ext hxr
      have hall := frame_All hsl (by omega)
      obtain ⟨a2, ha2⟩ : ∃ q, (allL r).2 = q := ⟨_, rfl⟩
      rw [hae, ha2] at hall
      clear hae ha2 hr hs hL
      go_wp2_with fail
      refine hall.mono ?_
      rintro e w2 ⟨A2, n2, c2, rfl, hown, hx2⟩
      clear hall a0 hsl
      have hle := hown.lst
      clear hown
      have hn2 : n2 ≤ 500 := by rw [← hle.len]; exact hael
      have hx3 := hxr.trans hx2
      have hmap2 := hmap.ext hx2
      have hsh2 := hsh.calm (Calm.of_ext hx2)
      clear hmap hsh hael
      go_wp2_with fail
      go_loopw [33] (fun i wr => ∃ (j nn2 : Nat) (f2 : Int → Option Value) (L2 : List En), j ≤ n2 ∧ i = .int .i64 j ∧ nn2 ≤ nn + j ∧ MapE wr w.heap.size nn2 f2 ∧ Hid (L ++ ae.take j = L2) ∧ Shown wr f2 L2 ∧ Calm w2 wr ∧ Ext w wr) (fun i _ => n2 - (intOf i).toNat)
      case atStart => exact ⟨0, nn, f, L, by omega, rfl, by omega, hmap2, by unfold Hid; simp, hsh2, Calm.of_ext (Ext.refl _), hx3⟩
      case round =>
        clear hmap2 hsh2
        obtain ⟨j, nn2, f2, L2, hj, rfl, hnn2, hmap, hL2, hsh, hcalm, hxr2⟩ := hrel
        by_cases hlt2 : j < n2
        · obtain ⟨gb, ob, x, cs, rfl, hx, ⟨Aa, na, ca, rfl, sa0⟩, ha⟩ := (hle.calm hcalm).at2 en_rep (by omega) hlt2
          have a0 : wr.cell? ⟨gb, ob + j * 3, none⟩ = _ := ha 0 _ rfl
          have a1 := ha 1 _ rfl
          have a2 := ha 2 _ rfl
          have HNX2 : Hid (L ++ ae.take (j + 1) = L2 ++ [x]) := by
            unfold Hid
            rw [List.take_add_one, hx, ← hL2.out]
            simp
          obtain ⟨z1, z2⟩ := HNUM.out x (List.mem_of_getElem? hx)
          obtain ⟨xt, xs', xd⟩ := x
          simp only at z1 z2 a0 a1 a2 sa0
          obtain ⟨o, ho⟩ : ∃ o, fstEn L2 xs' = o := ⟨_, rfl⟩
          obtain ⟨T2, S2, A5, n5, c5, hlk, _⟩ := Shown.look hmap hsh (i := xs') ⟨by omega, by omega⟩ o ho
          have hlk1 := hlk _ (Ext.alloc wr (.cells #[.int .i64 xt, .int .i64 xs', .slice Aa na ca] 24))
          have hlt3 := hmap.lt
          cases o with
          | some y =>
            have hsh3 := hsh.more (x := ⟨xt, xs', xd⟩) ho
            have HO := Lib.hid ho
            clear hlk ho hx ha sa0 hL2 hsh z1 z2
            simp only [Option.isSome_some] at hlk1
            go_wp2_with fail
            go_roundw
            case rel => exact ⟨j + 1, nn2, f2, _, by omega, by go_num, by omega, (hmap.ext (Ext.alloc _ _)).ext (Ext.alloc _ _), HNX2, (hsh3.calm (Calm.of_ext (Ext.alloc _ _))).calm (Calm.of_ext (Ext.alloc _ _)), (hcalm.trans (Calm.of_ext (Ext.alloc _ _))).trans (Calm.of_ext (Ext.alloc _ _)), (hxr2.trans (Ext.alloc _ _)).trans (Ext.alloc _ _)⟩
            case measure => simp [intOf]; omega
          | none =>
            have gx := (Ext.alloc wr (.cells #[.int .i64 xt, .int .i64 xs', .slice Aa na ca] 24)).trans (Ext.alloc _ (.cells #[.int .i64 T2, .int .i64 S2, .slice A5 n5 c5] 24))
            have hmapB := hmap.ext gx
            have hshB := hsh.calm (Calm.of_ext gx)
            have hsaB := sa0.ext gx
            have hwf := WalkArith.wf_i64 (n := xs') ⟨by omega, by omega⟩
            have hxB := hxr2.trans gx
            have hcB := hcalm.trans (Calm.of_ext gx)
            have HO := Lib.hid ho
            clear hlk ho hx ha sa0 hL2 hsh z1 z2 gx hmap
            simp only [Option.isSome_none] at hlk1
            go_wp2_with (first | (at_mapUpdate; refine wpList_mapE_put rfl _ _ _ rfl w.heap.size nn2 f2 rfl hmapB (by simp only [maxLen]; omega) xs' hwf rfl _ rfl ?_; intro w7 hm7 hg7) | fail)
            have hc7 := hmapB.calm hg7
            have hx7 : Ext w w7 := by have := hxB.grown hg7 hxB.size (fun j hj => by cases hj; omega); exact this
            go_roundw
            case rel => exact ⟨j + 1, nn2 + 1, _, _, by omega, by go_num, by omega, hm7, HNX2, (hshB.put (x := ⟨xt, xs', xd⟩) HO.out hsaB).calm hc7, hcB.trans hc7, hx7⟩
            case measure => simp [intOf]; omega
        · obtain rfl : j = n2 := by omega
          have e := hL2.out
          rw [List.take_of_length_le (by rw [hle.len]; exact Nat.le_refl _)] at e
          have HQ : Hid (frsOf (rows.take (k + 1)) = L2) := by unfold Hid; rw [HNX.out, e]
          clear e hL2
          go_wp2_with fail
          go_roundw
          case rel => exact ⟨k + 1, nn2, f2, L2, by omega, by go_num, by omega, hmap, HQ, hsh, hxr2⟩
          case measure => simp [intOf]; omega
    · obtain rfl : k = n := by omega
      have e := hL.out
      rw [List.take_of_length_le (by rw [hl.len]; exact Nat.le_refl _)] at e
      have HRL : Hid (res = goM L (L.length + 1) s) := by
        unfold Hid
        rw [← HRES.out, ← e]
        unfold mergeL
        rw [if_neg (by omega)]
      have HLEN : L.length ≤ 20000 := by
        have h1 := frsOf_len rows hs
        rw [e, hl.len] at h1
        omega
      have HNUM : Hid (∀ x ∈ L, 1 ≤ x.s ∧ x.s ≤ 1099511627776) := by rw [← e]; exact frsOf_num
      clear e hL HRES hs hl
      obtain ⟨wL, rfl⟩ : ∃ q, q = wr := ⟨_, rfl⟩
      obtain ⟨oI, ho⟩ : ∃ o, fstEn L s = o := ⟨_, rfl⟩
      obtain ⟨T2, S2, A5, n5, c5, hlk, hlx⟩ := Shown.look hmap hsh (i := s) ⟨by omega, by omega⟩ oI ho
      have hlk1 := hlk _ (Ext.refl wL)
      have HO : Hid (fstEn L (s + (0 : Nat)) = oI) := by unfold Hid; simpa using ho
      have HLX := Lib.hid hlx
      have HSH := Lib.hid hsh
      clear hlk hlx ho hsh
      go_wp2_with fail
      have hgx := Ext.alloc wL (.cells #[.int .i64 T2, .int .i64 S2, .slice A5 n5 c5] 24)
      go_loopw [1, 14, 15, 16] (fun fr out bx fd wr => ∃ (m : Nat) (es : List En) (Ak : Option Addr) (ck gb : Nat) (o : Option En), fr = .int .i64 (s + (m : Int)) ∧ out = .slice Ak m ck ∧ bx = .pointer (some ⟨gb, 0, none⟩) ∧ fd = .bool o.isSome ∧ OwnL TEn 3 enR wr wL.heap.size Ak m ck es ∧ rowOf Ak ck ≠ some gb ∧ Hid (Gone L s m es) ∧ Hid (fstEn L (s + (m : Nat)) = o) ∧ BoxE wL wr gb o ∧ Ext wL wr) (fun fr _ _ _ _ => L.length + 1 - ((intOf fr) - s).toNat)
      case atStart =>
        refine ⟨0, [], none, 0, wL.heap.size, oI, by simp, rfl, rfl, rfl, OwnL.nil _ _ _ _, by simp [rowOf], gone_zero L s, HO, ?_, hgx⟩
        intro x hx
        obtain ⟨rfl, rfl, hsx⟩ := HLX.out x hx
        exact ⟨A5, n5, c5, cell_new wL _ _ 0, cell_new wL _ _ 1, cell_new wL _ _ 2, hsx⟩
      case round =>
        clear HLX HO hlk1
        obtain ⟨m, es, Ak, ck, gb, o, rfl, rfl, rfl, rfl, hown, hrow, hgo, HO, hbox, hxr2⟩ := hrel
        have hmL := hgo.out.2.1
        cases o with
        | none =>
          have e := gone_end hgo.out HO.out
          rw [← HRL.out] at e
          subst e
          simp only [Option.isSome_none]
          clear hgo HO hbox HRL
          go_wp2_with fail
          go_ret
          exact ⟨_, _, _, rfl, hown.low hxr.size, hxr.trans hxr2⟩
        | some x =>
          have hmem := fstEn_mem HO.out
          have hxs := fstEn_s HO.out
          obtain ⟨z1, z2⟩ := HNUM.out x hmem
          have HGN := Lib.hid (gone_next hgo.out HO.out)
          have hmL1 := HGN.out.2.1
          obtain ⟨Ax, nx, cx, b0, b1, b2, sx⟩ := hbox x rfl
          obtain ⟨o2, ho2⟩ : ∃ o, fstEn L (s + (m : Int) + 1) = o := ⟨_, rfl⟩
          obtain ⟨T3, S3, A6, n6, c6, hlk, hlx⟩ := Shown.look hmap HSH.out (i := s + (m : Int) + 1) ⟨by omega, by omega⟩ o2 ho2
          have HO2 : Hid (fstEn L (s + ((m + 1 : Nat) : Int)) = o2) := by unfold Hid; rw [← ho2]; congr 1; omega
          have HLX := Lib.hid hlx
          have hrow2 := hown.row_lt
          obtain ⟨xt, xs', xd⟩ := x
          simp only at hxs b0 b1 b2 sx z1 z2
          subst hxs
          have hfd : Feed Try.prog 3 enR (wr.alloc (.cells #[.int .i64 xt, .int .i64 (s + (m : Int)), .slice Ax nx cx] 24)) 32 Ak ck (.slice (some ⟨wr.heap.size, 0, none⟩) 1 1) 1 [⟨xt, s + (m : Int), xd⟩] := by
            refine Feed.lit en_rep _ _ ⟨Ax, nx, cx, rfl, sx.ext hxr2⟩ under_ens (fun k hk e => ?_) rfl
            obtain ⟨ad, e1, e2, rfl⟩ := pts_enA hk
            have h1 := sx.blk ad e1 e2
            have h2 := (hrow2 _ e).1
            omega
          have d0 := (Ext.alloc wr (.cells #[.int .i64 xt, .int .i64 (s + (m : Int)), .slice Ax nx cx] 24)).cell b0
          have d1 := (Ext.alloc wr (.cells #[.int .i64 xt, .int .i64 (s + (m : Int)), .slice Ax nx cx] 24)).cell b1
          have d2 := (Ext.alloc wr (.cells #[.int .i64 xt, .int .i64 (s + (m : Int)), .slice Ax nx cx] 24)).cell b2
          have hb32 : (m + 1) * 40 ≤ 140737488355328 := by omega
          simp only [Option.isSome_some]
          clear hlx ho2 hmem hgo HO hbox hrow2
          go_wp2_with (
            at_builtin
            refine wpList_append_lst2 (w0 := wL) en_rep rfl _ _ _ _ rfl TEn i0 _ 40 under_ens hi0 hz0 hz1 hz2 rfl Ak m ck _ rfl (hown.ext en_rep (Ext.alloc _ _)) _ 1 [⟨xt, s + (m : Int), xd⟩] rfl hfd (m + 1) rfl _ rfl (by simp only [maxLen]; omega) hb32 (hxr2.allocs _) ?_
            intro A3 c3 w3 hown3 hx3 hg3
            have q0 := cell_grownE hg3 d0 hrow
            have q1 := cell_grownE hg3 d1 hrow
            have q2 := cell_grownE hg3 d2 hrow
            have hlk3 := hlk _ (hx3.trans (Ext.alloc w3 (.cells #[.int .i64 xt, .int .i64 (s + (m : Int)), .slice Ax nx cx] 24)))
            clear hlk)
          go_wp2_with fail
          go_roundw
          case rel =>
            refine ⟨m + 1, _, A3, c3, w3.heap.size, o2, ?_, rfl, rfl, rfl, ?_, ?_, HGN, HO2, ?_, ?_⟩
            · go_num
            · exact hown3.ext en_rep (Ext.alloc _ _)
            · intro e
              have := (hown3.row_lt _ e).2
              omega
            · intro y hy
              obtain ⟨rfl, rfl, hsy⟩ := HLX.out y hy
              exact ⟨A6, n6, c6, cell_new w3 _ _ 0, cell_new w3 _ _ 1, cell_new w3 _ _ 2, hsy⟩
            · exact hx3.trans (Ext.alloc _ _)
          case measure => simp [intOf]; omega
end Go.Proofs.Ytcchlkialgjamaa
