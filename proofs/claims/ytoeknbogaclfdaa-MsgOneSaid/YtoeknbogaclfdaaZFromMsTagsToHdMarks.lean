/-
  Messages out of bytes: contracts of the program's tags and batch.
-/
/-
  Records: contracts of the program's marks and Right.
-/
import Derived.Test.YtoeknbogaclfdaaZFromTagSameToTagRight
import Derived.Test.YtoeknbogaclfdaaZFromMsgPlainToMakeMPlain
import Derived.Test.YtoeknbogaclfdaaZFromTagParseToMkGet
import Derived.Test.YtoeknbogaclfdaaZFromTagPutToTagFlat
import Derived.Test.YtoeknbogaclfdaaZFrameTake
import Derived.Test.YtoeknbogaclfdaaZCore
import Derived.Test.YtoeknbogaclfdaaZHdParse
import Derived.Test.YtoeknbogaclfdaaZFromHd2ToHdSame
namespace Go.Proofs.Ytoeknbogaclfdaa
open Go.RowKit
set_option linter.unusedVariables false
set_option linter.unusedSimpArgs false
set_option linter.unnecessarySimpa false
set_option maxRecDepth 100000

theorem gtO_at {b : List UInt8} {a : Int} {q k t : Nat} {most : Int} (ho : gvN b a = some (q, k)) (ht : a.toNat + k = t) (h0 : 0 ≤ a) : gtO b a most = if (q : Int) ≤ most ∧ t + q ≤ b.length then some ((b.drop t).take q, (t : Int) + q) else none := by
  unfold gtO
  rw [ho]
  simp only [Option.bind_some, ht]
  split
  · simp only [Option.some.injEq, Prod.mk.injEq, true_and]
    omega
  · rfl
theorem gv_val {b : List UInt8} {a : Int} {q k : Nat} (ho : gvN b a = some (q, k)) : gvA b a = (q : Int) ∧ gvB b a = a + (k : Int) ∧ gvC b a = true := gv_vals ho
theorem gv_none {b : List UInt8} {a : Int} (ho : gvN b a = none) : gvA b a = 0 ∧ gvB b a = 0 ∧ gvC b a = false := by
  unfold gvA gvB gvC
  rw [ho]
  exact ⟨rfl, rfl, rfl⟩
set_option maxHeartbeats 2000000 in
theorem msg_tags {A : Option Addr} {n c : Nat} {b : List UInt8} {a : Int} {w : World} (hb : Sl w A n c b) (hn6 : n ≤ 1000000) {o : Option (List Tg × Int)} (ho : Hid (tagsO b a = o)) :
    Calls Try.prog 85 #[.slice A n c, .int .i64 a] w fun e w' => ∃ A' n' c' d, e = .returned (.tuple #[.slice A' n' c', .int .i64 d, .bool o.isSome]) ∧ (∀ p, o = some p → d = p.2) ∧ OwnL TTg 4 tgR w' w.heap.size A' n' c' ((o.map Prod.fst).getD []) ∧ Ext w w' := by
  have h63 := hb.n63
  have hlen : b.length = n := hb.len
  have hcap := hb.cap
  have ho1 := ho.out
  unfold tagsO at ho1
  cases hv : gvN b a with
  | none =>
    have HG := Lib.hid (gv_none hv)
    have hg : gtO b a b.length = none := by unfold gtO; rw [hv]; rfl
    rw [hg] at ho1
    obtain rfl : none = o := ho1
    clear hv hg ho hlen
    go_enter Try.func85, Try.ntmps85
    go_wp2_with fail
    refine (bits_GetVar_h hb HG).mono ?_
    rintro e _ ⟨rfl, rfl⟩
    go_wp2_with fail
    go_ret3
    exact ⟨_, _, _, _, rfl, (fun p hp => by cases hp), OwnL.nil _ _ _ _, Ext.refl _⟩
  | some p =>
    obtain ⟨q, k⟩ := p
    obtain ⟨h0a, hq63, hk1, hk9, hakl⟩ := gvN_bd hv
    simp only at h0a hq63 hk1 hk9 hakl
    obtain ⟨t, ht⟩ : ∃ t, a.toNat + k = t := ⟨_, rfl⟩
    have hgt := gtO_at (most := (b.length : Int)) hv ht h0a
    have hva := gv_val hv
    have HG : Hid (gvA b a = (q : Int) ∧ gvB b a = (t : Int) ∧ gvC b a = true) := ⟨hva.1, by rw [hva.2.1]; omega, hva.2.2⟩
    rw [ht, hlen] at hakl
    by_cases hok : t + q ≤ n
    · rw [if_pos ⟨by omega, by omega⟩] at hgt
      rw [hgt, Option.bind_some] at ho1
      simp only at ho1
      obtain ⟨og, hog⟩ : ∃ z, getL ((b.drop t).take q) = z := ⟨_, rfl⟩
      have HOG := Lib.hid hog
      rw [hog] at ho1
      have hle : (q : Int) ≤ (n : Int) - (t : Int) := by omega
      have hle2 : decide ((n : Int) - (t : Int) < (q : Int)) = false := by simp; omega
      obtain ⟨B, hB⟩ : ∃ B, (if c = t then A else A.map (·.add (t * 1))) = B := ⟨_, rfl⟩
      have hcut := hb.cut (lo := t) (hi := t + q) (by omega) hok
      rw [hB, Nat.add_sub_cancel_left] at hcut
      have hsl : ∀ w : World, (Instr.slice 23 (.slice A n c) (some (.int .i64 t)) (some (.int .i64 ((t : Int) + (q : Int)))) none).run Try.prog w = .ok (.slice B q (c - t)) w := by
        intro w
        have h1 := run_cut w A n c t (t + q) (by omega) (by omega)
        rw [hB, Nat.add_sub_cancel_left, Int.natCast_add] at h1
        exact h1
      have hcg := chain_Get hcut HOG
      clear hB hv hgt hva ho hlen ht hog hcut
      cases og with
      | none =>
        obtain rfl : none = o := ho1
        simp only [Option.isSome_none, Option.getD_none, Bool.false_eq_true, if_false] at hcg
        go_enter Try.func85, Try.ntmps85
        go_wp2_with fail
        refine (bits_GetVar_h hb HG).mono ?_
        rintro e _ ⟨rfl, rfl⟩
        go_wp2_with fail
        refine hcg.mono ?_
        rintro e w2 ⟨A2, n2, c2, rfl, h2, hx2⟩
        go_wp2_with fail
        go_ret3
        exact ⟨_, _, _, _, rfl, (fun p hp => by cases hp), h2, hx2⟩
      | some l =>
        obtain rfl : some (l, (t : Int) + q) = o := ho1
        simp only [Option.isSome_some, Option.getD_some, if_true] at hcg
        go_enter Try.func85, Try.ntmps85
        go_wp2_with fail
        refine (bits_GetVar_h hb HG).mono ?_
        rintro e _ ⟨rfl, rfl⟩
        go_wp2_with fail
        refine hcg.mono ?_
        rintro e w2 ⟨A2, n2, c2, rfl, h2, hx2⟩
        go_wp2_with fail
        go_ret3
        exact ⟨_, _, _, _, rfl, (fun p hp => by injection hp with hp; rw [← hp]), h2, hx2⟩
    · rw [if_neg (by omega)] at hgt
      rw [hgt] at ho1
      obtain rfl : none = o := ho1
      have hle2 : decide ((n : Int) - (t : Int) < (q : Int)) = true := by simp; omega
      clear hv hgt hva ho hlen ht
      go_enter Try.func85, Try.ntmps85
      go_wp2_with fail
      refine (bits_GetVar_h hb HG).mono ?_
      rintro e _ ⟨rfl, rfl⟩
      go_wp2_with fail
      go_ret3
      exact ⟨_, _, _, _, rfl, (fun p hp => by cases hp), OwnL.nil _ _ _ _, Ext.refl _⟩
theorem ents_stop {N k : Nat} {b : List UInt8} {a : Int} {out : List En} {o : Option (List En)} (h : (entsG (N - k) b a).map (out ++ ·) = o) (hk : k < N) (hp : (tkA b a).2.2.2.2 ≠ 0) : none = o := by
  obtain ⟨f, hf⟩ : ∃ f, N - k = f + 1 := ⟨N - k - 1, by omega⟩
  rw [hf, entsG, if_neg hp] at h
  exact h
theorem ents_next {N k : Nat} {b : List UInt8} {a : Int} {out : List En} {o : Option (List En)} {T S : Nat} {D : List UInt8} {nx : Int} (h : (entsG (N - k) b a).map (out ++ ·) = o) (hk : k < N) (hp : tkA b a = (T, S, D, nx, 0)) :
    (entsG (N - (k + 1)) b nx).map ((out ++ [⟨(T : Int), (S : Int), D⟩]) ++ ·) = o := by
  obtain ⟨f, hf⟩ : ∃ f, N - k = f + 1 := ⟨N - k - 1, by omega⟩
  rw [hf, entsG, hp, if_pos rfl] at h
  simp only at h
  rw [show N - (k + 1) = f by omega, ← h, Option.map_map]
  congr 1
  funext l
  simp
set_option maxHeartbeats 4000000 in
theorem msg_batch {A : Option Addr} {n c : Nat} {b : List UInt8} {a : Int} {w : World} (hb : Sl w A n c b) (hn6 : n ≤ 1000000) {o : Option (List En)} (ho : Hid (entsO b a = o)) :
    Calls Try.prog 86 #[.slice A n c, .int .i64 a] w fun e w' => ∃ A' n' c', e = .returned (.tuple #[.slice A' n' c', .bool o.isSome]) ∧ OwnL TEn 3 (enRB w.heap.size) w' w.heap.size A' n' c' (o.getD []) ∧ Ext w w' := by
  have h63 := hb.n63
  obtain ⟨i0, hi0, hz0, hz1, hz2⟩ := info_parts info_en
  have ho1 := ho.out
  unfold entsO at ho1
  obtain ⟨X, hX⟩ : ∃ q, gvA b a = q := ⟨_, rfl⟩
  obtain ⟨Y, hY⟩ : ∃ q, gvB b a = q := ⟨_, rfl⟩
  obtain ⟨Z, hZ⟩ : ∃ q, gvC b a = q := ⟨_, rfl⟩
  have HV := Lib.hid (And.intro hX (And.intro hY hZ))
  have hX0 : 0 ≤ X := by rw [← hX]; exact gvA_pos b a
  rw [hX, hY, hZ] at ho1
  clear hX hY hZ ho
  cases Z with
  | false =>
    obtain rfl : none = o := by rw [← ho1]; rfl
    clear ho1
    go_enter Try.func86, Try.ntmps86
    go_wp2_with fail
    refine (bits_GetVar_h hb HV).mono ?_
    rintro e _ ⟨rfl, rfl⟩
    go_wp2_with fail
    go_ret2
    exact ⟨_, _, _, rfl, OwnL.nil _ _ _ _, Ext.refl _⟩
  | true =>
  obtain ⟨N, rfl⟩ := Int.eq_ofNat_of_zero_le hX0
  by_cases hN : 4 < N
  · have d4 : decide ((4 : Int) < (N : Int)) = true := by simp; omega
    rw [if_neg (by rintro ⟨_, e⟩; omega)] at ho1
    obtain rfl : none = o := ho1
    go_enter Try.func86, Try.ntmps86
    go_wp2_with fail
    refine (bits_GetVar_h hb HV).mono ?_
    rintro e _ ⟨rfl, rfl⟩
    go_wp2_with fail
    go_ret2
    exact ⟨_, _, _, rfl, OwnL.nil _ _ _ _, Ext.refl _⟩
  have d4 : decide ((4 : Int) < (N : Int)) = false := by simp; omega
  rw [if_pos ⟨rfl, by omega⟩, Int.toNat_natCast] at ho1
  have HO : Hid ((entsG (N - 0) b Y).map (([] : List En) ++ ·) = o) := by
    unfold Hid
    rw [← ho1]
    simp
  clear ho1 hX0
  go_enter Try.func86, Try.ntmps86
  go_wp2_with fail
  refine (bits_GetVar_h hb HV).mono ?_
  rintro e _ ⟨rfl, rfl⟩
  go_wp2_with fail
  go_loopw [1, 8, 26] (fun av v i wr => ∃ (k : Nat) (d : Int) (Ao : Option Addr) (co : Nat) (out : List En), k ≤ N ∧ av = .int .i64 d ∧ v = .slice Ao k co ∧ i = .int .i64 k ∧ OwnL TEn 3 (enRB w.heap.size) wr w.heap.size Ao k co out ∧ Hid ((entsG (N - k) b d).map (out ++ ·) = o) ∧ Ext w wr) (fun _ _ i _ => N - (intOf i).toNat)
  case atStart => exact ⟨0, Y, none, 0, [], by omega, rfl, rfl, rfl, OwnL.nil _ _ _ _, HO, Ext.refl _⟩
  case round =>
    clear HO
    obtain ⟨k, d, Ao, co, out, hk, rfl, rfl, rfl, hown, hrk, hxr⟩ := hrel
    by_cases hlt : k < N
    · obtain ⟨T, S, D, nx, er, hT⟩ : ∃ T S D nx er, tkA b d = (T, S, D, nx, er) := ⟨_, _, _, _, _, rfl⟩
      have HT := Lib.hid hT
      by_cases he : er = 0
      · subst he
        have HN := Lib.hid (ents_next hrk.out hlt hT)
        clear hrk hT
        go_wp2_with fail
        refine (frame_Take (hb.ext hxr) hn6 HT).mono ?_
        rintro e w2 ⟨A2, n2, c2, rfl, h2, hx2⟩
        have gx2 := hxr.trans hx2
        have hown2 := hown.ext (enRB_rep _) hx2
        have hsr := hxr.size
        have hrow := hown.row_lt
        have h2d := h2.fr
        have hfd : ∀ q, Pts [.int .i64 (T : Int), .int .i64 (S : Int), .slice A2 n2 c2] q → wr.heap.size ≤ q := by
          intro q hq
          obtain ⟨ad, e1, e2, e3⟩ := pts_en hq
          have := h2d ad e1 e2
          omega
        have hrx : enRB w.heap.size ⟨(T : Int), (S : Int), D⟩ [.int .i64 (T : Int), .int .i64 (S : Int), .slice A2 n2 c2] (w2.alloc (.cells #[.int .i64 (T : Int), .int .i64 (S : Int), .slice A2 n2 c2] TEn)) := ⟨⟨A2, n2, c2, rfl, h2.sl.ext (Ext.alloc _ _)⟩, fun q hq => by have := hfd q hq; omega⟩
        have hnr : ∀ q, Pts [.int .i64 (T : Int), .int .i64 (S : Int), .slice A2 n2 c2] q → rowOf Ao co ≠ some q := by
          intro q hq e
          have e1 := hfd q hq
          have e2 := (hrow q e).2
          omega
        have hsz : w2.heap.size + 1 = (w2.alloc (.cells #[.int .i64 (T : Int), .int .i64 (S : Int), .slice A2 n2 c2] TEn)).heap.size := by simp
        have feed := Feed.lit (P := Try.prog) (tx := 26) (e := TEn) (A := Ao) (c := co) (enRB_rep w.heap.size) #[.int .i64 (T : Int), .int .i64 (S : Int), .slice A2 n2 c2] ⟨(T : Int), (S : Int), D⟩ hrx under_ens hnr hsz
        clear hrow h2d hfd hrx hnr hsz h2 hx2 hown
        go_wp2_with (
          at_builtin
          refine wpList_append_lst (w0 := w) (enRB_rep w.heap.size) rfl _ _ _ _ rfl TEn i0 _ 40 under_ens hi0 hz0 hz1 hz2 rfl Ao k co out rfl ((hown2.ext (enRB_rep _) (Ext.alloc _ _)).ext (enRB_rep _) (Ext.alloc _ _)) _ 1 _ rfl feed (k + 1) rfl _ rfl (by simp only [maxLen]; omega) (by omega) ((gx2.allocs _).allocs _) ?_
          intro A6 c6 w6 hb6 hx6)
        go_wp2_with fail
        go_roundw
        case rel => exact ⟨k + 1, nx, A6, c6, _, by omega, rfl, rfl, by go_num, hb6, HN, hx6⟩
        case measure => simp [intOf]; omega
      · obtain rfl := ents_stop hrk.out hlt (by rw [hT]; exact he)
        have hne : ((er : Int) != 0) = true := by simp; omega
        clear hrk hT
        go_wp2_with fail
        refine (frame_Take (hb.ext hxr) hn6 HT).mono ?_
        rintro e w2 ⟨A2, n2, c2, rfl, h2, hx2⟩
        go_wp2_with fail
        go_ret2
        exact ⟨_, _, _, rfl, OwnL.nil _ _ _ _, (hxr.trans hx2).allocs _⟩
    · obtain rfl : k = N := by omega
      have hr1 := hrk.out
      rw [Nat.sub_self] at hr1
      obtain rfl : some out = o := by rw [← hr1]; simp [entsG]
      clear hrk hr1
      go_wp2_with fail
      go_ret2
      exact ⟨_, _, _, rfl, hown, hxr⟩
end Go.Proofs.Ytoeknbogaclfdaa

namespace Go.Proofs.Ytoeknbogaclfdaa
open Go.RowKit
set_option linter.unusedVariables false
set_option linter.unusedSimpArgs false
set_option linter.unnecessarySimpa false
set_option maxRecDepth 100000

theorem marks_step {nx : Int} {xs : List Mk} {k : Nat} {x : Mk} (h : xs[k]? = some x) : marksF nx (xs.take k) (xs.drop k) = ((okM nx (xs.take k) x && newM (xs.take k) x) && marksF nx (xs.take (k + 1)) (xs.drop (k + 1))) := by
  obtain ⟨hl, rfl⟩ := List.getElem?_eq_some_iff.1 h
  rw [List.drop_eq_getElem_cons hl, marksF, List.take_add_one, List.getElem?_eq_getElem hl]
  rfl
theorem last_next {xs : List Mk} {k : Nat} {x : Mk} (h : xs[k]? = some x) : lastI (xs.take (k + 1)) = x.id := by
  unfold lastI
  rw [List.take_add_one, h]
  simp
theorem holds_next {xs : List Mk} {k : Nat} {x : Mk} (h : xs[k]? = some x) : holdsN (xs.take (k + 1)) = holdsN (xs.take k) + (if tildeB x.nm = true then 1 else 0) := by
  unfold holdsN
  rw [List.take_add_one, h, List.filter_append, List.length_append]
  congr 1
  simp only [Option.toList_some, List.filter_cons, List.filter_nil]
  split <;> rfl
theorem seens_next {xs : List Mk} {k : Nat} {x : Mk} (h : xs[k]? = some x) : (seenL (xs.take (k + 1))).length = (seenL (xs.take k)).length + (if seenM x = true then 1 else 0) := by
  rw [seenL_next h]
  split <;> simp
def likeB (s : ByteArray) (y : Mk) : Bool := seenM y && decide (y.nm = s)
theorem new_seen {xs : List Mk} {k : Nat} {x : Mk} (h : seenM x = true) : newM (xs.take k) x = !((xs.take k).any (likeB x.nm)) := by
  unfold newM
  rw [h, Bool.true_and]
  rfl
theorem new_unseen {xs : List Mk} {k : Nat} {x : Mk} (h : seenM x = false) : newM (xs.take k) x = true := by
  unfold newM
  rw [h]
  rfl
theorem like_next {xs : List Mk} {k : Nat} {x : Mk} {s : ByteArray} (h : xs[k]? = some x) (h0 : (xs.take k).any (likeB s) = false) : (xs.take (k + 1)).any (likeB s) = likeB s x := by
  rw [List.take_add_one, h, List.any_append, h0]
  simp
theorem like_up {xs : List Mk} {k m : Nat} {s : ByteArray} (h : (xs.take k).any (likeB s) = true) (hk : k ≤ m) : (xs.take m).any (likeB s) = true := by
  rw [List.any_eq_true] at h ⊢
  obtain ⟨x, hx, hl⟩ := h
  refine ⟨x, ?_, hl⟩
  have e : xs.take k = (xs.take m).take k := by rw [List.take_take, Nat.min_eq_left hk]
  rw [e] at hx
  exact List.mem_of_mem_take hx
set_option maxHeartbeats 2000000 in
theorem header_marks (h : Hd) {A : Option Addr} {n c : Nat} {w : World} (hl : Lst 4 mkR w A n c h.marks) (hs : Hid (Shorts h.marks)) (hn1 : n ≤ 1000) {t : Bool} (ht : Hid (marksB h.next h.marks = t)) :
    Calls Try.prog 57 #[hdV h A n c] w fun e w' => e = .returned (.bool t) ∧ Ext w w' := by
  have h63 := hl.n63
  obtain ⟨i0, hi0, hz0, hz1, hz2⟩ := info_parts info_mk
  obtain ⟨h1, h2, h3, h4, nx, h6, xs⟩ := h
  simp only at hl ht hs
  obtain ⟨g, hg⟩ : ∃ g, marksF nx [] xs = g := ⟨_, rfl⟩
  have HT : Hid ((g && (decide (holdsN xs ≤ 1) && (decide ((seenL xs).length ≤ 8) && decide (xs.length ≤ 17)))) = t) := by
    unfold Hid
    rw [← ht.out, ← hg]
    rfl
  have HG0 : Hid (marksF nx (xs.take 0) (xs.drop 0) = g) := by unfold Hid; rw [← hg]; rfl
  clear ht hg
  go_enter Try.func57, Try.ntmps57
  go_wp2_with fail
  obtain ⟨w1, hw1⟩ : ∃ q, q = w.alloc (.cells #[.int .i64 h1, .int .i64 h2, .int .i64 h3, .int .i64 h4, .int .i64 nx, .int .i64 h6, .slice A n c] THd) := ⟨_, rfl⟩
  have hx1 : Ext w w1 := by rw [hw1]; exact Ext.alloc _ _
  have b4 : w1.cell? ⟨w.heap.size, 4, none⟩ = some (.int .i64 nx) := by rw [hw1]; exact cell_new _ _ _ 4
  have b6 : w1.cell? ⟨w.heap.size, 6, none⟩ = some (.slice A n c) := by rw [hw1]; exact cell_new _ _ _ 6
  rw [← hw1]
  clear hw1
  go_loopw [3, 4, 5, 13] (fun v2 v3 v4 i wr => ∃ (k : Nat) (d : Int) (hn an : Nat), k ≤ n ∧ hn ≤ k ∧ an ≤ k ∧ v2 = .int .i64 d ∧ v3 = .int .i64 hn ∧ v4 = .int .i64 an ∧ i = .int .i64 k ∧ Hid (lastI (xs.take k) = d) ∧ Hid (holdsN (xs.take k) = hn) ∧ Hid ((seenL (xs.take k)).length = an) ∧ Hid (marksF nx (xs.take k) (xs.drop k) = g) ∧ Ext w1 wr) (fun _ _ _ i _ => n - (intOf i).toNat)
  case atStart => exact ⟨0, 0, 0, 0, by omega, by omega, by omega, rfl, rfl, rfl, rfl, rfl, rfl, rfl, HG0, Ext.refl _⟩
  case round =>
    obtain ⟨k, d, hn, an, hk, hnk, ank, rfl, rfl, rfl, rfl, hd, hh, ha, HG, hxr⟩ := hrel
    clear HG0
    have hxw := hx1.trans hxr
    replace b4 := hxr.cell b4
    replace b6 := hxr.cell b6
    by_cases hlt : k < n
    · obtain ⟨ga, oa, x, cs, rfl, hx, rfl, hcl⟩ := hl.at2 mk_rep (by omega) hlt
      have a0 : wr.cell? ⟨ga, oa + k * 4, none⟩ = _ := hxw.cell (hcl 0 _ rfl)
      have a1 := hxw.cell (hcl 1 _ rfl)
      have a2 := hxw.cell (hcl 2 _ rfl)
      have a3 := hxw.cell (hcl 3 _ rfl)
      clear hcl
      have hst := marks_step (nx := nx) hx
      have hdn := last_next hx
      have hhn := holds_next hx
      have han := seens_next hx
      rw [hh.out] at hhn
      rw [ha.out] at han
      have hsz := hs.out.at_ hx
      obtain ⟨b, hb⟩ : ∃ q, namedM x = q := ⟨_, rfl⟩
      have HNM := Lib.hid hb
      obtain ⟨q, hq⟩ : ∃ q, tildeB x.nm = q := ⟨_, rfl⟩
      obtain ⟨sn, hsn⟩ : ∃ q, seenM x = q := ⟨_, rfl⟩
      have HQ := Lib.hid hq
      have HSN := Lib.hid hsn
      rw [hq] at hhn
      rw [hsn] at han
      have HDN := Lib.hid hdn
      have HHN := Lib.hid hhn
      have HAN := Lib.hid han
      clear hdn hhn han hq hsn
      obtain ⟨x1, x2, x3, x4⟩ := x
      simp only at a0 a1 a2 a3 hsz HDN HQ
      have b45 : (wr.alloc (.cells #[.int .i64 x1, .string x2, .int .i64 x3, .bool x4] TMk)).cell? ⟨w.heap.size, 4, none⟩ = some (.int .i64 nx) := (Ext.alloc _ _).cell b4
      by_cases c1 : x1 ≤ d
      · skip
        have hok : okM nx (xs.take k) ⟨x1, x2, x3, x4⟩ = false := by
          unfold okM
          rw [hd.out]
          simp
          intros; omega
        rw [hok] at hst
        obtain rfl : false = g := by rw [← HG.out, hst]; rfl
        obtain rfl : false = t := by rw [← HT.out]; rfl
        clear hst hok HG hd hh ha HT hx HNM
        go_wp2_with fail
        go_ret
        refine ⟨rfl, ?_⟩
        (repeat (first | (with_reducible exact Ext.refl _) | (with_reducible assumption) | (with_reducible refine Ext.draws ?_) | (with_reducible refine Ext.allocs ?_ _) | (with_reducible refine Ext.sets ?_ ?_ _) | (with_reducible exact Nat.le_refl _) | (exact (by simp)) | (exact (by simp; omega))))
      have d1 : decide (x1 ≤ d) = false := decide_eq_false c1
      by_cases c2 : nx ≤ x1
      · skip
        have hok : okM nx (xs.take k) ⟨x1, x2, x3, x4⟩ = false := by
          unfold okM
          rw [hd.out]
          simp
          intros; omega
        rw [hok] at hst
        obtain rfl : false = g := by rw [← HG.out, hst]; rfl
        obtain rfl : false = t := by rw [← HT.out]; rfl
        clear hst hok HG hd hh ha HT hx HNM
        go_wp2_with fail
        go_ret
        refine ⟨rfl, ?_⟩
        (repeat (first | (with_reducible exact Ext.refl _) | (with_reducible assumption) | (with_reducible refine Ext.draws ?_) | (with_reducible refine Ext.allocs ?_ _) | (with_reducible refine Ext.sets ?_ ?_ _) | (with_reducible exact Nat.le_refl _) | (exact (by simp)) | (exact (by simp; omega))))
      have d2 : decide (nx ≤ x1) = false := decide_eq_false c2
      by_cases c3 : x3 < 0
      · skip
        have hok : okM nx (xs.take k) ⟨x1, x2, x3, x4⟩ = false := by
          unfold okM
          rw [hd.out]
          simp
          intros; omega
        rw [hok] at hst
        obtain rfl : false = g := by rw [← HG.out, hst]; rfl
        obtain rfl : false = t := by rw [← HT.out]; rfl
        clear hst hok HG hd hh ha HT hx HNM
        go_wp2_with fail
        go_ret
        refine ⟨rfl, ?_⟩
        (repeat (first | (with_reducible exact Ext.refl _) | (with_reducible assumption) | (with_reducible refine Ext.draws ?_) | (with_reducible refine Ext.allocs ?_ _) | (with_reducible refine Ext.sets ?_ ?_ _) | (with_reducible exact Nat.le_refl _) | (exact (by simp)) | (exact (by simp; omega))))
      have d3 : decide (x3 < 0) = false := decide_eq_false c3
      by_cases c4 : 512 < x3
      · skip
        have hok : okM nx (xs.take k) ⟨x1, x2, x3, x4⟩ = false := by
          unfold okM
          rw [hd.out]
          simp
          intros; omega
        rw [hok] at hst
        obtain rfl : false = g := by rw [← HG.out, hst]; rfl
        obtain rfl : false = t := by rw [← HT.out]; rfl
        clear hst hok HG hd hh ha HT hx HNM
        go_wp2_with fail
        go_ret
        refine ⟨rfl, ?_⟩
        (repeat (first | (with_reducible exact Ext.refl _) | (with_reducible assumption) | (with_reducible refine Ext.draws ?_) | (with_reducible refine Ext.allocs ?_ _) | (with_reducible refine Ext.sets ?_ ?_ _) | (with_reducible exact Nat.le_refl _) | (exact (by simp)) | (exact (by simp; omega))))
      have d4 : decide (512 < x3) = false := decide_eq_false c4
      cases b with
      | false =>
        have hok : okM nx (xs.take k) ⟨x1, x2, x3, x4⟩ = false := by unfold okM; rw [hb]; simp
        rw [hok] at hst
        obtain rfl : false = g := by rw [← HG.out, hst]; rfl
        obtain rfl : false = t := by rw [← HT.out]; rfl
        clear hst hok HG hd hh ha HT hx hb
        go_wp2_with fail
        refine (header_named ⟨x1, x2, x3, x4⟩ _ (by simp only; omega) HNM).mono ?_
        rintro e w3 ⟨rfl, hx3⟩
        go_wp2_with fail
        go_ret
        exact ⟨rfl, (hxw.allocs _).trans hx3⟩
      | true =>
        have hok : okM nx (xs.take k) ⟨x1, x2, x3, x4⟩ = true := by unfold okM; rw [hb, hd.out]; simp; omega
        rw [hok, Bool.true_and, HG.out] at hst
        have HST := Lib.hid hst
        have HX := Lib.hid hx
        clear hst hok hd hh ha hx hb HG
        go_wp2_with fail
        refine (header_named ⟨x1, x2, x3, x4⟩ _ (by simp only; omega) HNM).mono ?_
        rintro e w3 ⟨rfl, hx3⟩
        have gx4 : Ext w1 w3 := (hxr.allocs _).trans hx3
        have p0 := hx3.cell (cell_new wr #[.int .i64 x1, .string x2, .int .i64 x3, .bool x4] TMk 0)
        have p1 := hx3.cell (cell_new wr #[.int .i64 x1, .string x2, .int .i64 x3, .bool x4] TMk 1)
        have p2 := hx3.cell (cell_new wr #[.int .i64 x1, .string x2, .int .i64 x3, .bool x4] TMk 2)
        have p3 := hx3.cell (cell_new wr #[.int .i64 x1, .string x2, .int .i64 x3, .bool x4] TMk 3)
        replace b4 := hx3.cell b45
        replace b6 := hx3.cell ((Ext.alloc _ _).cell b6)
        clear hx3 b45 HNM hxr hxw a0 a1 a2 a3
        go_wp2_with fail
        refine (header_held ⟨x1, x2, x3, x4⟩ _ (by simp only; omega) HQ).mono ?_
        rintro e w4 ⟨rfl, hx4⟩
        replace gx4 := gx4.trans hx4
        replace p0 := hx4.cell p0
        replace p1 := hx4.cell p1
        replace p2 := hx4.cell p2
        replace p3 := hx4.cell p3
        replace b4 := hx4.cell b4
        replace b6 := hx4.cell b6
        clear hx4
        cases q with
        | false =>
          have HH : Hid (holdsN (xs.take (k + 1)) = hn) := by unfold Hid; rw [HHN.out]; rfl
          clear HHN
          go_wp2_with fail
          refine (header_seen ⟨x1, x2, x3, x4⟩ _ (by simp only; omega) HSN).mono ?_
          rintro e w5 ⟨rfl, hx5⟩
          replace gx4 := gx4.trans hx5
          replace p0 := hx5.cell p0
          replace p1 := hx5.cell p1
          replace p2 := hx5.cell p2
          replace p3 := hx5.cell p3
          replace b4 := hx5.cell b4
          replace b6 := hx5.cell b6
          have gw5 := hx1.trans gx4
          clear hx5
          cases sn with
          | false =>
            have HN : Hid (marksF nx (xs.take (k + 1)) (xs.drop (k + 1)) = g) := by unfold Hid; rw [HST.out, new_unseen HSN.out]; rfl
            have HA : Hid ((seenL (xs.take (k + 1))).length = an) := by unfold Hid; rw [HAN.out]; rfl
            clear HST HAN HX
            go_wp2_with fail
            go_roundw
            case rel => exact ⟨k + 1, x1, hn, an, by omega, by omega, by omega, rfl, by go_num, rfl, by go_num, HDN, HH, HA, HN, gx4⟩
            case measure => simp [intOf]; omega
          | true =>
            have HA : Hid ((seenL (xs.take (k + 1))).length = an + 1) := by unfold Hid; rw [HAN.out]; rfl
            have HSTN : Hid (g = (!((xs.take k).any (likeB x2)) && marksF nx (xs.take (k + 1)) (xs.drop (k + 1)))) := by unfold Hid; rw [HST.out, new_seen HSN.out]
            have hcut := (cutL_upto (t := 27) mk_rep under_mks hi0 hz1 hl k (k : Int) rfl hk).1
            clear HST HAN
            obtain ⟨wo, rfl⟩ : ∃ q, q = wr := ⟨_, rfl⟩
            go_wp2_with fail
            go_loopw [60] (fun jv wq => ∃ (j : Nat), j ≤ k ∧ jv = .int .i64 j ∧ Hid ((xs.take j).any (likeB x2) = false) ∧ Ext w5 wq) (fun jv _ => k - (intOf jv).toNat)
            case atStart => exact ⟨0, by omega, rfl, rfl, Ext.refl _⟩
            case round =>
              obtain ⟨j, hj, rfl, hany, hxq⟩ := hrel
              by_cases hlt2 : j < k
              · obtain ⟨gz, oz, y, cz, hA, hy, rfl, hcz⟩ := hl.at2 mk_rep (by omega) (show j < n by omega)
                injection hA with hA
                injection hA with hA1 hA2
                subst hA1 hA2
                have gq := gw5.trans hxq
                have e0 : wr.cell? ⟨ga, oa + j * 4, none⟩ = _ := gq.cell (hcz 0 _ rfl)
                have e1 := gq.cell (hcz 1 _ rfl)
                have e2 := gq.cell (hcz 2 _ rfl)
                have e3 := gq.cell (hcz 3 _ rfl)
                clear hcz
                have hlk := like_next hy hany.out
                have hsy := hs.out.at_ hy
                obtain ⟨ys, hys⟩ : ∃ q, seenM y = q := ⟨_, rfl⟩
                have HYS := Lib.hid hys
                unfold likeB at hlk
                rw [hys] at hlk
                obtain ⟨y1, y2, y3, y4⟩ := y
                simp only at e0 e1 e2 e3 hsy hlk
                clear hy hys
                have HLK := Lib.hid hlk
                clear hlk
                go_wp2_with fail
                refine (header_seen ⟨y1, y2, y3, y4⟩ _ (by simp only; omega) HYS).mono ?_
                rintro e w7 ⟨rfl, hx7⟩
                have r1 := hx7.cell (cell_new wr #[.int .i64 y1, .string y2, .int .i64 y3, .bool y4] TMk 1)
                have gq7 := (hxq.allocs (.cells #[.int .i64 y1, .string y2, .int .i64 y3, .bool y4] TMk)).trans hx7
                replace p1 := gq7.cell p1
                clear hx7 e0 e1 e2 e3 gq
                cases ys with
                | false =>
                  have HN : Hid ((xs.take (j + 1)).any (likeB x2) = false) := by unfold Hid; exact HLK.out
                  clear HLK hany
                  go_wp2_with fail
                  go_roundw
                  case rel => exact ⟨j + 1, by omega, by go_num, HN, gq7⟩
                  case measure => simp [intOf]; omega
                | true =>
                  by_cases he : y2 = x2
                  · subst he
                    have h1 : (xs.take (j + 1)).any (likeB y2) = true := by have := HLK.out; rw [show (true && decide (y2 = y2)) = true by simp] at this; exact this
                    obtain rfl : g = false := by rw [HSTN.out, like_up h1 (show j + 1 ≤ k by omega)]; rfl
                    obtain rfl : false = t := by rw [← HT.out]; rfl
                    clear HLK hany HSTN HT h1 HX
                    go_wp2_with fail
                    go_ret
                    exact ⟨rfl, gw5.trans gq7⟩
                  · have heb : (y2.toList == x2.toList) = false := by
                      rw [beq_eq_false_iff_ne]
                      exact fun h => he (bytes_inj h)
                    have HN : Hid ((xs.take (j + 1)).any (likeB x2) = false) := by unfold Hid; have := HLK.out; rw [show (true && decide (y2 = x2)) = false by simp [he]] at this; exact this
                    clear HLK hany he
                    go_wp2_with fail
                    go_roundw
                    case rel => exact ⟨j + 1, by omega, by go_num, HN, gq7⟩
                    case measure => simp [intOf]; omega
              · obtain rfl : j = k := by omega
                have HN : Hid (marksF nx (xs.take (j + 1)) (xs.drop (j + 1)) = g) := by unfold Hid; rw [HSTN.out, hany.out]; rfl
                have HJ : Hid (lastI (xs.take (j + 1)) = x1) := HDN
                clear HSTN hany HX
                go_wp2_with fail
                go_roundw
                case rel => exact ⟨j + 1, x1, hn, an + 1, by omega, by omega, by omega, rfl, by go_num, by go_num, by go_num, HDN, HH, HA, HN, gx4.trans hxq⟩
                case measure => simp [intOf]; omega
        | true =>
          have HH : Hid (holdsN (xs.take (k + 1)) = hn + 1) := by unfold Hid; rw [HHN.out]; rfl
          clear HHN
          go_wp2_with fail
          refine (header_seen ⟨x1, x2, x3, x4⟩ _ (by simp only; omega) HSN).mono ?_
          rintro e w5 ⟨rfl, hx5⟩
          replace gx4 := gx4.trans hx5
          replace p0 := hx5.cell p0
          replace p1 := hx5.cell p1
          replace p2 := hx5.cell p2
          replace p3 := hx5.cell p3
          replace b4 := hx5.cell b4
          replace b6 := hx5.cell b6
          have gw5 := hx1.trans gx4
          clear hx5
          cases sn with
          | false =>
            have HN : Hid (marksF nx (xs.take (k + 1)) (xs.drop (k + 1)) = g) := by unfold Hid; rw [HST.out, new_unseen HSN.out]; rfl
            have HA : Hid ((seenL (xs.take (k + 1))).length = an) := by unfold Hid; rw [HAN.out]; rfl
            clear HST HAN HX
            go_wp2_with fail
            go_roundw
            case rel => exact ⟨k + 1, x1, (hn + 1), an, by omega, by omega, by omega, rfl, by go_num, rfl, by go_num, HDN, HH, HA, HN, gx4⟩
            case measure => simp [intOf]; omega
          | true =>
            have HA : Hid ((seenL (xs.take (k + 1))).length = an + 1) := by unfold Hid; rw [HAN.out]; rfl
            have HSTN : Hid (g = (!((xs.take k).any (likeB x2)) && marksF nx (xs.take (k + 1)) (xs.drop (k + 1)))) := by unfold Hid; rw [HST.out, new_seen HSN.out]
            have hcut := (cutL_upto (t := 27) mk_rep under_mks hi0 hz1 hl k (k : Int) rfl hk).1
            clear HST HAN
            obtain ⟨wo, rfl⟩ : ∃ q, q = wr := ⟨_, rfl⟩
            go_wp2_with fail
            go_loopw [60] (fun jv wq => ∃ (j : Nat), j ≤ k ∧ jv = .int .i64 j ∧ Hid ((xs.take j).any (likeB x2) = false) ∧ Ext w5 wq) (fun jv _ => k - (intOf jv).toNat)
            case atStart => exact ⟨0, by omega, rfl, rfl, Ext.refl _⟩
            case round =>
              obtain ⟨j, hj, rfl, hany, hxq⟩ := hrel
              by_cases hlt2 : j < k
              · obtain ⟨gz, oz, y, cz, hA, hy, rfl, hcz⟩ := hl.at2 mk_rep (by omega) (show j < n by omega)
                injection hA with hA
                injection hA with hA1 hA2
                subst hA1 hA2
                have gq := gw5.trans hxq
                have e0 : wr.cell? ⟨ga, oa + j * 4, none⟩ = _ := gq.cell (hcz 0 _ rfl)
                have e1 := gq.cell (hcz 1 _ rfl)
                have e2 := gq.cell (hcz 2 _ rfl)
                have e3 := gq.cell (hcz 3 _ rfl)
                clear hcz
                have hlk := like_next hy hany.out
                have hsy := hs.out.at_ hy
                obtain ⟨ys, hys⟩ : ∃ q, seenM y = q := ⟨_, rfl⟩
                have HYS := Lib.hid hys
                unfold likeB at hlk
                rw [hys] at hlk
                obtain ⟨y1, y2, y3, y4⟩ := y
                simp only at e0 e1 e2 e3 hsy hlk
                clear hy hys
                have HLK := Lib.hid hlk
                clear hlk
                go_wp2_with fail
                refine (header_seen ⟨y1, y2, y3, y4⟩ _ (by simp only; omega) HYS).mono ?_
                rintro e w7 ⟨rfl, hx7⟩
                have r1 := hx7.cell (cell_new wr #[.int .i64 y1, .string y2, .int .i64 y3, .bool y4] TMk 1)
                have gq7 := (hxq.allocs (.cells #[.int .i64 y1, .string y2, .int .i64 y3, .bool y4] TMk)).trans hx7
                replace p1 := gq7.cell p1
                clear hx7 e0 e1 e2 e3 gq
                cases ys with
                | false =>
                  have HN : Hid ((xs.take (j + 1)).any (likeB x2) = false) := by unfold Hid; exact HLK.out
                  clear HLK hany
                  go_wp2_with fail
                  go_roundw
                  case rel => exact ⟨j + 1, by omega, by go_num, HN, gq7⟩
                  case measure => simp [intOf]; omega
                | true =>
                  by_cases he : y2 = x2
                  · subst he
                    have h1 : (xs.take (j + 1)).any (likeB y2) = true := by have := HLK.out; rw [show (true && decide (y2 = y2)) = true by simp] at this; exact this
                    obtain rfl : g = false := by rw [HSTN.out, like_up h1 (show j + 1 ≤ k by omega)]; rfl
                    obtain rfl : false = t := by rw [← HT.out]; rfl
                    clear HLK hany HSTN HT h1 HX
                    go_wp2_with fail
                    go_ret
                    exact ⟨rfl, gw5.trans gq7⟩
                  · have heb : (y2.toList == x2.toList) = false := by
                      rw [beq_eq_false_iff_ne]
                      exact fun h => he (bytes_inj h)
                    have HN : Hid ((xs.take (j + 1)).any (likeB x2) = false) := by unfold Hid; have := HLK.out; rw [show (true && decide (y2 = x2)) = false by simp [he]] at this; exact this
                    clear HLK hany he
                    go_wp2_with fail
                    go_roundw
                    case rel => exact ⟨j + 1, by omega, by go_num, HN, gq7⟩
                    case measure => simp [intOf]; omega
              · obtain rfl : j = k := by omega
                have HN : Hid (marksF nx (xs.take (j + 1)) (xs.drop (j + 1)) = g) := by unfold Hid; rw [HSTN.out, hany.out]; rfl
                have HJ : Hid (lastI (xs.take (j + 1)) = x1) := HDN
                clear HSTN hany HX
                go_wp2_with fail
                go_roundw
                case rel => exact ⟨j + 1, x1, (hn + 1), an + 1, by omega, by omega, by omega, rfl, by go_num, by go_num, by go_num, HDN, HH, HA, HN, gx4.trans hxq⟩
                case measure => simp [intOf]; omega
    · obtain rfl : k = n := by omega
      have e1 := hh.out
      have e2 := ha.out
      have e3 := HG.out
      rw [List.take_of_length_le (by rw [hl.len]; exact Nat.le_refl _)] at e1 e2
      rw [List.drop_of_length_le (by rw [hl.len]; exact Nat.le_refl _)] at e3
      obtain rfl : true = g := by rw [← e3]; rfl
      have e4 := HT.out
      rw [e1, e2, hl.len] at e4
      have HR : Hid (t = (true && (decide (hn ≤ 1) && (decide (an ≤ 8) && decide (k ≤ 17))))) := e4.symm
      clear hh ha HG HT e1 e2 e3 e4 hd
      go_wp2_with fail
      all_goals (
        go_ret
        refine ⟨congrArg (fun z => Ending.returned (.bool z)) ?_, hxw⟩
        rw [HR.out, Bool.eq_iff_iff]
        simp_all
        try omega)
end Go.Proofs.Ytoeknbogaclfdaa
