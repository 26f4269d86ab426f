/-
  The walk of one statement of chapter 15.
-/
import Derived.Test.YtcklkjklepmabaaDiffFr
import Derived.Test.YtcklkjklepmabaaDiffLeastP
import Derived.Test.YtcklkjklepmabaaDiffKnown
import Derived.Deep.QuietTactic
namespace Go.Proofs.Ytcklkjklepmabaa
open Go.RowKit
set_option linter.unusedVariables false
set_option linter.unusedSimpArgs false
set_option linter.unnecessarySimpa false
set_option maxRecDepth 100000

theorem OwnL.block {α : Type} {size : Nat} {R : α → List Value → World → Prop} {e : TypeId} {w : World} {B : Nat} {A : Option Addr} {n c : Nat} {xs : List α} (h : OwnL e size R w B A n c xs) (hn : 0 < n) : ∀ ad, A = some ad → B ≤ ad.block := by
  obtain ⟨css, _, h2, _⟩ := h.own
  intro ad e
  rcases h2 with ⟨_, h0, _⟩ | ⟨g, cur, hA, hB, _⟩
  · omega
  · rw [hA] at e
    injection e with e
    rw [← e]
    exact hB
theorem OwnL.cut1 {α : Type} {size : Nat} {R : α → List Value → World → Prop} (hR : Rep size R) {t e : TypeId} {i : TypeInfo} (ht : Try.prog.underlying t = some (.slice e)) (hi0 : Try.prog.info? e = some i) (hz1 : i.size = size)
    {w : World} {B : Nat} {A : Option Addr} {n m c : Nat} {xs : List α} (h : OwnL e size R w B A n c xs) (hm : 1 + m = n) :
    ∃ A1 c1, (∀ w', (Instr.slice t (.slice A n c) (some (.int .i64 1)) none none).run Try.prog w' = .ok (.slice A1 m c1) w') ∧ Lst size R w A1 m c1 (xs.drop 1) ∧ ∀ ad, A1 = some ad → B ≤ ad.block := by
  have hl := h.lst
  have hs := hl.cut hR (lo := 1) (hi := n) (by omega) (by omega)
  have hcap := hl.cap
  have hln := hl.len
  rw [List.take_of_length_le (by rw [List.length_drop, hln]; exact Nat.le_refl _), show n - 1 = m by omega] at hs
  have key : ∀ (lo : Nat) (w' : World), lo ≤ n → (Instr.slice t (.slice A n c) (some (.int .i64 (lo : Int))) none none).run Try.prog w' = .ok (.slice (if c = lo then A else A.map (·.add (lo * size))) (n - lo) (c - lo)) w' := fun lo w' e3 => by
    have e2 : ((lo : Nat) : Int) ≤ (n : Int) := by omega
    simp [Instr.slice, run_underlying ht, Instr.sliceBounds, run_sliceBound, sizeOf, typeInfo, hi0, hz1, e3, hcap, e2]
  refine ⟨_, _, fun w' => ?_, hs, ?_⟩
  · have := key 1 w' (by omega)
    rw [show n - 1 = m by omega] at this
    exact this
  · intro ad e
    have hb := h.block (by omega)
    split at e
    · exact hb ad e
    · rw [Option.map_eq_some_iff] at e
      obtain ⟨ad', e1, rfl⟩ := e
      rw [block_of_add]
      exact hb ad' e1
theorem Ext.drewN' {a w : World} (h : Ext a w) (n : Nat) : Ext a (w.drewN n) := Ext.trans h ⟨rfl, rfl, rfl, Nat.le_refl _, fun _ _ => rfl⟩
/-- what the loop keeps -/
def Touch (x b : List UInt8) (nb p : Nat) (en : Int) (fu : Bool) : Prop := en = -1 ∧ p = 0 ∨ en = p ∧ (fu = false → p < nb → x.getD p 0 = b.getD p 0)
set_option maxHeartbeats 64000000 in
theorem least_same (A : Option Addr) (n c : Nat) (a : List UInt8) (A' : Option Addr) (n' c' : Nat) (b : List UInt8) (w : World) (h : Sl w A n c a) (h' : Sl w A' n' c' b) (t1 : ¬ 512 < n) (t2 : ¬ 512 < n') (hnn : n = n') :
    Calls Try.prog 3 #[.slice A n c, .slice A' n' c'] w fun e w' => e = .returned (.bool true) ∧ Ext w w' := by
  have h63 := h.n63
  have h63' := h'.n63
  have hal := h.len
  have hbl := h'.len
  obtain ⟨i0, hi0, hz0, hz1, hz2⟩ := info_parts info_ev
  obtain ⟨x, hxx⟩ : ∃ x, sizedL a n' = x := ⟨_, rfl⟩
  have hxb : x.length = b.length := by rw [← hxx, sized_length, hbl]
  obtain ⟨R, hR⟩ : ∃ R, bytesL a b = R := ⟨_, rfl⟩
  obtain ⟨E, hE⟩ : ∃ E, wayL x b 0 = E := ⟨_, rfl⟩
  have HE : Hid (E = wayL x b 0) := hE.symm
  have HR := Lib.hid hR
  rw [bytes_same (by omega) (by omega) (by omega), hbl, hxx, hE] at hR
  obtain rfl : E = R := hR
  have qn : ((n : Int) != (n' : Int)) = false := by simp; omega
  clear hnn hE
  go_enter Try.func3, Try.ntmps3
  go_wp2_with fail
  refine (ref_Sized A n c a n' w h (by omega) (by omega)).mono ?_
  rintro e w2 ⟨As, cs, rfl, hbx, hx2⟩
  rw [hxx] at hbx
  go_wp2_with fail
  refine (diff_BytesF (h.ext hx2) (h'.ext hx2) HR).mono ?_
  rintro e w3 ⟨Al, nl, cl, rfl, hl, hx3⟩
  have hrow : ∀ k, rowOf As cs = some k → w.heap.size ≤ k ∧ k < w2.heap.size := hbx.own.row_ge
  have hbx3 := hbx.ext hx3
  have hw3 := hx2.trans hx3
  have hb3 := h'.ext hw3
  have ll := hl.lst
  have HA : ∀ ad, Al = some ad → 0 < nl → w2.heap.size ≤ ad.block := fun ad e h0 => hl.block h0 ad e
  have hs3 := hx3.size
  have hs2 := hx2.size
  clear hl hbx HR
  go_wp2_with fail
  have hE0 : E.length = nl := ll.len
  have hnl63 := ll.n63
  go_loopw [7, 8, 9] (fun v7 v8 v9 wr => ∃ (i p : Nat) (en : Int) (fu : Bool), i ≤ nl ∧ p ≤ n' ∧ -1 ≤ en ∧ en ≤ p ∧ v7 = .int .i64 en ∧ v8 = .bool fu ∧ v9 = .int .i64 i ∧ Hid (E.drop i = wayL x b p) ∧ Hid (Touch x b n' p en fu) ∧ Byt U8 wr w.heap.size As n' cs (mixL x b p) ∧ But w3.heap.size (fun k => rowOf As cs = some k) w3 wr) (fun _ _ i _ => nl - (intOf i).toNat)
  case atStart => exact ⟨0, 0, -1, false, by omega, by omega, by omega, by omega, rfl, rfl, rfl, (by unfold Hid; rw [List.drop_zero]; exact HE.out), .inl ⟨rfl, rfl⟩, (by rw [mix_zero]; exact hbx3), But.refl _ _ _⟩
  case round =>
    obtain ⟨i, p, en, fu, hi, hp, he1, he2, rfl, rfl, rfl, hrk, htc, hbk, hbt⟩ := hrel
    clear HE hbx3
    by_cases hlt : i < nl
    case neg =>
      have hw0 : wayL x b p = [] := by rw [← hrk.out]; exact List.drop_of_length_le (by omega)
      have hmx : mixL x b p = b := by
        rcases way_next (x := x) (b := b) hxb (b.length - p) p (Nat.le_refl _) (by omega) with h1 | ⟨q, N, _, _, _, _, _, _, h2, _⟩
        · exact h1.2
        · rw [hw0] at h2; cases h2
      rw [hmx] at hbk
      have hbw := hb3.keepBlk (w' := wr) fun ad e h0 => hbt.block ad.block (Nat.lt_of_lt_of_le (h'.blk ad e h0) (by omega)) (fun e2 => by have := (hrow _ e2).1; have := h'.blk ad e h0; omega) (Nat.lt_of_lt_of_le (h'.blk ad e h0) (by omega))
      have ht1 := run_text_u8 hbk.sl
      have ht2 := run_text_u8 hbw
      clear htc hrk
      go_wp2_with fail
      refine (law15_known _).mono ?_
      rintro e w8 ⟨rfl, g8⟩
      go_wp2_with fail
      go_ret
      exact ⟨rfl, (hw3.but hbt hw3.size (fun g hg => (hrow g hg).1)).trans g8⟩
    rcases way_next (x := x) (b := b) hxb (b.length - p) p (Nat.le_refl _) (by omega) with ⟨h1, _⟩ | ⟨q, N, m1, m2, m3, m4, m5, m6, m7, m8⟩
    · exfalso
      have := congrArg List.length (hrk.out.trans h1)
      rw [List.length_drop] at this
      simp at this
      omega
    have hEd := hrk.out.trans m7
    have hEi : E[i]? = some (evAt b q N) := by
      have := congrArg (fun l : List Ev => l[0]?) hEd
      simpa using this
    have HNX : Hid (E.drop (i + 1) = wayL x b (q + N)) := by
      have := congrArg (List.drop 1) hEd
      rw [List.drop_drop] at this
      exact this
    have HRN := Lib.hid m5
    rw [m8] at hbk
    have hq5 : q ≤ 512 := by omega
    have hqN : q + N ≤ n' := by omega
    have hq0 : fu = true ∨ (q : Int) ≠ en := by
      cases fu with
      | true => exact .inl rfl
      | false =>
        refine .inr fun e => ?_
        rcases htc.out with ⟨e1, _⟩ | ⟨e1, e2⟩
        · omega
        · obtain rfl : q = p := by omega
          exact m6 (e2 rfl (by omega))
    obtain ⟨gl, ol, ev, cs', rfl, hx, ⟨⟨Ad, nd, cd, rfl, sd, hs4⟩, hfr⟩, ha⟩ := ll.at2 (fr_rep ev_rep w2.heap.size) (by omega) hlt
    rw [hEi] at hx
    injection hx with hx
    subst hx
    have A0 : w3.cell? ⟨gl, ol + i * 5, none⟩ = _ := ha 0 _ rfl
    have A1 := ha 1 _ rfl
    have A2 := ha 2 _ rfl
    have A3 := ha 3 _ rfl
    have A4 := ha 4 _ rfl
    have hgl : w2.heap.size ≤ gl := HA _ rfl (by omega)
    have hglw : gl < w3.heap.size := World.block_lt_of_cell? w3 _ A0
    have hnS : ¬ rowOf As cs = some gl := fun e => by have := (hrow _ e).2; omega
    have a0 := hbt.cell A0 hglw hnS
    have a1 := hbt.cell A1 hglw hnS
    have a2 := hbt.cell A2 hglw hnS
    have a3 := hbt.cell A3 hglw hnS
    have a4 := hbt.cell A4 hglw hnS
    have hdB : Hid (∀ ad, Ad = some ad → 0 < nd → ad.block < w3.heap.size ∧ ¬ rowOf As cs = some ad.block) := fun ad e h0 => ⟨sd.blk ad e h0, fun e2 => by
      have h1 := hfr ad.block ⟨ad, nd, cd, by simp [e], h0, rfl⟩
      have h2 := (hrow _ e2).2
      omega⟩
    have sdw := sd.keepBlk (w' := wr) fun ad e h0 => hbt.block ad.block (hdB.out ad e h0).1 (hdB.out ad e h0).2 (hdB.out ad e h0).1
    have M6 := Lib.hid m6
    clear ha hEd hEi m5 m6 m7 m8 htc hrk hfr
    by_cases hqe : (q : Int) = en
    · obtain rfl : fu = true := by
        rcases hq0 with h | h
        · exact h
        · exact absurd hqe h
      have q5 : ((q : Int) == en) = true := by simpa using hqe
      clear hqe
      rcases evAt_kinds (b := b) (q := q) (N := N) (by omega) with ⟨he, hz⟩ | ⟨dp, he, hdl, hdd⟩
      · rw [he] at sdw sd A0 A1 A2 A4 a0 a1 a2 a4 hs4
        simp only at sdw sd A0 A1 A2 A4 a0 a1 a2 a4 hs4
        obtain rfl : nd = 0 := sdw.len.symm
        have hsp := Lib.hid (span_zero (q := q) (N := N) (by omega) (by omega))
        have hz := Lib.hid hz
        clear he
        have hnd63 : (0 : Nat) ≤ 9223372036854775807 := Nat.zero_le _
        have q1 : decide ((N : Int) < 1) = false := by simp; omega
        have hsz0 : (⟨#[]⟩ : ByteArray).size ≤ maxLen := Nat.zero_le _
        have q1' : decide (N < 1) = false := by simp; omega
        have q2 : decide ((64 : Int) < (N : Int)) = false := by simp; omega
        have q2' : decide (64 < N) = false := by simp; omega
        have q3 : decide ((q : Int) < en) = false := by simp; omega
        have q4 : decide ((n' : Int) - (N : Int) < (q : Int)) = false := by simp; omega
        clear hq0
        go_wp2_with fail
        refine (ref_Span 3 q N Ad 0 cd ⟨#[]⟩ _ hnd63 hsz0).mono ?_
        rintro e w4 ⟨rfl, hx4⟩
        rw [hsp.out.1, hsp.out.2]
        replace hbt := hbt.trans (But.of_ext hx4)
        replace hbk := hbk.ext hx4
        clear hsp hx4
        go_wp2_with fail
        go_loopw [12] (fun i wr => ∃ k : Nat, k ≤ N ∧ i = .int .i64 k ∧ Byt U8 wr w.heap.size As n' cs (mixL x b (q + k)) ∧ But w3.heap.size (fun k => rowOf As cs = some k) w3 wr) (fun i _ => N - (intOf i).toNat)
        case atStart => exact ⟨0, by omega, rfl, hbk, hbt⟩
        case round =>
          obtain ⟨k, hk, rfl, hbk2, hbt2⟩ := hrel
          clear a0 a1 a2 a3 a4
          have a0 := hbt2.cell A0 hglw hnS
          have a3 := hbt2.cell A3 hglw hnS
          by_cases hkN : k < N
          · have hbw := hb3.keepBlk (w' := wr) fun ad e h0 => hbt2.block ad.block (Nat.lt_of_lt_of_le (h'.blk ad e h0) (by omega)) (fun e2 => by have := (hrow _ e2).1; have := h'.blk ad e h0; omega) (Nat.lt_of_lt_of_le (h'.blk ad e h0) (by omega))
            obtain ⟨gb, ob, e5, ab⟩ := hbw.at2 (k := q + k) (by omega)
            cases e5
            obtain ⟨r1, r2⟩ := runF_in (x := x) (b := b) 64 q k (by rw [HRN.out]; exact hkN)
            obtain ⟨gs, rfl, hgB, hgl2, hcell⟩ := hbk2.open_ (by omega)
            have sx := (hcell (q + k) (by omega)).1
            rw [mix_getD hxb (by omega) (by omega)] at sx
            obtain ⟨px, hpx⟩ : ∃ p, x.getD (q + k) 0 = p := ⟨_, rfl⟩
            obtain ⟨pb, hpb⟩ : ∃ p, b.getD (q + k) 0 = p := ⟨_, rfl⟩
            rw [hpx] at sx
            rw [hpb] at ab
            rw [hpx, hpb] at r2
            have q6 : ((px.toNat : Int) == (pb.toNat : Int)) = false := by
              have : px.toNat ≠ pb.toNat := fun e => r2 (UInt8.toNat_inj.1 e)
              simp; omega
            have q8 : ((pb.toNat : Int) != 0) = false := by rw [← hpb, hz.out k hkN]; rfl
            have hset := mix_set (p := q + k) hxb (by omega)
            rw [hpb] at hset
            have hrg : rowOf (some ⟨gs, 0, none⟩) cs = some gs := by
              have := hbk2.own.caps.1
              unfold rowOf
              rw [if_neg (by omega)]
              rfl
            clear r1 r2 hpx hpb hcell
            go_wp2_with fail
            go_quiet (fail)
            have h1 : Ext wr (wr.drewN nq) := (Ext.refl wr).drewN' nq
            obtain ⟨w1, hw1⟩ : ∃ w1, wr.drewN nq = w1 := ⟨_, rfl⟩
            rw [hw1] at h1 ⊢
            clear hw1
            have hbk3 := hbk2.ext h1
            obtain ⟨gs', e6, _, _, hcell2⟩ := hbk3.open_ (by omega)
            injection e6 with e6
            injection e6 with e6 _
            subst e6
            have sy := (hcell2 (q + k) (by omega)).1
            have sf := (hcell2 (q + k) (by omega)).2
            replace ab := h1.cell ab
            have hbt3 := hbt2.trans (But.of_ext h1)
            have hbk4 := hbk3.set_ (k := q + k) (by omega) pb
            rw [hset] at hbk4
            have hbt4 := hbt3.setCell (p := ⟨gs, q + k, none⟩) (.inl hrg) (bv pb)
            clear hcell2 hset hrg
            go_wp2_with fail
            go_roundw
            case rel => exact ⟨k + 1, by omega, by go_num, hbk4, hbt4⟩
            case measure => simp [intOf]; omega
          · obtain rfl : N = k := by omega
            by_cases h64 : N = 64
            · have q7 : ((N : Int) == 64) = true := by simp; omega
              go_wp2_with fail
              go_roundw
              case rel => exact ⟨i + 1, q + N, (q : Int) + (N : Int), true, by omega, by omega, by omega, by omega, by first | rfl | (simp; omega), rfl, by go_num, HNX, .inr ⟨by omega, fun h => by cases h⟩, hbk2, hbt2⟩
              case measure => simp [intOf]; omega
            · have q7 : ((N : Int) == 64) = false := by simp; omega
              have hto : Hid (Touch x b n' (q + N) ((q : Int) + (N : Int)) false) := .inr ⟨by omega, fun _ hl => by
                have := runF_end (x := x) (b := b) 64 q (by rw [HRN.out]; omega) (by rw [HRN.out]; omega)
                rw [HRN.out] at this
                exact this⟩
              go_wp2_with fail
              go_roundw
              case rel => exact ⟨i + 1, q + N, (q : Int) + (N : Int), false, by omega, by omega, by omega, by omega, rfl, rfl, by go_num, HNX, hto, hbk2, hbt2⟩
              case measure => simp [intOf]; omega
      · rw [he] at sdw sd A0 A1 A2 A4 a0 a1 a2 a4 hs4
        simp only at sdw sd A0 A1 A2 A4 a0 a1 a2 a4 hs4
        obtain rfl : N = nd := by rw [← sdw.len, hdl]
        have hsp := Lib.hid (span_write (q := q) (N := N) (by omega) (by omega) (by omega))
        have hdd := Lib.hid hdd
        have hnd63 : N ≤ 9223372036854775807 := by omega
        clear he hdl
        have q1 : decide ((N : Int) < 1) = false := by simp; omega
        have hsz0 : (⟨#[]⟩ : ByteArray).size ≤ maxLen := Nat.zero_le _
        have q1' : decide (N < 1) = false := by simp; omega
        have q2 : decide ((64 : Int) < (N : Int)) = false := by simp; omega
        have q2' : decide (64 < N) = false := by simp; omega
        have q3 : decide ((q : Int) < en) = false := by simp; omega
        have q4 : decide ((n' : Int) - (N : Int) < (q : Int)) = false := by simp; omega
        clear hq0
        go_wp2_with fail
        refine (ref_Span 1 q 0 Ad N cd ⟨#[]⟩ _ hnd63 hsz0).mono ?_
        rintro e w4 ⟨rfl, hx4⟩
        rw [hsp.out.1, hsp.out.2]
        replace hbt := hbt.trans (But.of_ext hx4)
        replace hbk := hbk.ext hx4
        clear hsp hx4
        go_wp2_with fail
        go_loopw [12] (fun i wr => ∃ k : Nat, k ≤ N ∧ i = .int .i64 k ∧ Byt U8 wr w.heap.size As n' cs (mixL x b (q + k)) ∧ But w3.heap.size (fun k => rowOf As cs = some k) w3 wr) (fun i _ => N - (intOf i).toNat)
        case atStart => exact ⟨0, by omega, rfl, hbk, hbt⟩
        case round =>
          obtain ⟨k, hk, rfl, hbk2, hbt2⟩ := hrel
          clear a0 a1 a2 a3 a4
          have a0 := hbt2.cell A0 hglw hnS
          have a3 := hbt2.cell A3 hglw hnS
          by_cases hkN : k < N
          · have hbw := hb3.keepBlk (w' := wr) fun ad e h0 => hbt2.block ad.block (Nat.lt_of_lt_of_le (h'.blk ad e h0) (by omega)) (fun e2 => by have := (hrow _ e2).1; have := h'.blk ad e h0; omega) (Nat.lt_of_lt_of_le (h'.blk ad e h0) (by omega))
            obtain ⟨gb, ob, e5, ab⟩ := hbw.at2 (k := q + k) (by omega)
            cases e5
            obtain ⟨r1, r2⟩ := runF_in (x := x) (b := b) 64 q k (by rw [HRN.out]; exact hkN)
            obtain ⟨gs, rfl, hgB, hgl2, hcell⟩ := hbk2.open_ (by omega)
            have sx := (hcell (q + k) (by omega)).1
            rw [mix_getD hxb (by omega) (by omega)] at sx
            obtain ⟨px, hpx⟩ : ∃ p, x.getD (q + k) 0 = p := ⟨_, rfl⟩
            obtain ⟨pb, hpb⟩ : ∃ p, b.getD (q + k) 0 = p := ⟨_, rfl⟩
            rw [hpx] at sx
            rw [hpb] at ab
            rw [hpx, hpb] at r2
            have q6 : ((px.toNat : Int) == (pb.toNat : Int)) = false := by
              have : px.toNat ≠ pb.toNat := fun e => r2 (UInt8.toNat_inj.1 e)
              simp; omega
            have sdw2 := sd.keepBlk (w' := wr) fun ad e h0 => hbt2.block ad.block (hdB.out ad e h0).1 (hdB.out ad e h0).2 (hdB.out ad e h0).1; obtain ⟨gd, od, e7, adk⟩ := sdw2.at2 (k := k) hkN; cases e7; rw [hdd.out k hkN, hpb] at adk; have q8 : ((pb.toNat : Int) != (pb.toNat : Int)) = false := by simp
            have hset := mix_set (p := q + k) hxb (by omega)
            rw [hpb] at hset
            have hrg : rowOf (some ⟨gs, 0, none⟩) cs = some gs := by
              have := hbk2.own.caps.1
              unfold rowOf
              rw [if_neg (by omega)]
              rfl
            clear r1 r2 hpx hpb hcell
            go_wp2_with fail
            go_quiet (fail)
            have h1 : Ext wr (wr.drewN nq) := (Ext.refl wr).drewN' nq
            obtain ⟨w1, hw1⟩ : ∃ w1, wr.drewN nq = w1 := ⟨_, rfl⟩
            rw [hw1] at h1 ⊢
            clear hw1
            have hbk3 := hbk2.ext h1
            obtain ⟨gs', e6, _, _, hcell2⟩ := hbk3.open_ (by omega)
            injection e6 with e6
            injection e6 with e6 _
            subst e6
            have sy := (hcell2 (q + k) (by omega)).1
            have sf := (hcell2 (q + k) (by omega)).2
            replace ab := h1.cell ab
            have hbt3 := hbt2.trans (But.of_ext h1)
            have hbk4 := hbk3.set_ (k := q + k) (by omega) pb
            rw [hset] at hbk4
            have hbt4 := hbt3.setCell (p := ⟨gs, q + k, none⟩) (.inl hrg) (bv pb)
            clear hcell2 hset hrg
            go_wp2_with fail
            go_roundw
            case rel => exact ⟨k + 1, by omega, by go_num, hbk4, hbt4⟩
            case measure => simp [intOf]; omega
          · obtain rfl : N = k := by omega
            by_cases h64 : N = 64
            · have q7 : ((N : Int) == 64) = true := by simp; omega
              go_wp2_with fail
              go_roundw
              case rel => exact ⟨i + 1, q + N, (q : Int) + (N : Int), true, by omega, by omega, by omega, by omega, by first | rfl | (simp; omega), rfl, by go_num, HNX, .inr ⟨by omega, fun h => by cases h⟩, hbk2, hbt2⟩
              case measure => simp [intOf]; omega
            · have q7 : ((N : Int) == 64) = false := by simp; omega
              have hto : Hid (Touch x b n' (q + N) ((q : Int) + (N : Int)) false) := .inr ⟨by omega, fun _ hl => by
                have := runF_end (x := x) (b := b) 64 q (by rw [HRN.out]; omega) (by rw [HRN.out]; omega)
                rw [HRN.out] at this
                exact this⟩
              go_wp2_with fail
              go_roundw
              case rel => exact ⟨i + 1, q + N, (q : Int) + (N : Int), false, by omega, by omega, by omega, by omega, rfl, rfl, by go_num, HNX, hto, hbk2, hbt2⟩
              case measure => simp [intOf]; omega
    · have q5 : ((q : Int) == en) = false := by simpa using hqe
      rcases evAt_kinds (b := b) (q := q) (N := N) (by omega) with ⟨he, hz⟩ | ⟨dp, he, hdl, hdd⟩
      · rw [he] at sdw sd A0 A1 A2 A4 a0 a1 a2 a4 hs4
        simp only at sdw sd A0 A1 A2 A4 a0 a1 a2 a4 hs4
        obtain rfl : nd = 0 := sdw.len.symm
        have hsp := Lib.hid (span_zero (q := q) (N := N) (by omega) (by omega))
        have hz := Lib.hid hz
        clear he
        have hnd63 : (0 : Nat) ≤ 9223372036854775807 := Nat.zero_le _
        have q1 : decide ((N : Int) < 1) = false := by simp; omega
        have hsz0 : (⟨#[]⟩ : ByteArray).size ≤ maxLen := Nat.zero_le _
        have q1' : decide (N < 1) = false := by simp; omega
        have q2 : decide ((64 : Int) < (N : Int)) = false := by simp; omega
        have q2' : decide (64 < N) = false := by simp; omega
        have q3 : decide ((q : Int) < en) = false := by simp; omega
        have q4 : decide ((n' : Int) - (N : Int) < (q : Int)) = false := by simp; omega
        clear hq0
        go_wp2_with fail
        refine (ref_Span 3 q N Ad 0 cd ⟨#[]⟩ _ hnd63 hsz0).mono ?_
        rintro e w4 ⟨rfl, hx4⟩
        rw [hsp.out.1, hsp.out.2]
        replace hbt := hbt.trans (But.of_ext hx4)
        replace hbk := hbk.ext hx4
        clear hsp hx4
        go_wp2_with fail
        go_loopw [12] (fun i wr => ∃ k : Nat, k ≤ N ∧ i = .int .i64 k ∧ Byt U8 wr w.heap.size As n' cs (mixL x b (q + k)) ∧ But w3.heap.size (fun k => rowOf As cs = some k) w3 wr) (fun i _ => N - (intOf i).toNat)
        case atStart => exact ⟨0, by omega, rfl, hbk, hbt⟩
        case round =>
          obtain ⟨k, hk, rfl, hbk2, hbt2⟩ := hrel
          clear a0 a1 a2 a3 a4
          have a0 := hbt2.cell A0 hglw hnS
          have a3 := hbt2.cell A3 hglw hnS
          by_cases hkN : k < N
          · have hbw := hb3.keepBlk (w' := wr) fun ad e h0 => hbt2.block ad.block (Nat.lt_of_lt_of_le (h'.blk ad e h0) (by omega)) (fun e2 => by have := (hrow _ e2).1; have := h'.blk ad e h0; omega) (Nat.lt_of_lt_of_le (h'.blk ad e h0) (by omega))
            obtain ⟨gb, ob, e5, ab⟩ := hbw.at2 (k := q + k) (by omega)
            cases e5
            obtain ⟨r1, r2⟩ := runF_in (x := x) (b := b) 64 q k (by rw [HRN.out]; exact hkN)
            obtain ⟨gs, rfl, hgB, hgl2, hcell⟩ := hbk2.open_ (by omega)
            have sx := (hcell (q + k) (by omega)).1
            rw [mix_getD hxb (by omega) (by omega)] at sx
            obtain ⟨px, hpx⟩ : ∃ p, x.getD (q + k) 0 = p := ⟨_, rfl⟩
            obtain ⟨pb, hpb⟩ : ∃ p, b.getD (q + k) 0 = p := ⟨_, rfl⟩
            rw [hpx] at sx
            rw [hpb] at ab
            rw [hpx, hpb] at r2
            have q6 : ((px.toNat : Int) == (pb.toNat : Int)) = false := by
              have : px.toNat ≠ pb.toNat := fun e => r2 (UInt8.toNat_inj.1 e)
              simp; omega
            have q8 : ((pb.toNat : Int) != 0) = false := by rw [← hpb, hz.out k hkN]; rfl
            have hset := mix_set (p := q + k) hxb (by omega)
            rw [hpb] at hset
            have hrg : rowOf (some ⟨gs, 0, none⟩) cs = some gs := by
              have := hbk2.own.caps.1
              unfold rowOf
              rw [if_neg (by omega)]
              rfl
            clear r1 r2 hpx hpb hcell
            go_wp2_with fail
            go_quiet (fail)
            have h1 : Ext wr (wr.drewN nq) := (Ext.refl wr).drewN' nq
            obtain ⟨w1, hw1⟩ : ∃ w1, wr.drewN nq = w1 := ⟨_, rfl⟩
            rw [hw1] at h1 ⊢
            clear hw1
            have hbk3 := hbk2.ext h1
            obtain ⟨gs', e6, _, _, hcell2⟩ := hbk3.open_ (by omega)
            injection e6 with e6
            injection e6 with e6 _
            subst e6
            have sy := (hcell2 (q + k) (by omega)).1
            have sf := (hcell2 (q + k) (by omega)).2
            replace ab := h1.cell ab
            have hbt3 := hbt2.trans (But.of_ext h1)
            have hbk4 := hbk3.set_ (k := q + k) (by omega) pb
            rw [hset] at hbk4
            have hbt4 := hbt3.setCell (p := ⟨gs, q + k, none⟩) (.inl hrg) (bv pb)
            clear hcell2 hset hrg
            go_wp2_with fail
            go_roundw
            case rel => exact ⟨k + 1, by omega, by go_num, hbk4, hbt4⟩
            case measure => simp [intOf]; omega
          · obtain rfl : N = k := by omega
            by_cases h64 : N = 64
            · have q7 : ((N : Int) == 64) = true := by simp; omega
              go_wp2_with fail
              go_roundw
              case rel => exact ⟨i + 1, q + N, (q : Int) + (N : Int), true, by omega, by omega, by omega, by omega, by first | rfl | (simp; omega), rfl, by go_num, HNX, .inr ⟨by omega, fun h => by cases h⟩, hbk2, hbt2⟩
              case measure => simp [intOf]; omega
            · have q7 : ((N : Int) == 64) = false := by simp; omega
              have hto : Hid (Touch x b n' (q + N) ((q : Int) + (N : Int)) false) := .inr ⟨by omega, fun _ hl => by
                have := runF_end (x := x) (b := b) 64 q (by rw [HRN.out]; omega) (by rw [HRN.out]; omega)
                rw [HRN.out] at this
                exact this⟩
              go_wp2_with fail
              go_roundw
              case rel => exact ⟨i + 1, q + N, (q : Int) + (N : Int), false, by omega, by omega, by omega, by omega, rfl, rfl, by go_num, HNX, hto, hbk2, hbt2⟩
              case measure => simp [intOf]; omega
      · rw [he] at sdw sd A0 A1 A2 A4 a0 a1 a2 a4 hs4
        simp only at sdw sd A0 A1 A2 A4 a0 a1 a2 a4 hs4
        obtain rfl : N = nd := by rw [← sdw.len, hdl]
        have hsp := Lib.hid (span_write (q := q) (N := N) (by omega) (by omega) (by omega))
        have hdd := Lib.hid hdd
        have hnd63 : N ≤ 9223372036854775807 := by omega
        clear he hdl
        have q1 : decide ((N : Int) < 1) = false := by simp; omega
        have hsz0 : (⟨#[]⟩ : ByteArray).size ≤ maxLen := Nat.zero_le _
        have q1' : decide (N < 1) = false := by simp; omega
        have q2 : decide ((64 : Int) < (N : Int)) = false := by simp; omega
        have q2' : decide (64 < N) = false := by simp; omega
        have q3 : decide ((q : Int) < en) = false := by simp; omega
        have q4 : decide ((n' : Int) - (N : Int) < (q : Int)) = false := by simp; omega
        clear hq0
        go_wp2_with fail
        refine (ref_Span 1 q 0 Ad N cd ⟨#[]⟩ _ hnd63 hsz0).mono ?_
        rintro e w4 ⟨rfl, hx4⟩
        rw [hsp.out.1, hsp.out.2]
        replace hbt := hbt.trans (But.of_ext hx4)
        replace hbk := hbk.ext hx4
        clear hsp hx4
        go_wp2_with fail
        go_loopw [12] (fun i wr => ∃ k : Nat, k ≤ N ∧ i = .int .i64 k ∧ Byt U8 wr w.heap.size As n' cs (mixL x b (q + k)) ∧ But w3.heap.size (fun k => rowOf As cs = some k) w3 wr) (fun i _ => N - (intOf i).toNat)
        case atStart => exact ⟨0, by omega, rfl, hbk, hbt⟩
        case round =>
          obtain ⟨k, hk, rfl, hbk2, hbt2⟩ := hrel
          clear a0 a1 a2 a3 a4
          have a0 := hbt2.cell A0 hglw hnS
          have a3 := hbt2.cell A3 hglw hnS
          by_cases hkN : k < N
          · have hbw := hb3.keepBlk (w' := wr) fun ad e h0 => hbt2.block ad.block (Nat.lt_of_lt_of_le (h'.blk ad e h0) (by omega)) (fun e2 => by have := (hrow _ e2).1; have := h'.blk ad e h0; omega) (Nat.lt_of_lt_of_le (h'.blk ad e h0) (by omega))
            obtain ⟨gb, ob, e5, ab⟩ := hbw.at2 (k := q + k) (by omega)
            cases e5
            obtain ⟨r1, r2⟩ := runF_in (x := x) (b := b) 64 q k (by rw [HRN.out]; exact hkN)
            obtain ⟨gs, rfl, hgB, hgl2, hcell⟩ := hbk2.open_ (by omega)
            have sx := (hcell (q + k) (by omega)).1
            rw [mix_getD hxb (by omega) (by omega)] at sx
            obtain ⟨px, hpx⟩ : ∃ p, x.getD (q + k) 0 = p := ⟨_, rfl⟩
            obtain ⟨pb, hpb⟩ : ∃ p, b.getD (q + k) 0 = p := ⟨_, rfl⟩
            rw [hpx] at sx
            rw [hpb] at ab
            rw [hpx, hpb] at r2
            have q6 : ((px.toNat : Int) == (pb.toNat : Int)) = false := by
              have : px.toNat ≠ pb.toNat := fun e => r2 (UInt8.toNat_inj.1 e)
              simp; omega
            have sdw2 := sd.keepBlk (w' := wr) fun ad e h0 => hbt2.block ad.block (hdB.out ad e h0).1 (hdB.out ad e h0).2 (hdB.out ad e h0).1; obtain ⟨gd, od, e7, adk⟩ := sdw2.at2 (k := k) hkN; cases e7; rw [hdd.out k hkN, hpb] at adk; have q8 : ((pb.toNat : Int) != (pb.toNat : Int)) = false := by simp
            have hset := mix_set (p := q + k) hxb (by omega)
            rw [hpb] at hset
            have hrg : rowOf (some ⟨gs, 0, none⟩) cs = some gs := by
              have := hbk2.own.caps.1
              unfold rowOf
              rw [if_neg (by omega)]
              rfl
            clear r1 r2 hpx hpb hcell
            go_wp2_with fail
            go_quiet (fail)
            have h1 : Ext wr (wr.drewN nq) := (Ext.refl wr).drewN' nq
            obtain ⟨w1, hw1⟩ : ∃ w1, wr.drewN nq = w1 := ⟨_, rfl⟩
            rw [hw1] at h1 ⊢
            clear hw1
            have hbk3 := hbk2.ext h1
            obtain ⟨gs', e6, _, _, hcell2⟩ := hbk3.open_ (by omega)
            injection e6 with e6
            injection e6 with e6 _
            subst e6
            have sy := (hcell2 (q + k) (by omega)).1
            have sf := (hcell2 (q + k) (by omega)).2
            replace ab := h1.cell ab
            have hbt3 := hbt2.trans (But.of_ext h1)
            have hbk4 := hbk3.set_ (k := q + k) (by omega) pb
            rw [hset] at hbk4
            have hbt4 := hbt3.setCell (p := ⟨gs, q + k, none⟩) (.inl hrg) (bv pb)
            clear hcell2 hset hrg
            go_wp2_with fail
            go_roundw
            case rel => exact ⟨k + 1, by omega, by go_num, hbk4, hbt4⟩
            case measure => simp [intOf]; omega
          · obtain rfl : N = k := by omega
            by_cases h64 : N = 64
            · have q7 : ((N : Int) == 64) = true := by simp; omega
              go_wp2_with fail
              go_roundw
              case rel => exact ⟨i + 1, q + N, (q : Int) + (N : Int), true, by omega, by omega, by omega, by omega, by first | rfl | (simp; omega), rfl, by go_num, HNX, .inr ⟨by omega, fun h => by cases h⟩, hbk2, hbt2⟩
              case measure => simp [intOf]; omega
            · have q7 : ((N : Int) == 64) = false := by simp; omega
              have hto : Hid (Touch x b n' (q + N) ((q : Int) + (N : Int)) false) := .inr ⟨by omega, fun _ hl => by
                have := runF_end (x := x) (b := b) 64 q (by rw [HRN.out]; omega) (by rw [HRN.out]; omega)
                rw [HRN.out] at this
                exact this⟩
              go_wp2_with fail
              go_roundw
              case rel => exact ⟨i + 1, q + N, (q : Int) + (N : Int), false, by omega, by omega, by omega, by omega, rfl, rfl, by go_num, HNX, hto, hbk2, hbt2⟩
              case measure => simp [intOf]; omega
set_option maxHeartbeats 64000000 in
theorem least_other (A : Option Addr) (n c : Nat) (a : List UInt8) (A' : Option Addr) (n' c' : Nat) (b : List UInt8) (w : World) (h : Sl w A n c a) (h' : Sl w A' n' c' b) (t1 : ¬ 512 < n) (t2 : ¬ 512 < n') (hnn : ¬ n = n') :
    Calls Try.prog 3 #[.slice A n c, .slice A' n' c'] w fun e w' => e = .returned (.bool true) ∧ Ext w w' := by
  have h63 := h.n63
  have h63' := h'.n63
  have hal := h.len
  have hbl := h'.len
  obtain ⟨i0, hi0, hz0, hz1, hz2⟩ := info_parts info_ev
  obtain ⟨x, hxx⟩ : ∃ x, sizedL a n' = x := ⟨_, rfl⟩
  have hxb : x.length = b.length := by rw [← hxx, sized_length, hbl]
  obtain ⟨R, hR⟩ : ∃ R, bytesL a b = R := ⟨_, rfl⟩
  obtain ⟨E, hE⟩ : ∃ E, wayL x b 0 = E := ⟨_, rfl⟩
  have HE : Hid (E = wayL x b 0) := hE.symm
  have HR := Lib.hid hR
  rw [bytes_other (by omega) (by omega) (by omega), hbl, hxx, hE] at hR
  have qn : ((n : Int) != (n' : Int)) = true := by simp; omega
  clear hnn hE
  go_enter Try.func3, Try.ntmps3
  go_wp2_with fail
  refine (ref_Sized A n c a n' w h (by omega) (by omega)).mono ?_
  rintro e w2 ⟨As, cs, rfl, hbx, hx2⟩
  rw [hxx] at hbx
  go_wp2_with fail
  refine (diff_BytesF (h.ext hx2) (h'.ext hx2) HR).mono ?_
  rintro e w3 ⟨Al0, nl0, cl0, rfl, hl, hx3⟩
  have hrow : ∀ k, rowOf As cs = some k → w.heap.size ≤ k ∧ k < w2.heap.size := hbx.own.row_ge
  have hbx3 := hbx.ext hx3
  have hw3 := hx2.trans hx3
  have hb3 := h'.ext hw3
  have hs3 := hx3.size
  have hs2 := hx2.size
  subst hR
  obtain ⟨nl, hnl⟩ : ∃ nl, E.length = nl := ⟨_, rfl⟩
  have hln := hl.lst.len
  obtain rfl : 1 + nl = nl0 := by rw [← hln]; simp; omega
  obtain ⟨Al, cl, hcut, ll, HA0⟩ := hl.cut1 (t := 23) (fr_rep ev_rep _) under_evs hi0 hz1 rfl
  have HA : ∀ ad, Al = some ad → 0 < nl → w2.heap.size ≤ ad.block := fun ad e _ => HA0 ad e
  obtain ⟨g0, o0, x0, cs0, rfl, hx0, ⟨⟨Ad0, nd0, cd0, rfl, sd0, hs0⟩, hfr0⟩, ha0⟩ := hl.lst.at2 (i := 0) (fr_rep ev_rep w2.heap.size) (by omega) (by omega)
  simp only [List.singleton_append, List.getElem?_cons_zero, Option.some.injEq] at hx0
  subst hx0
  have z0 := ha0 0 _ rfl
  have z2 := ha0 2 _ rfl
  simp only [Nat.zero_mul, Nat.add_zero] at z0 z2
  have ll : Lst 5 (frR evR w2.heap.size) w3 Al nl cl E := by simpa using ll
  have qz : ((nl : Int) + 1 == 0) = false := by simp; omega
  have qz' : ((1 : Int) + (nl : Int) == 0) = false := by simp; omega
  have hnl0 := hl.lst.n63
  clear hl hbx HR HA0 hln ha0 hfr0 sd0 hs0
  go_wp2_with fail
  clear hcut hnl
  have hE0 : E.length = nl := ll.len
  have hnl63 := ll.n63
  go_loopw [7, 8, 9] (fun v7 v8 v9 wr => ∃ (i p : Nat) (en : Int) (fu : Bool), i ≤ nl ∧ p ≤ n' ∧ -1 ≤ en ∧ en ≤ p ∧ v7 = .int .i64 en ∧ v8 = .bool fu ∧ v9 = .int .i64 i ∧ Hid (E.drop i = wayL x b p) ∧ Hid (Touch x b n' p en fu) ∧ Byt U8 wr w.heap.size As n' cs (mixL x b p) ∧ But w3.heap.size (fun k => rowOf As cs = some k) w3 wr) (fun _ _ i _ => nl - (intOf i).toNat)
  case atStart => exact ⟨0, 0, -1, false, by omega, by omega, by omega, by omega, rfl, rfl, rfl, (by unfold Hid; rw [List.drop_zero]; exact HE.out), .inl ⟨rfl, rfl⟩, (by rw [mix_zero]; exact hbx3), But.refl _ _ _⟩
  case round =>
    obtain ⟨i, p, en, fu, hi, hp, he1, he2, rfl, rfl, rfl, hrk, htc, hbk, hbt⟩ := hrel
    clear HE hbx3
    by_cases hlt : i < nl
    case neg =>
      have hw0 : wayL x b p = [] := by rw [← hrk.out]; exact List.drop_of_length_le (by omega)
      have hmx : mixL x b p = b := by
        rcases way_next (x := x) (b := b) hxb (b.length - p) p (Nat.le_refl _) (by omega) with h1 | ⟨q, N, _, _, _, _, _, _, h2, _⟩
        · exact h1.2
        · rw [hw0] at h2; cases h2
      rw [hmx] at hbk
      have hbw := hb3.keepBlk (w' := wr) fun ad e h0 => hbt.block ad.block (Nat.lt_of_lt_of_le (h'.blk ad e h0) (by omega)) (fun e2 => by have := (hrow _ e2).1; have := h'.blk ad e h0; omega) (Nat.lt_of_lt_of_le (h'.blk ad e h0) (by omega))
      have ht1 := run_text_u8 hbk.sl
      have ht2 := run_text_u8 hbw
      clear htc hrk
      go_wp2_with fail
      refine (law15_known _).mono ?_
      rintro e w8 ⟨rfl, g8⟩
      go_wp2_with fail
      go_ret
      exact ⟨rfl, (hw3.but hbt hw3.size (fun g hg => (hrow g hg).1)).trans g8⟩
    rcases way_next (x := x) (b := b) hxb (b.length - p) p (Nat.le_refl _) (by omega) with ⟨h1, _⟩ | ⟨q, N, m1, m2, m3, m4, m5, m6, m7, m8⟩
    · exfalso
      have := congrArg List.length (hrk.out.trans h1)
      rw [List.length_drop] at this
      simp at this
      omega
    have hEd := hrk.out.trans m7
    have hEi : E[i]? = some (evAt b q N) := by
      have := congrArg (fun l : List Ev => l[0]?) hEd
      simpa using this
    have HNX : Hid (E.drop (i + 1) = wayL x b (q + N)) := by
      have := congrArg (List.drop 1) hEd
      rw [List.drop_drop] at this
      exact this
    have HRN := Lib.hid m5
    rw [m8] at hbk
    have hq5 : q ≤ 512 := by omega
    have hqN : q + N ≤ n' := by omega
    have hq0 : fu = true ∨ (q : Int) ≠ en := by
      cases fu with
      | true => exact .inl rfl
      | false =>
        refine .inr fun e => ?_
        rcases htc.out with ⟨e1, _⟩ | ⟨e1, e2⟩
        · omega
        · obtain rfl : q = p := by omega
          exact m6 (e2 rfl (by omega))
    obtain ⟨gl, ol, ev, cs', rfl, hx, ⟨⟨Ad, nd, cd, rfl, sd, hs4⟩, hfr⟩, ha⟩ := ll.at2 (fr_rep ev_rep w2.heap.size) (by omega) hlt
    rw [hEi] at hx
    injection hx with hx
    subst hx
    have A0 : w3.cell? ⟨gl, ol + i * 5, none⟩ = _ := ha 0 _ rfl
    have A1 := ha 1 _ rfl
    have A2 := ha 2 _ rfl
    have A3 := ha 3 _ rfl
    have A4 := ha 4 _ rfl
    have hgl : w2.heap.size ≤ gl := HA _ rfl (by omega)
    have hglw : gl < w3.heap.size := World.block_lt_of_cell? w3 _ A0
    have hnS : ¬ rowOf As cs = some gl := fun e => by have := (hrow _ e).2; omega
    have a0 := hbt.cell A0 hglw hnS
    have a1 := hbt.cell A1 hglw hnS
    have a2 := hbt.cell A2 hglw hnS
    have a3 := hbt.cell A3 hglw hnS
    have a4 := hbt.cell A4 hglw hnS
    have hdB : Hid (∀ ad, Ad = some ad → 0 < nd → ad.block < w3.heap.size ∧ ¬ rowOf As cs = some ad.block) := fun ad e h0 => ⟨sd.blk ad e h0, fun e2 => by
      have h1 := hfr ad.block ⟨ad, nd, cd, by simp [e], h0, rfl⟩
      have h2 := (hrow _ e2).2
      omega⟩
    have sdw := sd.keepBlk (w' := wr) fun ad e h0 => hbt.block ad.block (hdB.out ad e h0).1 (hdB.out ad e h0).2 (hdB.out ad e h0).1
    have M6 := Lib.hid m6
    clear ha hEd hEi m5 m6 m7 m8 htc hrk hfr
    by_cases hqe : (q : Int) = en
    · obtain rfl : fu = true := by
        rcases hq0 with h | h
        · exact h
        · exact absurd hqe h
      have q5 : ((q : Int) == en) = true := by simpa using hqe
      clear hqe
      rcases evAt_kinds (b := b) (q := q) (N := N) (by omega) with ⟨he, hz⟩ | ⟨dp, he, hdl, hdd⟩
      · rw [he] at sdw sd A0 A1 A2 A4 a0 a1 a2 a4 hs4
        simp only at sdw sd A0 A1 A2 A4 a0 a1 a2 a4 hs4
        obtain rfl : nd = 0 := sdw.len.symm
        have hsp := Lib.hid (span_zero (q := q) (N := N) (by omega) (by omega))
        have hz := Lib.hid hz
        clear he
        have hnd63 : (0 : Nat) ≤ 9223372036854775807 := Nat.zero_le _
        have q1 : decide ((N : Int) < 1) = false := by simp; omega
        have hsz0 : (⟨#[]⟩ : ByteArray).size ≤ maxLen := Nat.zero_le _
        have q1' : decide (N < 1) = false := by simp; omega
        have q2 : decide ((64 : Int) < (N : Int)) = false := by simp; omega
        have q2' : decide (64 < N) = false := by simp; omega
        have q3 : decide ((q : Int) < en) = false := by simp; omega
        have q4 : decide ((n' : Int) - (N : Int) < (q : Int)) = false := by simp; omega
        clear hq0
        go_wp2_with fail
        refine (ref_Span 3 q N Ad 0 cd ⟨#[]⟩ _ hnd63 hsz0).mono ?_
        rintro e w4 ⟨rfl, hx4⟩
        rw [hsp.out.1, hsp.out.2]
        replace hbt := hbt.trans (But.of_ext hx4)
        replace hbk := hbk.ext hx4
        clear hsp hx4
        go_wp2_with fail
        go_loopw [12] (fun i wr => ∃ k : Nat, k ≤ N ∧ i = .int .i64 k ∧ Byt U8 wr w.heap.size As n' cs (mixL x b (q + k)) ∧ But w3.heap.size (fun k => rowOf As cs = some k) w3 wr) (fun i _ => N - (intOf i).toNat)
        case atStart => exact ⟨0, by omega, rfl, hbk, hbt⟩
        case round =>
          obtain ⟨k, hk, rfl, hbk2, hbt2⟩ := hrel
          clear a0 a1 a2 a3 a4
          have a0 := hbt2.cell A0 hglw hnS
          have a3 := hbt2.cell A3 hglw hnS
          by_cases hkN : k < N
          · have hbw := hb3.keepBlk (w' := wr) fun ad e h0 => hbt2.block ad.block (Nat.lt_of_lt_of_le (h'.blk ad e h0) (by omega)) (fun e2 => by have := (hrow _ e2).1; have := h'.blk ad e h0; omega) (Nat.lt_of_lt_of_le (h'.blk ad e h0) (by omega))
            obtain ⟨gb, ob, e5, ab⟩ := hbw.at2 (k := q + k) (by omega)
            cases e5
            obtain ⟨r1, r2⟩ := runF_in (x := x) (b := b) 64 q k (by rw [HRN.out]; exact hkN)
            obtain ⟨gs, rfl, hgB, hgl2, hcell⟩ := hbk2.open_ (by omega)
            have sx := (hcell (q + k) (by omega)).1
            rw [mix_getD hxb (by omega) (by omega)] at sx
            obtain ⟨px, hpx⟩ : ∃ p, x.getD (q + k) 0 = p := ⟨_, rfl⟩
            obtain ⟨pb, hpb⟩ : ∃ p, b.getD (q + k) 0 = p := ⟨_, rfl⟩
            rw [hpx] at sx
            rw [hpb] at ab
            rw [hpx, hpb] at r2
            have q6 : ((px.toNat : Int) == (pb.toNat : Int)) = false := by
              have : px.toNat ≠ pb.toNat := fun e => r2 (UInt8.toNat_inj.1 e)
              simp; omega
            have q8 : ((pb.toNat : Int) != 0) = false := by rw [← hpb, hz.out k hkN]; rfl
            have hset := mix_set (p := q + k) hxb (by omega)
            rw [hpb] at hset
            have hrg : rowOf (some ⟨gs, 0, none⟩) cs = some gs := by
              have := hbk2.own.caps.1
              unfold rowOf
              rw [if_neg (by omega)]
              rfl
            clear r1 r2 hpx hpb hcell
            go_wp2_with fail
            go_quiet (fail)
            have h1 : Ext wr (wr.drewN nq) := (Ext.refl wr).drewN' nq
            obtain ⟨w1, hw1⟩ : ∃ w1, wr.drewN nq = w1 := ⟨_, rfl⟩
            rw [hw1] at h1 ⊢
            clear hw1
            have hbk3 := hbk2.ext h1
            obtain ⟨gs', e6, _, _, hcell2⟩ := hbk3.open_ (by omega)
            injection e6 with e6
            injection e6 with e6 _
            subst e6
            have sy := (hcell2 (q + k) (by omega)).1
            have sf := (hcell2 (q + k) (by omega)).2
            replace ab := h1.cell ab
            have hbt3 := hbt2.trans (But.of_ext h1)
            have hbk4 := hbk3.set_ (k := q + k) (by omega) pb
            rw [hset] at hbk4
            have hbt4 := hbt3.setCell (p := ⟨gs, q + k, none⟩) (.inl hrg) (bv pb)
            clear hcell2 hset hrg
            go_wp2_with fail
            go_roundw
            case rel => exact ⟨k + 1, by omega, by go_num, hbk4, hbt4⟩
            case measure => simp [intOf]; omega
          · obtain rfl : N = k := by omega
            by_cases h64 : N = 64
            · have q7 : ((N : Int) == 64) = true := by simp; omega
              go_wp2_with fail
              go_roundw
              case rel => exact ⟨i + 1, q + N, (q : Int) + (N : Int), true, by omega, by omega, by omega, by omega, by first | rfl | (simp; omega), rfl, by go_num, HNX, .inr ⟨by omega, fun h => by cases h⟩, hbk2, hbt2⟩
              case measure => simp [intOf]; omega
            · have q7 : ((N : Int) == 64) = false := by simp; omega
              have hto : Hid (Touch x b n' (q + N) ((q : Int) + (N : Int)) false) := .inr ⟨by omega, fun _ hl => by
                have := runF_end (x := x) (b := b) 64 q (by rw [HRN.out]; omega) (by rw [HRN.out]; omega)
                rw [HRN.out] at this
                exact this⟩
              go_wp2_with fail
              go_roundw
              case rel => exact ⟨i + 1, q + N, (q : Int) + (N : Int), false, by omega, by omega, by omega, by omega, rfl, rfl, by go_num, HNX, hto, hbk2, hbt2⟩
              case measure => simp [intOf]; omega
      · rw [he] at sdw sd A0 A1 A2 A4 a0 a1 a2 a4 hs4
        simp only at sdw sd A0 A1 A2 A4 a0 a1 a2 a4 hs4
        obtain rfl : N = nd := by rw [← sdw.len, hdl]
        have hsp := Lib.hid (span_write (q := q) (N := N) (by omega) (by omega) (by omega))
        have hdd := Lib.hid hdd
        have hnd63 : N ≤ 9223372036854775807 := by omega
        clear he hdl
        have q1 : decide ((N : Int) < 1) = false := by simp; omega
        have hsz0 : (⟨#[]⟩ : ByteArray).size ≤ maxLen := Nat.zero_le _
        have q1' : decide (N < 1) = false := by simp; omega
        have q2 : decide ((64 : Int) < (N : Int)) = false := by simp; omega
        have q2' : decide (64 < N) = false := by simp; omega
        have q3 : decide ((q : Int) < en) = false := by simp; omega
        have q4 : decide ((n' : Int) - (N : Int) < (q : Int)) = false := by simp; omega
        clear hq0
        go_wp2_with fail
        refine (ref_Span 1 q 0 Ad N cd ⟨#[]⟩ _ hnd63 hsz0).mono ?_
        rintro e w4 ⟨rfl, hx4⟩
        rw [hsp.out.1, hsp.out.2]
        replace hbt := hbt.trans (But.of_ext hx4)
        replace hbk := hbk.ext hx4
        clear hsp hx4
        go_wp2_with fail
        go_loopw [12] (fun i wr => ∃ k : Nat, k ≤ N ∧ i = .int .i64 k ∧ Byt U8 wr w.heap.size As n' cs (mixL x b (q + k)) ∧ But w3.heap.size (fun k => rowOf As cs = some k) w3 wr) (fun i _ => N - (intOf i).toNat)
        case atStart => exact ⟨0, by omega, rfl, hbk, hbt⟩
        case round =>
          obtain ⟨k, hk, rfl, hbk2, hbt2⟩ := hrel
          clear a0 a1 a2 a3 a4
          have a0 := hbt2.cell A0 hglw hnS
          have a3 := hbt2.cell A3 hglw hnS
          by_cases hkN : k < N
          · have hbw := hb3.keepBlk (w' := wr) fun ad e h0 => hbt2.block ad.block (Nat.lt_of_lt_of_le (h'.blk ad e h0) (by omega)) (fun e2 => by have := (hrow _ e2).1; have := h'.blk ad e h0; omega) (Nat.lt_of_lt_of_le (h'.blk ad e h0) (by omega))
            obtain ⟨gb, ob, e5, ab⟩ := hbw.at2 (k := q + k) (by omega)
            cases e5
            obtain ⟨r1, r2⟩ := runF_in (x := x) (b := b) 64 q k (by rw [HRN.out]; exact hkN)
            obtain ⟨gs, rfl, hgB, hgl2, hcell⟩ := hbk2.open_ (by omega)
            have sx := (hcell (q + k) (by omega)).1
            rw [mix_getD hxb (by omega) (by omega)] at sx
            obtain ⟨px, hpx⟩ : ∃ p, x.getD (q + k) 0 = p := ⟨_, rfl⟩
            obtain ⟨pb, hpb⟩ : ∃ p, b.getD (q + k) 0 = p := ⟨_, rfl⟩
            rw [hpx] at sx
            rw [hpb] at ab
            rw [hpx, hpb] at r2
            have q6 : ((px.toNat : Int) == (pb.toNat : Int)) = false := by
              have : px.toNat ≠ pb.toNat := fun e => r2 (UInt8.toNat_inj.1 e)
              simp; omega
            have sdw2 := sd.keepBlk (w' := wr) fun ad e h0 => hbt2.block ad.block (hdB.out ad e h0).1 (hdB.out ad e h0).2 (hdB.out ad e h0).1; obtain ⟨gd, od, e7, adk⟩ := sdw2.at2 (k := k) hkN; cases e7; rw [hdd.out k hkN, hpb] at adk; have q8 : ((pb.toNat : Int) != (pb.toNat : Int)) = false := by simp
            have hset := mix_set (p := q + k) hxb (by omega)
            rw [hpb] at hset
            have hrg : rowOf (some ⟨gs, 0, none⟩) cs = some gs := by
              have := hbk2.own.caps.1
              unfold rowOf
              rw [if_neg (by omega)]
              rfl
            clear r1 r2 hpx hpb hcell
            go_wp2_with fail
            go_quiet (fail)
            have h1 : Ext wr (wr.drewN nq) := (Ext.refl wr).drewN' nq
            obtain ⟨w1, hw1⟩ : ∃ w1, wr.drewN nq = w1 := ⟨_, rfl⟩
            rw [hw1] at h1 ⊢
            clear hw1
            have hbk3 := hbk2.ext h1
            obtain ⟨gs', e6, _, _, hcell2⟩ := hbk3.open_ (by omega)
            injection e6 with e6
            injection e6 with e6 _
            subst e6
            have sy := (hcell2 (q + k) (by omega)).1
            have sf := (hcell2 (q + k) (by omega)).2
            replace ab := h1.cell ab
            have hbt3 := hbt2.trans (But.of_ext h1)
            have hbk4 := hbk3.set_ (k := q + k) (by omega) pb
            rw [hset] at hbk4
            have hbt4 := hbt3.setCell (p := ⟨gs, q + k, none⟩) (.inl hrg) (bv pb)
            clear hcell2 hset hrg
            go_wp2_with fail
            go_roundw
            case rel => exact ⟨k + 1, by omega, by go_num, hbk4, hbt4⟩
            case measure => simp [intOf]; omega
          · obtain rfl : N = k := by omega
            by_cases h64 : N = 64
            · have q7 : ((N : Int) == 64) = true := by simp; omega
              go_wp2_with fail
              go_roundw
              case rel => exact ⟨i + 1, q + N, (q : Int) + (N : Int), true, by omega, by omega, by omega, by omega, by first | rfl | (simp; omega), rfl, by go_num, HNX, .inr ⟨by omega, fun h => by cases h⟩, hbk2, hbt2⟩
              case measure => simp [intOf]; omega
            · have q7 : ((N : Int) == 64) = false := by simp; omega
              have hto : Hid (Touch x b n' (q + N) ((q : Int) + (N : Int)) false) := .inr ⟨by omega, fun _ hl => by
                have := runF_end (x := x) (b := b) 64 q (by rw [HRN.out]; omega) (by rw [HRN.out]; omega)
                rw [HRN.out] at this
                exact this⟩
              go_wp2_with fail
              go_roundw
              case rel => exact ⟨i + 1, q + N, (q : Int) + (N : Int), false, by omega, by omega, by omega, by omega, rfl, rfl, by go_num, HNX, hto, hbk2, hbt2⟩
              case measure => simp [intOf]; omega
    · have q5 : ((q : Int) == en) = false := by simpa using hqe
      rcases evAt_kinds (b := b) (q := q) (N := N) (by omega) with ⟨he, hz⟩ | ⟨dp, he, hdl, hdd⟩
      · rw [he] at sdw sd A0 A1 A2 A4 a0 a1 a2 a4 hs4
        simp only at sdw sd A0 A1 A2 A4 a0 a1 a2 a4 hs4
        obtain rfl : nd = 0 := sdw.len.symm
        have hsp := Lib.hid (span_zero (q := q) (N := N) (by omega) (by omega))
        have hz := Lib.hid hz
        clear he
        have hnd63 : (0 : Nat) ≤ 9223372036854775807 := Nat.zero_le _
        have q1 : decide ((N : Int) < 1) = false := by simp; omega
        have hsz0 : (⟨#[]⟩ : ByteArray).size ≤ maxLen := Nat.zero_le _
        have q1' : decide (N < 1) = false := by simp; omega
        have q2 : decide ((64 : Int) < (N : Int)) = false := by simp; omega
        have q2' : decide (64 < N) = false := by simp; omega
        have q3 : decide ((q : Int) < en) = false := by simp; omega
        have q4 : decide ((n' : Int) - (N : Int) < (q : Int)) = false := by simp; omega
        clear hq0
        go_wp2_with fail
        refine (ref_Span 3 q N Ad 0 cd ⟨#[]⟩ _ hnd63 hsz0).mono ?_
        rintro e w4 ⟨rfl, hx4⟩
        rw [hsp.out.1, hsp.out.2]
        replace hbt := hbt.trans (But.of_ext hx4)
        replace hbk := hbk.ext hx4
        clear hsp hx4
        go_wp2_with fail
        go_loopw [12] (fun i wr => ∃ k : Nat, k ≤ N ∧ i = .int .i64 k ∧ Byt U8 wr w.heap.size As n' cs (mixL x b (q + k)) ∧ But w3.heap.size (fun k => rowOf As cs = some k) w3 wr) (fun i _ => N - (intOf i).toNat)
        case atStart => exact ⟨0, by omega, rfl, hbk, hbt⟩
        case round =>
          obtain ⟨k, hk, rfl, hbk2, hbt2⟩ := hrel
          clear a0 a1 a2 a3 a4
          have a0 := hbt2.cell A0 hglw hnS
          have a3 := hbt2.cell A3 hglw hnS
          by_cases hkN : k < N
          · have hbw := hb3.keepBlk (w' := wr) fun ad e h0 => hbt2.block ad.block (Nat.lt_of_lt_of_le (h'.blk ad e h0) (by omega)) (fun e2 => by have := (hrow _ e2).1; have := h'.blk ad e h0; omega) (Nat.lt_of_lt_of_le (h'.blk ad e h0) (by omega))
            obtain ⟨gb, ob, e5, ab⟩ := hbw.at2 (k := q + k) (by omega)
            cases e5
            obtain ⟨r1, r2⟩ := runF_in (x := x) (b := b) 64 q k (by rw [HRN.out]; exact hkN)
            obtain ⟨gs, rfl, hgB, hgl2, hcell⟩ := hbk2.open_ (by omega)
            have sx := (hcell (q + k) (by omega)).1
            rw [mix_getD hxb (by omega) (by omega)] at sx
            obtain ⟨px, hpx⟩ : ∃ p, x.getD (q + k) 0 = p := ⟨_, rfl⟩
            obtain ⟨pb, hpb⟩ : ∃ p, b.getD (q + k) 0 = p := ⟨_, rfl⟩
            rw [hpx] at sx
            rw [hpb] at ab
            rw [hpx, hpb] at r2
            have q6 : ((px.toNat : Int) == (pb.toNat : Int)) = false := by
              have : px.toNat ≠ pb.toNat := fun e => r2 (UInt8.toNat_inj.1 e)
              simp; omega
            have q8 : ((pb.toNat : Int) != 0) = false := by rw [← hpb, hz.out k hkN]; rfl
            have hset := mix_set (p := q + k) hxb (by omega)
            rw [hpb] at hset
            have hrg : rowOf (some ⟨gs, 0, none⟩) cs = some gs := by
              have := hbk2.own.caps.1
              unfold rowOf
              rw [if_neg (by omega)]
              rfl
            clear r1 r2 hpx hpb hcell
            go_wp2_with fail
            go_quiet (fail)
            have h1 : Ext wr (wr.drewN nq) := (Ext.refl wr).drewN' nq
            obtain ⟨w1, hw1⟩ : ∃ w1, wr.drewN nq = w1 := ⟨_, rfl⟩
            rw [hw1] at h1 ⊢
            clear hw1
            have hbk3 := hbk2.ext h1
            obtain ⟨gs', e6, _, _, hcell2⟩ := hbk3.open_ (by omega)
            injection e6 with e6
            injection e6 with e6 _
            subst e6
            have sy := (hcell2 (q + k) (by omega)).1
            have sf := (hcell2 (q + k) (by omega)).2
            replace ab := h1.cell ab
            have hbt3 := hbt2.trans (But.of_ext h1)
            have hbk4 := hbk3.set_ (k := q + k) (by omega) pb
            rw [hset] at hbk4
            have hbt4 := hbt3.setCell (p := ⟨gs, q + k, none⟩) (.inl hrg) (bv pb)
            clear hcell2 hset hrg
            go_wp2_with fail
            go_roundw
            case rel => exact ⟨k + 1, by omega, by go_num, hbk4, hbt4⟩
            case measure => simp [intOf]; omega
          · obtain rfl : N = k := by omega
            by_cases h64 : N = 64
            · have q7 : ((N : Int) == 64) = true := by simp; omega
              go_wp2_with fail
              go_roundw
              case rel => exact ⟨i + 1, q + N, (q : Int) + (N : Int), true, by omega, by omega, by omega, by omega, by first | rfl | (simp; omega), rfl, by go_num, HNX, .inr ⟨by omega, fun h => by cases h⟩, hbk2, hbt2⟩
              case measure => simp [intOf]; omega
            · have q7 : ((N : Int) == 64) = false := by simp; omega
              have hto : Hid (Touch x b n' (q + N) ((q : Int) + (N : Int)) false) := .inr ⟨by omega, fun _ hl => by
                have := runF_end (x := x) (b := b) 64 q (by rw [HRN.out]; omega) (by rw [HRN.out]; omega)
                rw [HRN.out] at this
                exact this⟩
              go_wp2_with fail
              go_roundw
              case rel => exact ⟨i + 1, q + N, (q : Int) + (N : Int), false, by omega, by omega, by omega, by omega, rfl, rfl, by go_num, HNX, hto, hbk2, hbt2⟩
              case measure => simp [intOf]; omega
      · rw [he] at sdw sd A0 A1 A2 A4 a0 a1 a2 a4 hs4
        simp only at sdw sd A0 A1 A2 A4 a0 a1 a2 a4 hs4
        obtain rfl : N = nd := by rw [← sdw.len, hdl]
        have hsp := Lib.hid (span_write (q := q) (N := N) (by omega) (by omega) (by omega))
        have hdd := Lib.hid hdd
        have hnd63 : N ≤ 9223372036854775807 := by omega
        clear he hdl
        have q1 : decide ((N : Int) < 1) = false := by simp; omega
        have hsz0 : (⟨#[]⟩ : ByteArray).size ≤ maxLen := Nat.zero_le _
        have q1' : decide (N < 1) = false := by simp; omega
        have q2 : decide ((64 : Int) < (N : Int)) = false := by simp; omega
        have q2' : decide (64 < N) = false := by simp; omega
        have q3 : decide ((q : Int) < en) = false := by simp; omega
        have q4 : decide ((n' : Int) - (N : Int) < (q : Int)) = false := by simp; omega
        clear hq0
        go_wp2_with fail
        refine (ref_Span 1 q 0 Ad N cd ⟨#[]⟩ _ hnd63 hsz0).mono ?_
        rintro e w4 ⟨rfl, hx4⟩
        rw [hsp.out.1, hsp.out.2]
        replace hbt := hbt.trans (But.of_ext hx4)
        replace hbk := hbk.ext hx4
        clear hsp hx4
        go_wp2_with fail
        go_loopw [12] (fun i wr => ∃ k : Nat, k ≤ N ∧ i = .int .i64 k ∧ Byt U8 wr w.heap.size As n' cs (mixL x b (q + k)) ∧ But w3.heap.size (fun k => rowOf As cs = some k) w3 wr) (fun i _ => N - (intOf i).toNat)
        case atStart => exact ⟨0, by omega, rfl, hbk, hbt⟩
        case round =>
          obtain ⟨k, hk, rfl, hbk2, hbt2⟩ := hrel
          clear a0 a1 a2 a3 a4
          have a0 := hbt2.cell A0 hglw hnS
          have a3 := hbt2.cell A3 hglw hnS
          by_cases hkN : k < N
          · have hbw := hb3.keepBlk (w' := wr) fun ad e h0 => hbt2.block ad.block (Nat.lt_of_lt_of_le (h'.blk ad e h0) (by omega)) (fun e2 => by have := (hrow _ e2).1; have := h'.blk ad e h0; omega) (Nat.lt_of_lt_of_le (h'.blk ad e h0) (by omega))
            obtain ⟨gb, ob, e5, ab⟩ := hbw.at2 (k := q + k) (by omega)
            cases e5
            obtain ⟨r1, r2⟩ := runF_in (x := x) (b := b) 64 q k (by rw [HRN.out]; exact hkN)
            obtain ⟨gs, rfl, hgB, hgl2, hcell⟩ := hbk2.open_ (by omega)
            have sx := (hcell (q + k) (by omega)).1
            rw [mix_getD hxb (by omega) (by omega)] at sx
            obtain ⟨px, hpx⟩ : ∃ p, x.getD (q + k) 0 = p := ⟨_, rfl⟩
            obtain ⟨pb, hpb⟩ : ∃ p, b.getD (q + k) 0 = p := ⟨_, rfl⟩
            rw [hpx] at sx
            rw [hpb] at ab
            rw [hpx, hpb] at r2
            have q6 : ((px.toNat : Int) == (pb.toNat : Int)) = false := by
              have : px.toNat ≠ pb.toNat := fun e => r2 (UInt8.toNat_inj.1 e)
              simp; omega
            have sdw2 := sd.keepBlk (w' := wr) fun ad e h0 => hbt2.block ad.block (hdB.out ad e h0).1 (hdB.out ad e h0).2 (hdB.out ad e h0).1; obtain ⟨gd, od, e7, adk⟩ := sdw2.at2 (k := k) hkN; cases e7; rw [hdd.out k hkN, hpb] at adk; have q8 : ((pb.toNat : Int) != (pb.toNat : Int)) = false := by simp
            have hset := mix_set (p := q + k) hxb (by omega)
            rw [hpb] at hset
            have hrg : rowOf (some ⟨gs, 0, none⟩) cs = some gs := by
              have := hbk2.own.caps.1
              unfold rowOf
              rw [if_neg (by omega)]
              rfl
            clear r1 r2 hpx hpb hcell
            go_wp2_with fail
            go_quiet (fail)
            have h1 : Ext wr (wr.drewN nq) := (Ext.refl wr).drewN' nq
            obtain ⟨w1, hw1⟩ : ∃ w1, wr.drewN nq = w1 := ⟨_, rfl⟩
            rw [hw1] at h1 ⊢
            clear hw1
            have hbk3 := hbk2.ext h1
            obtain ⟨gs', e6, _, _, hcell2⟩ := hbk3.open_ (by omega)
            injection e6 with e6
            injection e6 with e6 _
            subst e6
            have sy := (hcell2 (q + k) (by omega)).1
            have sf := (hcell2 (q + k) (by omega)).2
            replace ab := h1.cell ab
            have hbt3 := hbt2.trans (But.of_ext h1)
            have hbk4 := hbk3.set_ (k := q + k) (by omega) pb
            rw [hset] at hbk4
            have hbt4 := hbt3.setCell (p := ⟨gs, q + k, none⟩) (.inl hrg) (bv pb)
            clear hcell2 hset hrg
            go_wp2_with fail
            go_roundw
            case rel => exact ⟨k + 1, by omega, by go_num, hbk4, hbt4⟩
            case measure => simp [intOf]; omega
          · obtain rfl : N = k := by omega
            by_cases h64 : N = 64
            · have q7 : ((N : Int) == 64) = true := by simp; omega
              go_wp2_with fail
              go_roundw
              case rel => exact ⟨i + 1, q + N, (q : Int) + (N : Int), true, by omega, by omega, by omega, by omega, by first | rfl | (simp; omega), rfl, by go_num, HNX, .inr ⟨by omega, fun h => by cases h⟩, hbk2, hbt2⟩
              case measure => simp [intOf]; omega
            · have q7 : ((N : Int) == 64) = false := by simp; omega
              have hto : Hid (Touch x b n' (q + N) ((q : Int) + (N : Int)) false) := .inr ⟨by omega, fun _ hl => by
                have := runF_end (x := x) (b := b) 64 q (by rw [HRN.out]; omega) (by rw [HRN.out]; omega)
                rw [HRN.out] at this
                exact this⟩
              go_wp2_with fail
              go_roundw
              case rel => exact ⟨i + 1, q + N, (q : Int) + (N : Int), false, by omega, by omega, by omega, by omega, rfl, rfl, by go_num, HNX, hto, hbk2, hbt2⟩
              case measure => simp [intOf]; omega
set_option maxHeartbeats 64000000 in
theorem law_DiffLeast (A : Option Addr) (n c : Nat) (a : List UInt8) (A' : Option Addr) (n' c' : Nat) (b : List UInt8) (w : World) (h : Sl w A n c a) (h' : Sl w A' n' c' b) :
    Calls Try.prog 3 #[.slice A n c, .slice A' n' c'] w fun e w' => e = .returned (.bool true) ∧ Ext w w' := by
  have h63 := h.n63
  have h63' := h'.n63
  have hal := h.len
  have hbl := h'.len
  by_cases t1 : 512 < n
  · 
    obtain ⟨R, hR⟩ : ∃ R, bytesL a b = R := ⟨_, rfl⟩
    have hR0 : R = [] := by rw [← hR]; exact bytes_long (.inl (by omega))
    subst hR0
    have HR := Lib.hid hR
    clear hR
    go_enter Try.func3, Try.ntmps3
    go_wp2_with fail
    refine (diff_BytesF h h' HR).mono ?_
    rintro e w1 ⟨A3, n3, c3, rfl, la, g1⟩
    obtain rfl : 0 = n3 := la.len
    go_wp2_with fail
    refine (law15_known _).mono ?_
    rintro e w2 ⟨rfl, hx1⟩
    go_wp2_with fail
    go_ret
    exact ⟨rfl, g1.trans hx1⟩
  by_cases t2 : 512 < n'
  · 
    obtain ⟨R, hR⟩ : ∃ R, bytesL a b = R := ⟨_, rfl⟩
    have hR0 : R = [] := by rw [← hR]; exact bytes_long (.inr (by omega))
    subst hR0
    have HR := Lib.hid hR
    clear hR
    go_enter Try.func3, Try.ntmps3
    go_wp2_with fail
    refine (diff_BytesF h h' HR).mono ?_
    rintro e w1 ⟨A3, n3, c3, rfl, la, g1⟩
    obtain rfl : 0 = n3 := la.len
    go_wp2_with fail
    refine (law15_known _).mono ?_
    rintro e w2 ⟨rfl, hx1⟩
    go_wp2_with fail
    go_ret
    exact ⟨rfl, g1.trans hx1⟩
  by_cases hnn : n = n'
  · exact least_same A n c a A' n' c' b w h h' t1 t2 hnn
  · exact least_other A n c a A' n' c' b w h h' t1 t2 hnn
end Go.Proofs.Ytcklkjklepmabaa
