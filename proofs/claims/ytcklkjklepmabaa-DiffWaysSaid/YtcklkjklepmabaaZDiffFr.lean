/-
  The way from bytes to others: the program's Bytes once more, told too that its events lie in memory of their own.
-/
import Derived.Test.YtcklkjklepmabaaZDiff
namespace Go.Proofs.Ytcklkjklepmabaa
open Go.RowKit
set_option linter.unusedVariables false
set_option linter.unusedSimpArgs false
set_option linter.unnecessarySimpa false
set_option maxRecDepth 100000

/-- elements that lead into blocks from B on alone -/
def frR {α : Type} (R : α → List Value → World → Prop) (B : Nat) (x : α) (cs : List Value) (w : World) : Prop := R x cs w ∧ ∀ k, Pts cs k → B ≤ k
theorem fr_rep {α : Type} {size : Nat} {R : α → List Value → World → Prop} (hR : Rep size R) (B : Nat) : Rep size (frR R B) where
  len := fun x cs w h => hR.len x cs w h.1
  one := fun x cs w h => hR.one x cs w h.1
  keep := fun x cs w w' h hk => ⟨hR.keep x cs w w' h.1 hk, h.2⟩
  lt := fun x cs w h => hR.lt x cs w h.1
set_option maxHeartbeats 4000000 in
theorem diff_BytesF {A : Option Addr} {na ca : Nat} {a : List UInt8} {A' : Option Addr} {nb cb : Nat} {b : List UInt8} {w : World} (ha : Sl w A na ca a) (hb : Sl w A' nb cb b) {R : List Ev} (hR : Hid (bytesL a b = R)) :
    Calls Try.prog 20 #[.slice A na ca, .slice A' nb cb] w fun e w' => ∃ A3 n3 c3, e = .returned (.slice A3 n3 c3) ∧ OwnL TEv 5 (frR evR w.heap.size) w' w.heap.size A3 n3 c3 R ∧ Ext w w' := by
  have h63 := ha.n63
  have h63' := hb.n63
  have hal := ha.len
  have hbl := hb.len
  by_cases t1 : 512 < na
  · obtain rfl : [] = R := by rw [← hR.out, bytes_long (.inl (by omega))]
    clear hR
    go_enter Try.func20, Try.ntmps20
    go_wp2_with fail
    go_ret
    exact ⟨_, _, _, rfl, OwnL.nil _ _ _ _, Ext.refl _⟩
  by_cases t2 : 512 < nb
  · obtain rfl : [] = R := by rw [← hR.out, bytes_long (.inr (by omega))]
    clear hR
    go_enter Try.func20, Try.ntmps20
    go_wp2_with fail
    go_ret
    exact ⟨_, _, _, rfl, OwnL.nil _ _ _ _, Ext.refl _⟩
  obtain ⟨i0, hi0, hz0, hz1, hz2⟩ := info_parts info_ev
  obtain ⟨C, hC, hmk⟩ := make_bytes nb (nb : Int) rfl (by omega)
  have hCs : C.size = nb := by have := congrArg List.length hC; simpa using this
  have hzs : ∀ w : World, Byt U8 (w.alloc (.cells C U8)) w.heap.size (some ⟨w.heap.size, 0, none⟩) nb nb (List.replicate nb (0 : UInt8)) := fun w => by
    have := Own.made w w.heap.size U8 1 C nb nb (Nat.le_refl _) (Nat.le_refl _) (by simp only [maxLen]; omega) (by omega)
    rw [Nat.mul_one, List.take_of_length_le (by rw [Array.length_toList]; omega), hC] at this
    exact ⟨by simp, this⟩
  have hsz8 : (Try.prog.info? U8).map (·.size) = some 1 := by kernel_rfl
  obtain ⟨x, hxx⟩ : ∃ x, sizedL a nb = x := ⟨_, rfl⟩
  by_cases hnn : na = nb
  · have hR2 := hR.out
    rw [bytes_same (by omega) (by omega) (by omega)] at hR2
    rw [hbl, hxx] at hR2
    have HR2 := Lib.hid hR2
    have qn : ((na : Int) != (nb : Int)) = false := by simp; omega
    clear hR hR2 hC hnn
    go_enter Try.func20, Try.ntmps20
    go_wp2_with (first | (fail) | (
      with_reducible refine wpList_copy_byt (w0 := w) rfl (.tmp 31) (.tmp 32) 22 22 rfl U8 under_bytes hsz8 _ nb nb _ 0 _ nb nb rfl (hzs w) (Nat.zero_add _) (fun _ => rfl) _ na ca a rfl (ha.ext (Ext.alloc _ _)) (Ext.alloc _ _) ?_
      intro w2 hbx hx2 hsz2 hkp2))
    rw [show over (List.replicate nb 0) 0 (a.take nb) = sizedL a nb from over_sized a nb, hxx] at hbx
    have hx0 : Ext w w2 := hx2
    have hown0 : OwnL TEv 5 (frR evR w.heap.size) w2 w.heap.size none 0 0 [] := (OwnL.nil _ _ _ _).ext (fr_rep ev_rep w.heap.size) hx2
    obtain ⟨gx, hgx⟩ : ∃ gx, (w).heap.size = gx := ⟨_, rfl⟩
    rw [hgx] at hbx
    have hxl := hbx.len
    have hbx := hbx.low (B' := w.heap.size) (by rw [← hgx]; exact Nat.le_refl _)
    have hne0 : rowOf (none : Option Addr) 0 ≠ some gx := by simp [rowOf]
    clear hx2 hsz2 hkp2
    rw [hgx]
    go_loopw [5, 7] (fun v i wr => ∃ (k m : Nat) (Ak : Option Addr) (ck : Nat) (out : List Ev), k ≤ nb ∧ m ≤ k + 1 ∧ v = .slice Ak m ck ∧ i = .int .i64 k ∧ OwnL TEv 5 (frR evR w.heap.size) wr w.heap.size Ak m ck out ∧ Byt U8 wr w.heap.size (some ⟨gx, 0, none⟩) nb nb x ∧ rowOf Ak ck ≠ some gx ∧ Hid (out ++ wayL x b k = R) ∧ Ext w wr) (fun _ i _ => nb - (intOf i).toNat)
    case atStart => exact ⟨0, _, _, _, _, by omega, by omega, rfl, rfl, hown0, hbx, hne0, HR2, hx0⟩
    case round =>
      obtain ⟨k, m, Ak, ck, out, hk, hm, rfl, rfl, hown, hbk, hne, hrk, hxr⟩ := hrel
      clear hown0 hbx hne0 hx0 HR2
      by_cases hlt : k < nb
      case neg =>
        obtain rfl : out = R := by
          have := hrk.out
          rw [way_end (by omega), List.append_nil] at this
          exact this
        clear hrk
        go_wp2_with fail
        go_ret
        exact ⟨_, _, _, rfl, hown, hxr⟩
      obtain ⟨g1, o1, e1, ax⟩ := hbk.sl.at2 hlt
      injection e1 with e1
      injection e1 with e1 e1'
      subst e1 e1'
      rw [Nat.zero_add] at ax
      obtain ⟨gb, ob, rfl, ab⟩ := hb.at2 hlt
      replace ab := hxr.cell ab
      obtain ⟨px, hpx⟩ : ∃ p, x.getD k 0 = p := ⟨_, rfl⟩
      obtain ⟨pb, hpb⟩ : ∃ p, b.getD k 0 = p := ⟨_, rfl⟩
      rw [hpx] at ax
      rw [hpb] at ab
      by_cases hpp : px = pb
      · have HN := hrk.out
        rw [way_same (by omega) (by rw [hpx, hpb]; exact hpp)] at HN
        have HN := Lib.hid HN
        have q1 : ((px.toNat : Int) == (pb.toNat : Int)) = true := by rw [hpp]; simp
        clear hrk hpx hpb hpp
        go_wp2_with fail
        refine wp_region_typed Ext.steady rfl 82 rfl (by kernel_rfl) ?_
        -- 0: Op.move t6
        apply Stage.step (Is _) [] (Is.keeps _) (by kernel_rfl)
        · intro w1 h1
          simp only [Given]
          go_wp2_with fail
          exact Post.isv (Ext.refl _) rfl rfl rfl
        -- 1: Op.move t7
        apply Stage.step (Is _) [] (Is.keeps _) (by kernel_rfl)
        · intro w1 h1
          simp only [Given]
          go_wp2_with fail
          exact Post.isv (Ext.refl _) rfl rfl rfl
        -- 2: Op.indexAddr 22 t38 t39
        apply Stage.step (Is _) [true, true] (Is.keeps _) (by kernel_rfl)
        · intro w1 h1
          simp only [List.nil_append, List.cons_append, Given]
          rintro _ rfl
          rintro _ rfl
          go_wp2_with fail
          exact Post.isv (Ext.refl _) rfl rfl rfl
        -- 3: Op.load 5 t40
        apply Stage.step (Is _) [false, false, true] (Is.keeps _) (by kernel_rfl)
        · intro w1 h1
          simp only [List.nil_append, List.cons_append, Given]
          rintro _ rfl
          have hq := h1.cell ax
          go_wp2_with fail
          exact Post.isv (Ext.refl _) rfl rfl rfl
        -- 4: Op.move t1
        apply Stage.step (Is _) [] (Is.keeps _) (by kernel_rfl)
        · intro w1 h1
          simp only [Given]
          go_wp2_with fail
          exact Post.isv (Ext.refl _) rfl rfl rfl
        -- 5: Op.move t7
        apply Stage.step (Is _) [] (Is.keeps _) (by kernel_rfl)
        · intro w1 h1
          simp only [Given]
          go_wp2_with fail
          exact Post.isv (Ext.refl _) rfl rfl rfl
        -- 6: Op.indexAddr 22 t42 t43
        apply Stage.step (Is _) [false, false, false, false, true, true] (Is.keeps _) (by kernel_rfl)
        · intro w1 h1
          simp only [List.nil_append, List.cons_append, Given]
          rintro _ rfl
          rintro _ rfl
          go_wp2_with fail
          exact Post.isv (Ext.refl _) rfl rfl rfl
        -- 7: Op.load 5 t44
        apply Stage.step (Is _) [false, false, false, false, false, false, true] (Is.keeps _) (by kernel_rfl)
        · intro w1 h1
          simp only [List.nil_append, List.cons_append, Given]
          rintro _ rfl
          have hq := h1.cell ab
          go_wp2_with fail
          exact Post.isv (Ext.refl _) rfl rfl rfl
        -- 8: Op.binOp BinOp.eql 5 t41 t45 5
        apply Stage.step (Is _) [false, false, false, true, false, false, false, true] (Is.keeps _) (by kernel_rfl)
        · intro w1 h1
          simp only [List.nil_append, List.cons_append, Given]
          rintro _ rfl
          rintro _ rfl
          go_wp2_with fail
          exact Post.isv (Ext.refl _) rfl rfl rfl
        apply Stage.nil
        intro w1 h1
        simp only [List.nil_append, List.cons_append]
        refine Fin.is_ ?_
        refine Fin.is_ ?_
        refine Fin.is_ ?_
        refine Fin.is_ ?_
        refine Fin.is_ ?_
        refine Fin.is_ ?_
        refine Fin.is_ ?_
        refine Fin.is_ ?_
        refine Fin.is_ ?_
        refine Fin.nil_ ?_
        go_simp
        go_wp2_with fail
        go_roundw
        case rel => exact ⟨k + 1, m, Ak, ck, out, by omega, by omega, rfl, by go_num, hown.ext (fr_rep ev_rep w.heap.size) h1, hbk.ext h1, hne, HN, hxr.trans h1⟩
        case measure => simp [intOf]; omega
      · have hdf : x.getD k 0 ≠ b.getD k 0 := by rw [hpx, hpb]; exact hpp
        have HN := hrk.out
        rw [way_diff (by omega) hdf] at HN
        have hrl := runF_le x b 64 k
        have hrp := runF_pos64 (x := x) (b := b) (i := k) (by omega) hdf
        obtain ⟨N, hN⟩ : ∃ N, runF 64 x b k = N := ⟨_, rfl⟩
        rw [hN] at HN hrl hrp
        have hN64 : N ≤ 64 := hrl.1
        have hNb : k + N ≤ nb := by have := hrl.2 (by omega); omega
        have HN := Lib.hid HN
        have HRN := Lib.hid hN
        have q1 : ((px.toNat : Int) == (pb.toNat : Int)) = false := by
          have : px.toNat ≠ pb.toNat := fun e => hpp (UInt8.toNat_inj.1 e)
          simp; omega
        clear hrk hpx hpb hpp hdf hrl hN
        go_wp2_with fail
        refine wp_region_typed Ext.steady rfl 82 rfl (by kernel_rfl) ?_
        -- 0: Op.move t6
        apply Stage.step (Is _) [] (Is.keeps _) (by kernel_rfl)
        · intro w1 h1
          simp only [Given]
          go_wp2_with fail
          exact Post.isv (Ext.refl _) rfl rfl rfl
        -- 1: Op.move t7
        apply Stage.step (Is _) [] (Is.keeps _) (by kernel_rfl)
        · intro w1 h1
          simp only [Given]
          go_wp2_with fail
          exact Post.isv (Ext.refl _) rfl rfl rfl
        -- 2: Op.indexAddr 22 t38 t39
        apply Stage.step (Is _) [true, true] (Is.keeps _) (by kernel_rfl)
        · intro w1 h1
          simp only [List.nil_append, List.cons_append, Given]
          rintro _ rfl
          rintro _ rfl
          go_wp2_with fail
          exact Post.isv (Ext.refl _) rfl rfl rfl
        -- 3: Op.load 5 t40
        apply Stage.step (Is _) [false, false, true] (Is.keeps _) (by kernel_rfl)
        · intro w1 h1
          simp only [List.nil_append, List.cons_append, Given]
          rintro _ rfl
          have hq := h1.cell ax
          go_wp2_with fail
          exact Post.isv (Ext.refl _) rfl rfl rfl
        -- 4: Op.move t1
        apply Stage.step (Is _) [] (Is.keeps _) (by kernel_rfl)
        · intro w1 h1
          simp only [Given]
          go_wp2_with fail
          exact Post.isv (Ext.refl _) rfl rfl rfl
        -- 5: Op.move t7
        apply Stage.step (Is _) [] (Is.keeps _) (by kernel_rfl)
        · intro w1 h1
          simp only [Given]
          go_wp2_with fail
          exact Post.isv (Ext.refl _) rfl rfl rfl
        -- 6: Op.indexAddr 22 t42 t43
        apply Stage.step (Is _) [false, false, false, false, true, true] (Is.keeps _) (by kernel_rfl)
        · intro w1 h1
          simp only [List.nil_append, List.cons_append, Given]
          rintro _ rfl
          rintro _ rfl
          go_wp2_with fail
          exact Post.isv (Ext.refl _) rfl rfl rfl
        -- 7: Op.load 5 t44
        apply Stage.step (Is _) [false, false, false, false, false, false, true] (Is.keeps _) (by kernel_rfl)
        · intro w1 h1
          simp only [List.nil_append, List.cons_append, Given]
          rintro _ rfl
          have hq := h1.cell ab
          go_wp2_with fail
          exact Post.isv (Ext.refl _) rfl rfl rfl
        -- 8: Op.binOp BinOp.eql 5 t41 t45 5
        apply Stage.step (Is _) [false, false, false, true, false, false, false, true] (Is.keeps _) (by kernel_rfl)
        · intro w1 h1
          simp only [List.nil_append, List.cons_append, Given]
          rintro _ rfl
          rintro _ rfl
          go_wp2_with fail
          exact Post.isv (Ext.refl _) rfl rfl rfl
        apply Stage.nil
        intro w1 h1
        simp only [List.nil_append, List.cons_append]
        refine Fin.is_ ?_
        refine Fin.is_ ?_
        refine Fin.is_ ?_
        refine Fin.is_ ?_
        refine Fin.is_ ?_
        refine Fin.is_ ?_
        refine Fin.is_ ?_
        refine Fin.is_ ?_
        refine Fin.is_ ?_
        refine Fin.nil_ ?_
        go_simp
        go_wp2_with fail
        replace hown := hown.ext (fr_rep ev_rep w.heap.size) h1
        replace hbk := hbk.ext h1
        replace hxr := hxr.trans h1
        clear ax ab h1
        have hy0 := Ext.refl w1
        go_loopw [8] (fun i wr => ∃ j : Nat, j ≤ N ∧ i = .int .i64 ((k : Int) + (j : Int)) ∧ Ext w1 wr) (fun i _ => k + N - (intOf i).toNat)
        case atStart => exact ⟨0, by omega, by simp, Ext.refl _⟩
        case round =>
          obtain ⟨j, hj, rfl, hy⟩ := hrel
          clear hy0
          by_cases hjN : j < N
          · obtain ⟨r1, r2⟩ := runF_in (x := x) (b := b) 64 k j (by rw [HRN.out]; exact hjN)
            have hkj : k + j < nb := by omega
            obtain ⟨g1, o1, e1, ax⟩ := hbk.sl.at2 hkj
            injection e1 with e1
            injection e1 with e1 e1'
            subst e1 e1'
            rw [Nat.zero_add] at ax
            obtain ⟨gb', ob', e2, ab⟩ := hb.at2 hkj
            injection e2 with e2
            injection e2 with e2 e2'
            subst e2 e2'
            replace ab := hxr.cell ab
            replace ab := hy.cell ab
            replace ax := hy.cell ax
            obtain ⟨px, hpx⟩ : ∃ p, x.getD (k + j) 0 = p := ⟨_, rfl⟩
            obtain ⟨pb, hpb⟩ : ∃ p, b.getD (k + j) 0 = p := ⟨_, rfl⟩
            rw [hpx] at ax
            rw [hpb] at ab
            rw [hpx, hpb] at r2
            have q1 : ((px.toNat : Int) != (pb.toNat : Int)) = true := by
              have : px.toNat ≠ pb.toNat := fun e => r2 (UInt8.toNat_inj.1 e)
              simp; omega
            have q2 : decide ((k : Int) + (j : Int) < (nb : Int)) = true := by simp; omega
            have q2' : decide (k + j < nb) = true := by simp; omega
            have q3 : decide ((j : Int) < 64) = true := by simp; omega
            have q3' : decide (j < 64) = true := by simp; omega
            have q3'' : decide ((k : Int) + (j : Int) < (k : Int) + 64) = true := by simp; omega
            clear r1 r2 hpx hpb
            go_wp2_with fail
            refine wp_region_typed Ext.steady rfl 82 rfl (by kernel_rfl) ?_
            -- 0: Op.move t8
            apply Stage.step (Is _) [] (Is.keeps _) (by kernel_rfl)
            · intro w1 h1
              simp only [Given]
              go_wp2_with fail
              exact Post.isv (Ext.refl _) rfl rfl rfl
            -- 1: Op.move t1
            apply Stage.step (Is _) [] (Is.keeps _) (by kernel_rfl)
            · intro w1 h1
              simp only [Given]
              go_wp2_with fail
              exact Post.isv (Ext.refl _) rfl rfl rfl
            -- 2: Op.call { builtin len, args := #[t51], argTypes := #[22] }
            apply Stage.step (Is _) [false, true] (Is.keeps _) (by kernel_rfl)
            · intro w1 h1
              simp only [List.nil_append, List.cons_append, Given]
              rintro _ rfl
              go_wp2_with fail
              exact Post.isv (Ext.refl _) rfl rfl rfl
            -- 3: Op.binOp BinOp.lss 3 t50 t52 3
            apply Stage.step (Is _) [true, false, true] (Is.keeps _) (by kernel_rfl)
            · intro w1 h1
              simp only [List.nil_append, List.cons_append, Given]
              rintro _ rfl
              rintro _ rfl
              go_wp2_with fail
              exact Post.isv (Ext.refl _) rfl rfl rfl
            -- 4: Op.move t53
            apply Stage.step (Is _) [false, false, false, true] (Is.keeps _) (by kernel_rfl)
            · intro w1 h1
              simp only [List.nil_append, List.cons_append, Given]
              rintro _ rfl
              go_wp2_with fail
              exact Post.isv (Ext.refl _) rfl rfl rfl
            -- 5: Op.move t8   [guarded: some (4, true)]
            apply Stage.step (Is _) [false, false, false, false, true] (Is.keeps _) (by kernel_rfl)
            · intro w1 h1
              simp only [List.nil_append, List.cons_append, Given]
              rintro _ rfl
              go_wp2_with fail
              exact Post.isv (Ext.refl _) rfl rfl rfl
            -- 6: Op.move t7   [guarded: some (4, true)]
            apply Stage.step (Is _) [false, false, false, false, true] (Is.keeps _) (by kernel_rfl)
            · intro w1 h1
              simp only [List.nil_append, List.cons_append, Given]
              rintro _ rfl
              go_wp2_with fail
              exact Post.isv (Ext.refl _) rfl rfl rfl
            -- 7: Op.binOp BinOp.add 3 t56 (const (64:i64)) 3   [guarded: some (4, true)]
            apply Stage.step (Is _) [false, false, false, false, true, false, true] (Is.keeps _) (by kernel_rfl)
            · intro w1 h1
              simp only [List.nil_append, List.cons_append, Given]
              rintro _ rfl
              rintro _ rfl
              go_wp2_with fail
              exact Post.isv (Ext.refl _) rfl rfl rfl
            -- 8: Op.binOp BinOp.lss 3 t55 t57 3   [guarded: some (4, true)]
            apply Stage.step (Is _) [false, false, false, false, true, true, false, true] (Is.keeps _) (by kernel_rfl)
            · intro w1 h1
              simp only [List.nil_append, List.cons_append, Given]
              rintro _ rfl
              rintro _ rfl
              rintro _ rfl
              go_wp2_with fail
              exact Post.isv (Ext.refl _) rfl rfl rfl
            -- 9: Op.pick t54 t58 (const (Value.bool false))
            apply Stage.step (Is _) [false, false, false, false, true, false, false, false, true] (Is.keeps _) (by kernel_rfl)
            · intro w1 h1
              simp only [List.nil_append, List.cons_append, Given]
              rintro _ rfl
              rintro _ rfl
              go_wp2_with fail
              exact Post.isv (Ext.refl _) rfl rfl rfl
            -- 10: Op.move t59
            apply Stage.step (Is _) [false, false, false, false, false, false, false, false, false, true] (Is.keeps _) (by kernel_rfl)
            · intro w1 h1
              simp only [List.nil_append, List.cons_append, Given]
              rintro _ rfl
              go_wp2_with fail
              exact Post.isv (Ext.refl _) rfl rfl rfl
            -- 11: Op.move t6   [guarded: some (10, true)]
            apply Stage.step (Is _) [false, false, false, false, false, false, false, false, false, false, true] (Is.keeps _) (by kernel_rfl)
            · intro w1 h1
              simp only [List.nil_append, List.cons_append, Given]
              rintro _ rfl
              go_wp2_with fail
              exact Post.isv (Ext.refl _) rfl rfl rfl
            -- 12: Op.move t8   [guarded: some (10, true)]
            apply Stage.step (Is _) [false, false, false, false, false, false, false, false, false, false, true] (Is.keeps _) (by kernel_rfl)
            · intro w1 h1
              simp only [List.nil_append, List.cons_append, Given]
              rintro _ rfl
              go_wp2_with fail
              exact Post.isv (Ext.refl _) rfl rfl rfl
            -- 13: Op.indexAddr 22 t61 t62   [guarded: some (10, true)]
            apply Stage.step (Is _) [false, false, false, false, false, false, false, false, false, false, true, true, true] (Is.keeps _) (by kernel_rfl)
            · intro w1 h1
              simp only [List.nil_append, List.cons_append, Given]
              rintro _ rfl
              rintro _ rfl
              rintro _ rfl
              go_wp2_with fail
              exact Post.isv (Ext.refl _) rfl rfl rfl
            -- 14: Op.load 5 t63   [guarded: some (10, true)]
            apply Stage.step (Is _) [false, false, false, false, false, false, false, false, false, false, true, false, false, true] (Is.keeps _) (by kernel_rfl)
            · intro w1 h1
              simp only [List.nil_append, List.cons_append, Given]
              rintro _ rfl
              rintro _ rfl
              have hq := h1.cell ax
              go_wp2_with fail
              exact Post.isv (Ext.refl _) rfl rfl rfl
            -- 15: Op.move t1   [guarded: some (10, true)]
            apply Stage.step (Is _) [false, false, false, false, false, false, false, false, false, false, true] (Is.keeps _) (by kernel_rfl)
            · intro w1 h1
              simp only [List.nil_append, List.cons_append, Given]
              rintro _ rfl
              go_wp2_with fail
              exact Post.isv (Ext.refl _) rfl rfl rfl
            -- 16: Op.move t8   [guarded: some (10, true)]
            apply Stage.step (Is _) [false, false, false, false, false, false, false, false, false, false, true] (Is.keeps _) (by kernel_rfl)
            · intro w1 h1
              simp only [List.nil_append, List.cons_append, Given]
              rintro _ rfl
              go_wp2_with fail
              exact Post.isv (Ext.refl _) rfl rfl rfl
            -- 17: Op.indexAddr 22 t65 t66   [guarded: some (10, true)]
            apply Stage.step (Is _) [false, false, false, false, false, false, false, false, false, false, true, false, false, false, false, true, true] (Is.keeps _) (by kernel_rfl)
            · intro w1 h1
              simp only [List.nil_append, List.cons_append, Given]
              rintro _ rfl
              rintro _ rfl
              rintro _ rfl
              go_wp2_with fail
              exact Post.isv (Ext.refl _) rfl rfl rfl
            -- 18: Op.load 5 t67   [guarded: some (10, true)]
            apply Stage.step (Is _) [false, false, false, false, false, false, false, false, false, false, true, false, false, false, false, false, false, true] (Is.keeps _) (by kernel_rfl)
            · intro w1 h1
              simp only [List.nil_append, List.cons_append, Given]
              rintro _ rfl
              rintro _ rfl
              have hq := h1.cell ab
              go_wp2_with fail
              exact Post.isv (Ext.refl _) rfl rfl rfl
            -- 19: Op.binOp BinOp.neq 5 t64 t68 5   [guarded: some (10, true)]
            apply Stage.step (Is _) [false, false, false, false, false, false, false, false, false, false, true, false, false, false, true, false, false, false, true] (Is.keeps _) (by kernel_rfl)
            · intro w1 h1
              simp only [List.nil_append, List.cons_append, Given]
              rintro _ rfl
              rintro _ rfl
              rintro _ rfl
              go_wp2_with fail
              exact Post.isv (Ext.refl _) rfl rfl rfl
            -- 20: Op.pick t60 t69 (const (Value.bool false))
            apply Stage.step (Is _) [false, false, false, false, false, false, false, false, false, false, true, false, false, false, false, false, false, false, false, true] (Is.keeps _) (by kernel_rfl)
            · intro w1 h1
              simp only [List.nil_append, List.cons_append, Given]
              rintro _ rfl
              rintro _ rfl
              go_wp2_with fail
              exact Post.isv (Ext.refl _) rfl rfl rfl
            apply Stage.nil
            intro w1 h1
            simp only [List.nil_append, List.cons_append]
            refine Fin.is_ ?_
            refine Fin.is_ ?_
            refine Fin.is_ ?_
            refine Fin.is_ ?_
            refine Fin.is_ ?_
            refine Fin.is_ ?_
            refine Fin.is_ ?_
            refine Fin.is_ ?_
            refine Fin.is_ ?_
            refine Fin.is_ ?_
            refine Fin.is_ ?_
            refine Fin.is_ ?_
            refine Fin.is_ ?_
            refine Fin.is_ ?_
            refine Fin.is_ ?_
            refine Fin.is_ ?_
            refine Fin.is_ ?_
            refine Fin.is_ ?_
            refine Fin.is_ ?_
            refine Fin.is_ ?_
            refine Fin.is_ ?_
            refine Fin.nil_ ?_
            go_simp
            go_wp2_with fail
            go_roundw
            case rel => exact ⟨j + 1, by omega, by go_num, hy.trans h1⟩
            case measure => simp [intOf]; omega
          obtain rfl : N = j := by omega
          by_cases hkN : k + N < nb
          case neg =>
            have q2 : decide ((k : Int) + (N : Int) < (nb : Int)) = false := by simp; omega
            have q2' : decide (k + N < nb) = false := by simp; omega
            go_wp2_with fail
            refine wp_region_typed Ext.steady rfl 82 rfl (by kernel_rfl) ?_
            -- 0: Op.move t8
            apply Stage.step (Is _) [] (Is.keeps _) (by kernel_rfl)
            · intro w1 h1
              simp only [Given]
              go_wp2_with fail
              exact Post.isv (Ext.refl _) rfl rfl rfl
            -- 1: Op.move t1
            apply Stage.step (Is _) [] (Is.keeps _) (by kernel_rfl)
            · intro w1 h1
              simp only [Given]
              go_wp2_with fail
              exact Post.isv (Ext.refl _) rfl rfl rfl
            -- 2: Op.call { builtin len, args := #[t51], argTypes := #[22] }
            apply Stage.step (Is _) [false, true] (Is.keeps _) (by kernel_rfl)
            · intro w1 h1
              simp only [List.nil_append, List.cons_append, Given]
              rintro _ rfl
              go_wp2_with fail
              exact Post.isv (Ext.refl _) rfl rfl rfl
            -- 3: Op.binOp BinOp.lss 3 t50 t52 3
            apply Stage.step (Is _) [true, false, true] (Is.keeps _) (by kernel_rfl)
            · intro w1 h1
              simp only [List.nil_append, List.cons_append, Given]
              rintro _ rfl
              rintro _ rfl
              go_wp2_with fail
              exact Post.isv (Ext.refl _) rfl rfl rfl
            -- 4: Op.move t53
            apply Stage.step (Is _) [false, false, false, true] (Is.keeps _) (by kernel_rfl)
            · intro w1 h1
              simp only [List.nil_append, List.cons_append, Given]
              rintro _ rfl
              go_wp2_with fail
              exact Post.isv (Ext.refl _) rfl rfl rfl
            -- 5: Op.move t8   [guarded: some (4, true)]
            apply Stage.step (Is _) [false, false, false, false, true] (Is.keeps _) (by kernel_rfl)
            · intro w1 h1
              simp only [List.nil_append, List.cons_append, Given]
              rintro _ rfl
              go_wp2_with fail
              exact Post.isv (Ext.refl _) rfl rfl rfl
            -- 6: Op.move t7   [guarded: some (4, true)]
            apply Stage.step (Is _) [false, false, false, false, true] (Is.keeps _) (by kernel_rfl)
            · intro w1 h1
              simp only [List.nil_append, List.cons_append, Given]
              rintro _ rfl
              go_wp2_with fail
              exact Post.isv (Ext.refl _) rfl rfl rfl
            -- 7: Op.binOp BinOp.add 3 t56 (const (64:i64)) 3   [guarded: some (4, true)]
            apply Stage.step (Is _) [false, false, false, false, true, false, true] (Is.keeps _) (by kernel_rfl)
            · intro w1 h1
              simp only [List.nil_append, List.cons_append, Given]
              rintro _ rfl
              rintro _ rfl
              go_wp2_with fail
              exact Post.isv (Ext.refl _) rfl rfl rfl
            -- 8: Op.binOp BinOp.lss 3 t55 t57 3   [guarded: some (4, true)]
            apply Stage.step (Is _) [false, false, false, false, true, true, false, true] (Is.keeps _) (by kernel_rfl)
            · intro w1 h1
              simp only [List.nil_append, List.cons_append, Given]
              rintro _ rfl
              rintro _ rfl
              rintro _ rfl
              go_wp2_with fail
              exact Post.isv (Ext.refl _) rfl rfl rfl
            -- 9: Op.pick t54 t58 (const (Value.bool false))
            apply Stage.step (Is _) [false, false, false, false, true, false, false, false, true] (Is.keeps _) (by kernel_rfl)
            · intro w1 h1
              simp only [List.nil_append, List.cons_append, Given]
              rintro _ rfl
              rintro _ rfl
              go_wp2_with fail
              exact Post.isv (Ext.refl _) rfl rfl rfl
            -- 10: Op.move t59
            apply Stage.step (Is _) [false, false, false, false, false, false, false, false, false, true] (Is.keeps _) (by kernel_rfl)
            · intro w1 h1
              simp only [List.nil_append, List.cons_append, Given]
              rintro _ rfl
              go_wp2_with fail
              exact Post.isv (Ext.refl _) rfl rfl rfl
            -- 11: Op.move t6   [guarded: some (10, true)]
            apply Stage.step (Is _) [false, false, false, false, false, false, false, false, false, false, true] (Is.keeps _) (by kernel_rfl)
            · intro w1 h1
              simp only [List.nil_append, List.cons_append, Given]
              rintro _ rfl
              go_wp2_with fail
              exact Post.isv (Ext.refl _) rfl rfl rfl
            -- 12: Op.move t8   [guarded: some (10, true)]
            apply Stage.step (Is _) [false, false, false, false, false, false, false, false, false, false, true] (Is.keeps _) (by kernel_rfl)
            · intro w1 h1
              simp only [List.nil_append, List.cons_append, Given]
              rintro _ rfl
              go_wp2_with fail
              exact Post.isv (Ext.refl _) rfl rfl rfl
            -- 13: Op.indexAddr 22 t61 t62   [guarded: some (10, true)]
            apply Stage.step (Is _) [false, false, false, false, false, false, false, false, false, false, true, true, true] (Is.keeps _) (by kernel_rfl)
            · intro w1 h1
              simp only [List.nil_append, List.cons_append, Given]
              rintro _ rfl
              rintro _ rfl
              rintro _ rfl
              go_wp2_with fail
              exact Post.isv (Ext.refl _) rfl rfl rfl
            -- 14: Op.load 5 t63   [guarded: some (10, true)]
            apply Stage.step (Is _) [false, false, false, false, false, false, false, false, false, false, true, false, false, true] (Is.keeps _) (by kernel_rfl)
            · intro w1 h1
              simp only [List.nil_append, List.cons_append, Given]
              rintro _ rfl
              rintro _ rfl
              skip
              go_wp2_with fail
              exact Post.isv (Ext.refl _) rfl rfl rfl
            -- 15: Op.move t1   [guarded: some (10, true)]
            apply Stage.step (Is _) [false, false, false, false, false, false, false, false, false, false, true] (Is.keeps _) (by kernel_rfl)
            · intro w1 h1
              simp only [List.nil_append, List.cons_append, Given]
              rintro _ rfl
              go_wp2_with fail
              exact Post.isv (Ext.refl _) rfl rfl rfl
            -- 16: Op.move t8   [guarded: some (10, true)]
            apply Stage.step (Is _) [false, false, false, false, false, false, false, false, false, false, true] (Is.keeps _) (by kernel_rfl)
            · intro w1 h1
              simp only [List.nil_append, List.cons_append, Given]
              rintro _ rfl
              go_wp2_with fail
              exact Post.isv (Ext.refl _) rfl rfl rfl
            -- 17: Op.indexAddr 22 t65 t66   [guarded: some (10, true)]
            apply Stage.step (Is _) [false, false, false, false, false, false, false, false, false, false, true, false, false, false, false, true, true] (Is.keeps _) (by kernel_rfl)
            · intro w1 h1
              simp only [List.nil_append, List.cons_append, Given]
              rintro _ rfl
              rintro _ rfl
              rintro _ rfl
              go_wp2_with fail
              exact Post.isv (Ext.refl _) rfl rfl rfl
            -- 18: Op.load 5 t67   [guarded: some (10, true)]
            apply Stage.step (Is _) [false, false, false, false, false, false, false, false, false, false, true, false, false, false, false, false, false, true] (Is.keeps _) (by kernel_rfl)
            · intro w1 h1
              simp only [List.nil_append, List.cons_append, Given]
              rintro _ rfl
              rintro _ rfl
              skip
              go_wp2_with fail
              exact Post.isv (Ext.refl _) rfl rfl rfl
            -- 19: Op.binOp BinOp.neq 5 t64 t68 5   [guarded: some (10, true)]
            apply Stage.step (Is _) [false, false, false, false, false, false, false, false, false, false, true, false, false, false, true, false, false, false, true] (Is.keeps _) (by kernel_rfl)
            · intro w1 h1
              simp only [List.nil_append, List.cons_append, Given]
              rintro _ rfl
              rintro _ rfl
              rintro _ rfl
              go_wp2_with fail
              exact Post.isv (Ext.refl _) rfl rfl rfl
            -- 20: Op.pick t60 t69 (const (Value.bool false))
            apply Stage.step (Is _) [false, false, false, false, false, false, false, false, false, false, true, false, false, false, false, false, false, false, false, true] (Is.keeps _) (by kernel_rfl)
            · intro w1 h1
              simp only [List.nil_append, List.cons_append, Given]
              rintro _ rfl
              rintro _ rfl
              go_wp2_with fail
              exact Post.isv (Ext.refl _) rfl rfl rfl
            apply Stage.nil
            intro w1 h1
            simp only [List.nil_append, List.cons_append]
            refine Fin.is_ ?_
            refine Fin.is_ ?_
            refine Fin.is_ ?_
            refine Fin.is_ ?_
            refine Fin.is_ ?_
            refine Fin.is_ ?_
            refine Fin.is_ ?_
            refine Fin.is_ ?_
            refine Fin.is_ ?_
            refine Fin.is_ ?_
            refine Fin.is_ ?_
            refine Fin.is_ ?_
            refine Fin.is_ ?_
            refine Fin.is_ ?_
            refine Fin.is_ ?_
            refine Fin.is_ ?_
            refine Fin.is_ ?_
            refine Fin.is_ ?_
            refine Fin.is_ ?_
            refine Fin.is_ ?_
            refine Fin.is_ ?_
            refine Fin.nil_ ?_
            go_simp
            replace hy := hy.trans h1
            clear h1
            go_wp2_with fail
            refine (diff_piece (hb.ext (hxr.trans hy)) (i := k) (m := N) hNb (by omega)).mono ?_
            rintro e w3 ⟨A7, n7, c7, rfl, h7, hx7⟩
            obtain ⟨ek, eo, em, el, es, hE⟩ : ∃ ek eo em el es, evAt b k N = ⟨ek, eo, em, el, es⟩ := ⟨_, _, _, _, _, rfl⟩
            have hEs : es.size ≤ maxLen := by
              have : es = (evAt b k N).s := by rw [hE]
              rw [this]
              unfold evAt
              split <;> exact Nat.zero_le _
            rw [hE] at h7 HN
            rw [hE]
            simp only at h7
            have hown3 := (hown.ext (fr_rep ev_rep w.heap.size) hy).ext (fr_rep ev_rep w.heap.size) hx7
            have hbk3 := (hbk.ext hy).ext hx7
            have hfd := Feed.lit (P := Try.prog) (e := 28) (tx := 23) (A := Ak) (c := ck) (fr_rep ev_rep w.heap.size) #[.int .i64 ek, .int .i64 eo, .int .i64 em, .slice A7 n7 c7, .string es] ⟨ek, eo, em, el, es⟩ ⟨⟨A7, n7, c7, rfl, h7.sl, hEs⟩, fun j hj => by
              obtain ⟨ad, q1, q2, q3⟩ := pts_ev hj
              have h4 := h7.fr ad q1 q2
              have h5 := (hxr.trans hy).size
              omega⟩ under_evs (fun j hj e => by
              obtain ⟨ad, q1, q2, q3⟩ := pts_ev hj
              have h4 := h7.fr ad q1 q2
              have h5 := ((hown.ext (fr_rep ev_rep w.heap.size) hy).row_lt j e).2
              omega) rfl
            have hx9 := (hxr.trans hy).trans hx7
            clear hE
            go_wp2_with (
              at_builtin
              refine wpList_append_lst3 (w0 := w) (fr_rep ev_rep w.heap.size) rfl _ _ _ _ rfl TEv i0 _ 64 under_evs hi0 hz0 hz1 hz2 rfl Ak m ck _ rfl (hown3.ext (fr_rep ev_rep w.heap.size) (Ext.alloc _ _)) _ 1 [⟨ek, eo, em, el, es⟩] rfl hfd (m + 1) rfl _ rfl (by simp only [maxLen]; omega) (by omega) (hx9.allocs _) ?_
              intro A3 c3 w5 hb5 hx5 hg5 hr5)
            have hbk5 := (hbk3.ext (Ext.alloc _ _)).grown hg5 hne
            have hne5 : rowOf A3 c3 ≠ some gx := by
              rcases hr5 with hr5 | hr5
              · rw [hr5]; exact hne
              · rw [hr5]
                intro e
                injection e with e
                have h8 := (hbk3.row_lt (by omega)).2
                simp at e
                omega
            have HN2 : Hid ((out ++ [⟨ek, eo, em, el, es⟩]) ++ wayL x b (k + N) = R) := by unfold Hid; rw [List.append_assoc]; exact HN.out
            go_wp2_with fail
            go_roundw
            case rel => exact ⟨k + N, m + 1, A3, c3, _, by omega, by omega, rfl, by go_num, hb5, hbk5, hne5, HN2, hx5⟩
            case measure => simp [intOf]; omega
          have q2 : decide ((k : Int) + (N : Int) < (nb : Int)) = true := by simp; omega
          have q2' : decide (k + N < nb) = true := by simp; omega
          by_cases hN4 : N < 64
          case neg =>
            have q3 : decide ((N : Int) < 64) = false := by simp; omega
            have q3' : decide (N < 64) = false := by simp; omega
            have q3'' : decide ((k : Int) + (N : Int) < (k : Int) + 64) = false := by simp; omega
            go_wp2_with fail
            refine wp_region_typed Ext.steady rfl 82 rfl (by kernel_rfl) ?_
            -- 0: Op.move t8
            apply Stage.step (Is _) [] (Is.keeps _) (by kernel_rfl)
            · intro w1 h1
              simp only [Given]
              go_wp2_with fail
              exact Post.isv (Ext.refl _) rfl rfl rfl
            -- 1: Op.move t1
            apply Stage.step (Is _) [] (Is.keeps _) (by kernel_rfl)
            · intro w1 h1
              simp only [Given]
              go_wp2_with fail
              exact Post.isv (Ext.refl _) rfl rfl rfl
            -- 2: Op.call { builtin len, args := #[t51], argTypes := #[22] }
            apply Stage.step (Is _) [false, true] (Is.keeps _) (by kernel_rfl)
            · intro w1 h1
              simp only [List.nil_append, List.cons_append, Given]
              rintro _ rfl
              go_wp2_with fail
              exact Post.isv (Ext.refl _) rfl rfl rfl
            -- 3: Op.binOp BinOp.lss 3 t50 t52 3
            apply Stage.step (Is _) [true, false, true] (Is.keeps _) (by kernel_rfl)
            · intro w1 h1
              simp only [List.nil_append, List.cons_append, Given]
              rintro _ rfl
              rintro _ rfl
              go_wp2_with fail
              exact Post.isv (Ext.refl _) rfl rfl rfl
            -- 4: Op.move t53
            apply Stage.step (Is _) [false, false, false, true] (Is.keeps _) (by kernel_rfl)
            · intro w1 h1
              simp only [List.nil_append, List.cons_append, Given]
              rintro _ rfl
              go_wp2_with fail
              exact Post.isv (Ext.refl _) rfl rfl rfl
            -- 5: Op.move t8   [guarded: some (4, true)]
            apply Stage.step (Is _) [false, false, false, false, true] (Is.keeps _) (by kernel_rfl)
            · intro w1 h1
              simp only [List.nil_append, List.cons_append, Given]
              rintro _ rfl
              go_wp2_with fail
              exact Post.isv (Ext.refl _) rfl rfl rfl
            -- 6: Op.move t7   [guarded: some (4, true)]
            apply Stage.step (Is _) [false, false, false, false, true] (Is.keeps _) (by kernel_rfl)
            · intro w1 h1
              simp only [List.nil_append, List.cons_append, Given]
              rintro _ rfl
              go_wp2_with fail
              exact Post.isv (Ext.refl _) rfl rfl rfl
            -- 7: Op.binOp BinOp.add 3 t56 (const (64:i64)) 3   [guarded: some (4, true)]
            apply Stage.step (Is _) [false, false, false, false, true, false, true] (Is.keeps _) (by kernel_rfl)
            · intro w1 h1
              simp only [List.nil_append, List.cons_append, Given]
              rintro _ rfl
              rintro _ rfl
              go_wp2_with fail
              exact Post.isv (Ext.refl _) rfl rfl rfl
            -- 8: Op.binOp BinOp.lss 3 t55 t57 3   [guarded: some (4, true)]
            apply Stage.step (Is _) [false, false, false, false, true, true, false, true] (Is.keeps _) (by kernel_rfl)
            · intro w1 h1
              simp only [List.nil_append, List.cons_append, Given]
              rintro _ rfl
              rintro _ rfl
              rintro _ rfl
              go_wp2_with fail
              exact Post.isv (Ext.refl _) rfl rfl rfl
            -- 9: Op.pick t54 t58 (const (Value.bool false))
            apply Stage.step (Is _) [false, false, false, false, true, false, false, false, true] (Is.keeps _) (by kernel_rfl)
            · intro w1 h1
              simp only [List.nil_append, List.cons_append, Given]
              rintro _ rfl
              rintro _ rfl
              go_wp2_with fail
              exact Post.isv (Ext.refl _) rfl rfl rfl
            -- 10: Op.move t59
            apply Stage.step (Is _) [false, false, false, false, false, false, false, false, false, true] (Is.keeps _) (by kernel_rfl)
            · intro w1 h1
              simp only [List.nil_append, List.cons_append, Given]
              rintro _ rfl
              go_wp2_with fail
              exact Post.isv (Ext.refl _) rfl rfl rfl
            -- 11: Op.move t6   [guarded: some (10, true)]
            apply Stage.step (Is _) [false, false, false, false, false, false, false, false, false, false, true] (Is.keeps _) (by kernel_rfl)
            · intro w1 h1
              simp only [List.nil_append, List.cons_append, Given]
              rintro _ rfl
              go_wp2_with fail
              exact Post.isv (Ext.refl _) rfl rfl rfl
            -- 12: Op.move t8   [guarded: some (10, true)]
            apply Stage.step (Is _) [false, false, false, false, false, false, false, false, false, false, true] (Is.keeps _) (by kernel_rfl)
            · intro w1 h1
              simp only [List.nil_append, List.cons_append, Given]
              rintro _ rfl
              go_wp2_with fail
              exact Post.isv (Ext.refl _) rfl rfl rfl
            -- 13: Op.indexAddr 22 t61 t62   [guarded: some (10, true)]
            apply Stage.step (Is _) [false, false, false, false, false, false, false, false, false, false, true, true, true] (Is.keeps _) (by kernel_rfl)
            · intro w1 h1
              simp only [List.nil_append, List.cons_append, Given]
              rintro _ rfl
              rintro _ rfl
              rintro _ rfl
              go_wp2_with fail
              exact Post.isv (Ext.refl _) rfl rfl rfl
            -- 14: Op.load 5 t63   [guarded: some (10, true)]
            apply Stage.step (Is _) [false, false, false, false, false, false, false, false, false, false, true, false, false, true] (Is.keeps _) (by kernel_rfl)
            · intro w1 h1
              simp only [List.nil_append, List.cons_append, Given]
              rintro _ rfl
              rintro _ rfl
              skip
              go_wp2_with fail
              exact Post.isv (Ext.refl _) rfl rfl rfl
            -- 15: Op.move t1   [guarded: some (10, true)]
            apply Stage.step (Is _) [false, false, false, false, false, false, false, false, false, false, true] (Is.keeps _) (by kernel_rfl)
            · intro w1 h1
              simp only [List.nil_append, List.cons_append, Given]
              rintro _ rfl
              go_wp2_with fail
              exact Post.isv (Ext.refl _) rfl rfl rfl
            -- 16: Op.move t8   [guarded: some (10, true)]
            apply Stage.step (Is _) [false, false, false, false, false, false, false, false, false, false, true] (Is.keeps _) (by kernel_rfl)
            · intro w1 h1
              simp only [List.nil_append, List.cons_append, Given]
              rintro _ rfl
              go_wp2_with fail
              exact Post.isv (Ext.refl _) rfl rfl rfl
            -- 17: Op.indexAddr 22 t65 t66   [guarded: some (10, true)]
            apply Stage.step (Is _) [false, false, false, false, false, false, false, false, false, false, true, false, false, false, false, true, true] (Is.keeps _) (by kernel_rfl)
            · intro w1 h1
              simp only [List.nil_append, List.cons_append, Given]
              rintro _ rfl
              rintro _ rfl
              rintro _ rfl
              go_wp2_with fail
              exact Post.isv (Ext.refl _) rfl rfl rfl
            -- 18: Op.load 5 t67   [guarded: some (10, true)]
            apply Stage.step (Is _) [false, false, false, false, false, false, false, false, false, false, true, false, false, false, false, false, false, true] (Is.keeps _) (by kernel_rfl)
            · intro w1 h1
              simp only [List.nil_append, List.cons_append, Given]
              rintro _ rfl
              rintro _ rfl
              skip
              go_wp2_with fail
              exact Post.isv (Ext.refl _) rfl rfl rfl
            -- 19: Op.binOp BinOp.neq 5 t64 t68 5   [guarded: some (10, true)]
            apply Stage.step (Is _) [false, false, false, false, false, false, false, false, false, false, true, false, false, false, true, false, false, false, true] (Is.keeps _) (by kernel_rfl)
            · intro w1 h1
              simp only [List.nil_append, List.cons_append, Given]
              rintro _ rfl
              rintro _ rfl
              rintro _ rfl
              go_wp2_with fail
              exact Post.isv (Ext.refl _) rfl rfl rfl
            -- 20: Op.pick t60 t69 (const (Value.bool false))
            apply Stage.step (Is _) [false, false, false, false, false, false, false, false, false, false, true, false, false, false, false, false, false, false, false, true] (Is.keeps _) (by kernel_rfl)
            · intro w1 h1
              simp only [List.nil_append, List.cons_append, Given]
              rintro _ rfl
              rintro _ rfl
              go_wp2_with fail
              exact Post.isv (Ext.refl _) rfl rfl rfl
            apply Stage.nil
            intro w1 h1
            simp only [List.nil_append, List.cons_append]
            refine Fin.is_ ?_
            refine Fin.is_ ?_
            refine Fin.is_ ?_
            refine Fin.is_ ?_
            refine Fin.is_ ?_
            refine Fin.is_ ?_
            refine Fin.is_ ?_
            refine Fin.is_ ?_
            refine Fin.is_ ?_
            refine Fin.is_ ?_
            refine Fin.is_ ?_
            refine Fin.is_ ?_
            refine Fin.is_ ?_
            refine Fin.is_ ?_
            refine Fin.is_ ?_
            refine Fin.is_ ?_
            refine Fin.is_ ?_
            refine Fin.is_ ?_
            refine Fin.is_ ?_
            refine Fin.is_ ?_
            refine Fin.is_ ?_
            refine Fin.nil_ ?_
            go_simp
            replace hy := hy.trans h1
            clear h1
            go_wp2_with fail
            refine (diff_piece (hb.ext (hxr.trans hy)) (i := k) (m := N) hNb (by omega)).mono ?_
            rintro e w3 ⟨A7, n7, c7, rfl, h7, hx7⟩
            obtain ⟨ek, eo, em, el, es, hE⟩ : ∃ ek eo em el es, evAt b k N = ⟨ek, eo, em, el, es⟩ := ⟨_, _, _, _, _, rfl⟩
            have hEs : es.size ≤ maxLen := by
              have : es = (evAt b k N).s := by rw [hE]
              rw [this]
              unfold evAt
              split <;> exact Nat.zero_le _
            rw [hE] at h7 HN
            rw [hE]
            simp only at h7
            have hown3 := (hown.ext (fr_rep ev_rep w.heap.size) hy).ext (fr_rep ev_rep w.heap.size) hx7
            have hbk3 := (hbk.ext hy).ext hx7
            have hfd := Feed.lit (P := Try.prog) (e := 28) (tx := 23) (A := Ak) (c := ck) (fr_rep ev_rep w.heap.size) #[.int .i64 ek, .int .i64 eo, .int .i64 em, .slice A7 n7 c7, .string es] ⟨ek, eo, em, el, es⟩ ⟨⟨A7, n7, c7, rfl, h7.sl, hEs⟩, fun j hj => by
              obtain ⟨ad, q1, q2, q3⟩ := pts_ev hj
              have h4 := h7.fr ad q1 q2
              have h5 := (hxr.trans hy).size
              omega⟩ under_evs (fun j hj e => by
              obtain ⟨ad, q1, q2, q3⟩ := pts_ev hj
              have h4 := h7.fr ad q1 q2
              have h5 := ((hown.ext (fr_rep ev_rep w.heap.size) hy).row_lt j e).2
              omega) rfl
            have hx9 := (hxr.trans hy).trans hx7
            clear hE
            go_wp2_with (
              at_builtin
              refine wpList_append_lst3 (w0 := w) (fr_rep ev_rep w.heap.size) rfl _ _ _ _ rfl TEv i0 _ 64 under_evs hi0 hz0 hz1 hz2 rfl Ak m ck _ rfl (hown3.ext (fr_rep ev_rep w.heap.size) (Ext.alloc _ _)) _ 1 [⟨ek, eo, em, el, es⟩] rfl hfd (m + 1) rfl _ rfl (by simp only [maxLen]; omega) (by omega) (hx9.allocs _) ?_
              intro A3 c3 w5 hb5 hx5 hg5 hr5)
            have hbk5 := (hbk3.ext (Ext.alloc _ _)).grown hg5 hne
            have hne5 : rowOf A3 c3 ≠ some gx := by
              rcases hr5 with hr5 | hr5
              · rw [hr5]; exact hne
              · rw [hr5]
                intro e
                injection e with e
                have h8 := (hbk3.row_lt (by omega)).2
                simp at e
                omega
            have HN2 : Hid ((out ++ [⟨ek, eo, em, el, es⟩]) ++ wayL x b (k + N) = R) := by unfold Hid; rw [List.append_assoc]; exact HN.out
            go_wp2_with fail
            go_roundw
            case rel => exact ⟨k + N, m + 1, A3, c3, _, by omega, by omega, rfl, by go_num, hb5, hbk5, hne5, HN2, hx5⟩
            case measure => simp [intOf]; omega
          have q3 : decide ((N : Int) < 64) = true := by simp; omega
          have q3' : decide (N < 64) = true := by simp; omega
          have q3'' : decide ((k : Int) + (N : Int) < (k : Int) + 64) = true := by simp; omega
          have r2 := runF_end (x := x) (b := b) 64 k (by rw [HRN.out]; exact hN4) (by rw [HRN.out]; omega)
          rw [HRN.out] at r2
          obtain ⟨g1, o1, e1, ax⟩ := hbk.sl.at2 hkN
          injection e1 with e1
          injection e1 with e1 e1'
          subst e1 e1'
          rw [Nat.zero_add] at ax
          obtain ⟨gb', ob', e2, ab⟩ := hb.at2 hkN
          injection e2 with e2
          injection e2 with e2 e2'
          subst e2 e2'
          replace ab := hxr.cell ab
          replace ab := hy.cell ab
          replace ax := hy.cell ax
          obtain ⟨px, hpx⟩ : ∃ p, x.getD (k + N) 0 = p := ⟨_, rfl⟩
          obtain ⟨pb, hpb⟩ : ∃ p, b.getD (k + N) 0 = p := ⟨_, rfl⟩
          rw [hpx] at ax
          rw [hpb] at ab
          rw [hpx, hpb] at r2
          have q1 : ((px.toNat : Int) != (pb.toNat : Int)) = false := by rw [r2]; simp
          clear r2 hpx hpb
          go_wp2_with fail
          refine wp_region_typed Ext.steady rfl 82 rfl (by kernel_rfl) ?_
          -- 0: Op.move t8
          apply Stage.step (Is _) [] (Is.keeps _) (by kernel_rfl)
          · intro w1 h1
            simp only [Given]
            go_wp2_with fail
            exact Post.isv (Ext.refl _) rfl rfl rfl
          -- 1: Op.move t1
          apply Stage.step (Is _) [] (Is.keeps _) (by kernel_rfl)
          · intro w1 h1
            simp only [Given]
            go_wp2_with fail
            exact Post.isv (Ext.refl _) rfl rfl rfl
          -- 2: Op.call { builtin len, args := #[t51], argTypes := #[22] }
          apply Stage.step (Is _) [false, true] (Is.keeps _) (by kernel_rfl)
          · intro w1 h1
            simp only [List.nil_append, List.cons_append, Given]
            rintro _ rfl
            go_wp2_with fail
            exact Post.isv (Ext.refl _) rfl rfl rfl
          -- 3: Op.binOp BinOp.lss 3 t50 t52 3
          apply Stage.step (Is _) [true, false, true] (Is.keeps _) (by kernel_rfl)
          · intro w1 h1
            simp only [List.nil_append, List.cons_append, Given]
            rintro _ rfl
            rintro _ rfl
            go_wp2_with fail
            exact Post.isv (Ext.refl _) rfl rfl rfl
          -- 4: Op.move t53
          apply Stage.step (Is _) [false, false, false, true] (Is.keeps _) (by kernel_rfl)
          · intro w1 h1
            simp only [List.nil_append, List.cons_append, Given]
            rintro _ rfl
            go_wp2_with fail
            exact Post.isv (Ext.refl _) rfl rfl rfl
          -- 5: Op.move t8   [guarded: some (4, true)]
          apply Stage.step (Is _) [false, false, false, false, true] (Is.keeps _) (by kernel_rfl)
          · intro w1 h1
            simp only [List.nil_append, List.cons_append, Given]
            rintro _ rfl
            go_wp2_with fail
            exact Post.isv (Ext.refl _) rfl rfl rfl
          -- 6: Op.move t7   [guarded: some (4, true)]
          apply Stage.step (Is _) [false, false, false, false, true] (Is.keeps _) (by kernel_rfl)
          · intro w1 h1
            simp only [List.nil_append, List.cons_append, Given]
            rintro _ rfl
            go_wp2_with fail
            exact Post.isv (Ext.refl _) rfl rfl rfl
          -- 7: Op.binOp BinOp.add 3 t56 (const (64:i64)) 3   [guarded: some (4, true)]
          apply Stage.step (Is _) [false, false, false, false, true, false, true] (Is.keeps _) (by kernel_rfl)
          · intro w1 h1
            simp only [List.nil_append, List.cons_append, Given]
            rintro _ rfl
            rintro _ rfl
            go_wp2_with fail
            exact Post.isv (Ext.refl _) rfl rfl rfl
          -- 8: Op.binOp BinOp.lss 3 t55 t57 3   [guarded: some (4, true)]
          apply Stage.step (Is _) [false, false, false, false, true, true, false, true] (Is.keeps _) (by kernel_rfl)
          · intro w1 h1
            simp only [List.nil_append, List.cons_append, Given]
            rintro _ rfl
            rintro _ rfl
            rintro _ rfl
            go_wp2_with fail
            exact Post.isv (Ext.refl _) rfl rfl rfl
          -- 9: Op.pick t54 t58 (const (Value.bool false))
          apply Stage.step (Is _) [false, false, false, false, true, false, false, false, true] (Is.keeps _) (by kernel_rfl)
          · intro w1 h1
            simp only [List.nil_append, List.cons_append, Given]
            rintro _ rfl
            rintro _ rfl
            go_wp2_with fail
            exact Post.isv (Ext.refl _) rfl rfl rfl
          -- 10: Op.move t59
          apply Stage.step (Is _) [false, false, false, false, false, false, false, false, false, true] (Is.keeps _) (by kernel_rfl)
          · intro w1 h1
            simp only [List.nil_append, List.cons_append, Given]
            rintro _ rfl
            go_wp2_with fail
            exact Post.isv (Ext.refl _) rfl rfl rfl
          -- 11: Op.move t6   [guarded: some (10, true)]
          apply Stage.step (Is _) [false, false, false, false, false, false, false, false, false, false, true] (Is.keeps _) (by kernel_rfl)
          · intro w1 h1
            simp only [List.nil_append, List.cons_append, Given]
            rintro _ rfl
            go_wp2_with fail
            exact Post.isv (Ext.refl _) rfl rfl rfl
          -- 12: Op.move t8   [guarded: some (10, true)]
          apply Stage.step (Is _) [false, false, false, false, false, false, false, false, false, false, true] (Is.keeps _) (by kernel_rfl)
          · intro w1 h1
            simp only [List.nil_append, List.cons_append, Given]
            rintro _ rfl
            go_wp2_with fail
            exact Post.isv (Ext.refl _) rfl rfl rfl
          -- 13: Op.indexAddr 22 t61 t62   [guarded: some (10, true)]
          apply Stage.step (Is _) [false, false, false, false, false, false, false, false, false, false, true, true, true] (Is.keeps _) (by kernel_rfl)
          · intro w1 h1
            simp only [List.nil_append, List.cons_append, Given]
            rintro _ rfl
            rintro _ rfl
            rintro _ rfl
            go_wp2_with fail
            exact Post.isv (Ext.refl _) rfl rfl rfl
          -- 14: Op.load 5 t63   [guarded: some (10, true)]
          apply Stage.step (Is _) [false, false, false, false, false, false, false, false, false, false, true, false, false, true] (Is.keeps _) (by kernel_rfl)
          · intro w1 h1
            simp only [List.nil_append, List.cons_append, Given]
            rintro _ rfl
            rintro _ rfl
            have hq := h1.cell ax
            go_wp2_with fail
            exact Post.isv (Ext.refl _) rfl rfl rfl
          -- 15: Op.move t1   [guarded: some (10, true)]
          apply Stage.step (Is _) [false, false, false, false, false, false, false, false, false, false, true] (Is.keeps _) (by kernel_rfl)
          · intro w1 h1
            simp only [List.nil_append, List.cons_append, Given]
            rintro _ rfl
            go_wp2_with fail
            exact Post.isv (Ext.refl _) rfl rfl rfl
          -- 16: Op.move t8   [guarded: some (10, true)]
          apply Stage.step (Is _) [false, false, false, false, false, false, false, false, false, false, true] (Is.keeps _) (by kernel_rfl)
          · intro w1 h1
            simp only [List.nil_append, List.cons_append, Given]
            rintro _ rfl
            go_wp2_with fail
            exact Post.isv (Ext.refl _) rfl rfl rfl
          -- 17: Op.indexAddr 22 t65 t66   [guarded: some (10, true)]
          apply Stage.step (Is _) [false, false, false, false, false, false, false, false, false, false, true, false, false, false, false, true, true] (Is.keeps _) (by kernel_rfl)
          · intro w1 h1
            simp only [List.nil_append, List.cons_append, Given]
            rintro _ rfl
            rintro _ rfl
            rintro _ rfl
            go_wp2_with fail
            exact Post.isv (Ext.refl _) rfl rfl rfl
          -- 18: Op.load 5 t67   [guarded: some (10, true)]
          apply Stage.step (Is _) [false, false, false, false, false, false, false, false, false, false, true, false, false, false, false, false, false, true] (Is.keeps _) (by kernel_rfl)
          · intro w1 h1
            simp only [List.nil_append, List.cons_append, Given]
            rintro _ rfl
            rintro _ rfl
            have hq := h1.cell ab
            go_wp2_with fail
            exact Post.isv (Ext.refl _) rfl rfl rfl
          -- 19: Op.binOp BinOp.neq 5 t64 t68 5   [guarded: some (10, true)]
          apply Stage.step (Is _) [false, false, false, false, false, false, false, false, false, false, true, false, false, false, true, false, false, false, true] (Is.keeps _) (by kernel_rfl)
          · intro w1 h1
            simp only [List.nil_append, List.cons_append, Given]
            rintro _ rfl
            rintro _ rfl
            rintro _ rfl
            go_wp2_with fail
            exact Post.isv (Ext.refl _) rfl rfl rfl
          -- 20: Op.pick t60 t69 (const (Value.bool false))
          apply Stage.step (Is _) [false, false, false, false, false, false, false, false, false, false, true, false, false, false, false, false, false, false, false, true] (Is.keeps _) (by kernel_rfl)
          · intro w1 h1
            simp only [List.nil_append, List.cons_append, Given]
            rintro _ rfl
            rintro _ rfl
            go_wp2_with fail
            exact Post.isv (Ext.refl _) rfl rfl rfl
          apply Stage.nil
          intro w1 h1
          simp only [List.nil_append, List.cons_append]
          refine Fin.is_ ?_
          refine Fin.is_ ?_
          refine Fin.is_ ?_
          refine Fin.is_ ?_
          refine Fin.is_ ?_
          refine Fin.is_ ?_
          refine Fin.is_ ?_
          refine Fin.is_ ?_
          refine Fin.is_ ?_
          refine Fin.is_ ?_
          refine Fin.is_ ?_
          refine Fin.is_ ?_
          refine Fin.is_ ?_
          refine Fin.is_ ?_
          refine Fin.is_ ?_
          refine Fin.is_ ?_
          refine Fin.is_ ?_
          refine Fin.is_ ?_
          refine Fin.is_ ?_
          refine Fin.is_ ?_
          refine Fin.is_ ?_
          refine Fin.nil_ ?_
          go_simp
          replace hy := hy.trans h1
          clear h1 ax ab
          go_wp2_with fail
          refine (diff_piece (hb.ext (hxr.trans hy)) (i := k) (m := N) hNb (by omega)).mono ?_
          rintro e w3 ⟨A7, n7, c7, rfl, h7, hx7⟩
          obtain ⟨ek, eo, em, el, es, hE⟩ : ∃ ek eo em el es, evAt b k N = ⟨ek, eo, em, el, es⟩ := ⟨_, _, _, _, _, rfl⟩
          have hEs : es.size ≤ maxLen := by
            have : es = (evAt b k N).s := by rw [hE]
            rw [this]
            unfold evAt
            split <;> exact Nat.zero_le _
          rw [hE] at h7 HN
          rw [hE]
          simp only at h7
          have hown3 := (hown.ext (fr_rep ev_rep w.heap.size) hy).ext (fr_rep ev_rep w.heap.size) hx7
          have hbk3 := (hbk.ext hy).ext hx7
          have hfd := Feed.lit (P := Try.prog) (e := 28) (tx := 23) (A := Ak) (c := ck) (fr_rep ev_rep w.heap.size) #[.int .i64 ek, .int .i64 eo, .int .i64 em, .slice A7 n7 c7, .string es] ⟨ek, eo, em, el, es⟩ ⟨⟨A7, n7, c7, rfl, h7.sl, hEs⟩, fun j hj => by
            obtain ⟨ad, q1, q2, q3⟩ := pts_ev hj
            have h4 := h7.fr ad q1 q2
            have h5 := (hxr.trans hy).size
            omega⟩ under_evs (fun j hj e => by
            obtain ⟨ad, q1, q2, q3⟩ := pts_ev hj
            have h4 := h7.fr ad q1 q2
            have h5 := ((hown.ext (fr_rep ev_rep w.heap.size) hy).row_lt j e).2
            omega) rfl
          have hx9 := (hxr.trans hy).trans hx7
          clear hE
          go_wp2_with (
            at_builtin
            refine wpList_append_lst3 (w0 := w) (fr_rep ev_rep w.heap.size) rfl _ _ _ _ rfl TEv i0 _ 64 under_evs hi0 hz0 hz1 hz2 rfl Ak m ck _ rfl (hown3.ext (fr_rep ev_rep w.heap.size) (Ext.alloc _ _)) _ 1 [⟨ek, eo, em, el, es⟩] rfl hfd (m + 1) rfl _ rfl (by simp only [maxLen]; omega) (by omega) (hx9.allocs _) ?_
            intro A3 c3 w5 hb5 hx5 hg5 hr5)
          have hbk5 := (hbk3.ext (Ext.alloc _ _)).grown hg5 hne
          have hne5 : rowOf A3 c3 ≠ some gx := by
            rcases hr5 with hr5 | hr5
            · rw [hr5]; exact hne
            · rw [hr5]
              intro e
              injection e with e
              have h8 := (hbk3.row_lt (by omega)).2
              simp at e
              omega
          have HN2 : Hid ((out ++ [⟨ek, eo, em, el, es⟩]) ++ wayL x b (k + N) = R) := by unfold Hid; rw [List.append_assoc]; exact HN.out
          go_wp2_with fail
          go_roundw
          case rel => exact ⟨k + N, m + 1, A3, c3, _, by omega, by omega, rfl, by go_num, hb5, hbk5, hne5, HN2, hx5⟩
          case measure => simp [intOf]; omega
  · have hR2 := hR.out
    rw [bytes_other (by omega) (by omega) (by omega)] at hR2
    rw [hbl, hxx] at hR2
    have HR2 := Lib.hid hR2
    have qn : ((na : Int) != (nb : Int)) = true := by simp; omega
    clear hR hR2 hC hnn
    have hfd0 := Feed.lit (P := Try.prog) (e := 28) (tx := 23) (A := (none : Option Addr)) (c := 0) (fr_rep ev_rep w.heap.size) #[.int .i64 4, .int .i64 0, .int .i64 nb, .slice none 0 0, .string ⟨#[]⟩] ⟨4, 0, nb, [], ⟨#[]⟩⟩ ⟨⟨none, 0, 0, rfl, Sl.nil w, Nat.zero_le _⟩, fun j hj => by
      obtain ⟨ad, q1, _⟩ := pts_ev hj
      cases q1⟩ under_evs (fun j hj e => by simp [rowOf] at e) rfl
    go_enter Try.func20, Try.ntmps20
    go_wp2_with (first | (at_builtin; refine wpList_append_lst3 (w0 := w) (fr_rep ev_rep w.heap.size) rfl (.tmp 22) (.tmp 26) _ _ rfl TEv i0 _ 64 under_evs hi0 hz0 hz1 hz2 rfl none 0 0 [] rfl (OwnL.nil _ _ _ _) _ 1 [⟨4, 0, nb, [], ⟨#[]⟩⟩] rfl hfd0 1 (Nat.zero_add _) _ rfl (by simp only [maxLen]; omega) (by omega) (Ext.alloc _ _) ?_; intro A0 c0 w3 hb3 hx3 hg3 hr3) | (
      with_reducible refine wpList_copy_byt (w0 := w3) rfl (.tmp 31) (.tmp 32) 22 22 rfl U8 under_bytes hsz8 _ nb nb _ 0 _ nb nb rfl (hzs w3) (Nat.zero_add _) (fun _ => rfl) _ na ca a rfl ((ha.ext hx3).ext (Ext.alloc _ _)) (Ext.alloc _ _) ?_
      intro w2 hbx hx2 hsz2 hkp2))
    rw [show over (List.replicate nb 0) 0 (a.take nb) = sizedL a nb from over_sized a nb, hxx] at hbx
    have hx0 : Ext w w2 := hx3.trans hx2
    have hown0 : OwnL TEv 5 (frR evR w.heap.size) w2 w.heap.size A0 1 c0 [⟨4, 0, nb, [], ⟨#[]⟩⟩] := (hb3).ext (fr_rep ev_rep w.heap.size) hx2
    obtain ⟨gx, hgx⟩ : ∃ gx, (w3).heap.size = gx := ⟨_, rfl⟩
    rw [hgx] at hbx
    have hxl := hbx.len
    have hbx := hbx.low (B' := w.heap.size) (by rw [← hgx]; exact hx3.size)
    have hne0 : rowOf A0 c0 ≠ some gx := by intro e; have := (hb3.row_lt gx e).2; omega
    clear hx2 hsz2 hkp2
    rw [hgx]
    go_loopw [5, 7] (fun v i wr => ∃ (k m : Nat) (Ak : Option Addr) (ck : Nat) (out : List Ev), k ≤ nb ∧ m ≤ k + 1 ∧ v = .slice Ak m ck ∧ i = .int .i64 k ∧ OwnL TEv 5 (frR evR w.heap.size) wr w.heap.size Ak m ck out ∧ Byt U8 wr w.heap.size (some ⟨gx, 0, none⟩) nb nb x ∧ rowOf Ak ck ≠ some gx ∧ Hid (out ++ wayL x b k = R) ∧ Ext w wr) (fun _ i _ => nb - (intOf i).toNat)
    case atStart => exact ⟨0, _, _, _, _, by omega, by omega, rfl, rfl, hown0, hbx, hne0, HR2, hx0⟩
    case round =>
      obtain ⟨k, m, Ak, ck, out, hk, hm, rfl, rfl, hown, hbk, hne, hrk, hxr⟩ := hrel
      clear hown0 hbx hne0 hx0 HR2
      by_cases hlt : k < nb
      case neg =>
        obtain rfl : out = R := by
          have := hrk.out
          rw [way_end (by omega), List.append_nil] at this
          exact this
        clear hrk
        go_wp2_with fail
        go_ret
        exact ⟨_, _, _, rfl, hown, hxr⟩
      obtain ⟨g1, o1, e1, ax⟩ := hbk.sl.at2 hlt
      injection e1 with e1
      injection e1 with e1 e1'
      subst e1 e1'
      rw [Nat.zero_add] at ax
      obtain ⟨gb, ob, rfl, ab⟩ := hb.at2 hlt
      replace ab := hxr.cell ab
      obtain ⟨px, hpx⟩ : ∃ p, x.getD k 0 = p := ⟨_, rfl⟩
      obtain ⟨pb, hpb⟩ : ∃ p, b.getD k 0 = p := ⟨_, rfl⟩
      rw [hpx] at ax
      rw [hpb] at ab
      by_cases hpp : px = pb
      · have HN := hrk.out
        rw [way_same (by omega) (by rw [hpx, hpb]; exact hpp)] at HN
        have HN := Lib.hid HN
        have q1 : ((px.toNat : Int) == (pb.toNat : Int)) = true := by rw [hpp]; simp
        clear hrk hpx hpb hpp
        go_wp2_with fail
        refine wp_region_typed Ext.steady rfl 82 rfl (by kernel_rfl) ?_
        -- 0: Op.move t6
        apply Stage.step (Is _) [] (Is.keeps _) (by kernel_rfl)
        · intro w1 h1
          simp only [Given]
          go_wp2_with fail
          exact Post.isv (Ext.refl _) rfl rfl rfl
        -- 1: Op.move t7
        apply Stage.step (Is _) [] (Is.keeps _) (by kernel_rfl)
        · intro w1 h1
          simp only [Given]
          go_wp2_with fail
          exact Post.isv (Ext.refl _) rfl rfl rfl
        -- 2: Op.indexAddr 22 t38 t39
        apply Stage.step (Is _) [true, true] (Is.keeps _) (by kernel_rfl)
        · intro w1 h1
          simp only [List.nil_append, List.cons_append, Given]
          rintro _ rfl
          rintro _ rfl
          go_wp2_with fail
          exact Post.isv (Ext.refl _) rfl rfl rfl
        -- 3: Op.load 5 t40
        apply Stage.step (Is _) [false, false, true] (Is.keeps _) (by kernel_rfl)
        · intro w1 h1
          simp only [List.nil_append, List.cons_append, Given]
          rintro _ rfl
          have hq := h1.cell ax
          go_wp2_with fail
          exact Post.isv (Ext.refl _) rfl rfl rfl
        -- 4: Op.move t1
        apply Stage.step (Is _) [] (Is.keeps _) (by kernel_rfl)
        · intro w1 h1
          simp only [Given]
          go_wp2_with fail
          exact Post.isv (Ext.refl _) rfl rfl rfl
        -- 5: Op.move t7
        apply Stage.step (Is _) [] (Is.keeps _) (by kernel_rfl)
        · intro w1 h1
          simp only [Given]
          go_wp2_with fail
          exact Post.isv (Ext.refl _) rfl rfl rfl
        -- 6: Op.indexAddr 22 t42 t43
        apply Stage.step (Is _) [false, false, false, false, true, true] (Is.keeps _) (by kernel_rfl)
        · intro w1 h1
          simp only [List.nil_append, List.cons_append, Given]
          rintro _ rfl
          rintro _ rfl
          go_wp2_with fail
          exact Post.isv (Ext.refl _) rfl rfl rfl
        -- 7: Op.load 5 t44
        apply Stage.step (Is _) [false, false, false, false, false, false, true] (Is.keeps _) (by kernel_rfl)
        · intro w1 h1
          simp only [List.nil_append, List.cons_append, Given]
          rintro _ rfl
          have hq := h1.cell ab
          go_wp2_with fail
          exact Post.isv (Ext.refl _) rfl rfl rfl
        -- 8: Op.binOp BinOp.eql 5 t41 t45 5
        apply Stage.step (Is _) [false, false, false, true, false, false, false, true] (Is.keeps _) (by kernel_rfl)
        · intro w1 h1
          simp only [List.nil_append, List.cons_append, Given]
          rintro _ rfl
          rintro _ rfl
          go_wp2_with fail
          exact Post.isv (Ext.refl _) rfl rfl rfl
        apply Stage.nil
        intro w1 h1
        simp only [List.nil_append, List.cons_append]
        refine Fin.is_ ?_
        refine Fin.is_ ?_
        refine Fin.is_ ?_
        refine Fin.is_ ?_
        refine Fin.is_ ?_
        refine Fin.is_ ?_
        refine Fin.is_ ?_
        refine Fin.is_ ?_
        refine Fin.is_ ?_
        refine Fin.nil_ ?_
        go_simp
        go_wp2_with fail
        go_roundw
        case rel => exact ⟨k + 1, m, Ak, ck, out, by omega, by omega, rfl, by go_num, hown.ext (fr_rep ev_rep w.heap.size) h1, hbk.ext h1, hne, HN, hxr.trans h1⟩
        case measure => simp [intOf]; omega
      · have hdf : x.getD k 0 ≠ b.getD k 0 := by rw [hpx, hpb]; exact hpp
        have HN := hrk.out
        rw [way_diff (by omega) hdf] at HN
        have hrl := runF_le x b 64 k
        have hrp := runF_pos64 (x := x) (b := b) (i := k) (by omega) hdf
        obtain ⟨N, hN⟩ : ∃ N, runF 64 x b k = N := ⟨_, rfl⟩
        rw [hN] at HN hrl hrp
        have hN64 : N ≤ 64 := hrl.1
        have hNb : k + N ≤ nb := by have := hrl.2 (by omega); omega
        have HN := Lib.hid HN
        have HRN := Lib.hid hN
        have q1 : ((px.toNat : Int) == (pb.toNat : Int)) = false := by
          have : px.toNat ≠ pb.toNat := fun e => hpp (UInt8.toNat_inj.1 e)
          simp; omega
        clear hrk hpx hpb hpp hdf hrl hN
        go_wp2_with fail
        refine wp_region_typed Ext.steady rfl 82 rfl (by kernel_rfl) ?_
        -- 0: Op.move t6
        apply Stage.step (Is _) [] (Is.keeps _) (by kernel_rfl)
        · intro w1 h1
          simp only [Given]
          go_wp2_with fail
          exact Post.isv (Ext.refl _) rfl rfl rfl
        -- 1: Op.move t7
        apply Stage.step (Is _) [] (Is.keeps _) (by kernel_rfl)
        · intro w1 h1
          simp only [Given]
          go_wp2_with fail
          exact Post.isv (Ext.refl _) rfl rfl rfl
        -- 2: Op.indexAddr 22 t38 t39
        apply Stage.step (Is _) [true, true] (Is.keeps _) (by kernel_rfl)
        · intro w1 h1
          simp only [List.nil_append, List.cons_append, Given]
          rintro _ rfl
          rintro _ rfl
          go_wp2_with fail
          exact Post.isv (Ext.refl _) rfl rfl rfl
        -- 3: Op.load 5 t40
        apply Stage.step (Is _) [false, false, true] (Is.keeps _) (by kernel_rfl)
        · intro w1 h1
          simp only [List.nil_append, List.cons_append, Given]
          rintro _ rfl
          have hq := h1.cell ax
          go_wp2_with fail
          exact Post.isv (Ext.refl _) rfl rfl rfl
        -- 4: Op.move t1
        apply Stage.step (Is _) [] (Is.keeps _) (by kernel_rfl)
        · intro w1 h1
          simp only [Given]
          go_wp2_with fail
          exact Post.isv (Ext.refl _) rfl rfl rfl
        -- 5: Op.move t7
        apply Stage.step (Is _) [] (Is.keeps _) (by kernel_rfl)
        · intro w1 h1
          simp only [Given]
          go_wp2_with fail
          exact Post.isv (Ext.refl _) rfl rfl rfl
        -- 6: Op.indexAddr 22 t42 t43
        apply Stage.step (Is _) [false, false, false, false, true, true] (Is.keeps _) (by kernel_rfl)
        · intro w1 h1
          simp only [List.nil_append, List.cons_append, Given]
          rintro _ rfl
          rintro _ rfl
          go_wp2_with fail
          exact Post.isv (Ext.refl _) rfl rfl rfl
        -- 7: Op.load 5 t44
        apply Stage.step (Is _) [false, false, false, false, false, false, true] (Is.keeps _) (by kernel_rfl)
        · intro w1 h1
          simp only [List.nil_append, List.cons_append, Given]
          rintro _ rfl
          have hq := h1.cell ab
          go_wp2_with fail
          exact Post.isv (Ext.refl _) rfl rfl rfl
        -- 8: Op.binOp BinOp.eql 5 t41 t45 5
        apply Stage.step (Is _) [false, false, false, true, false, false, false, true] (Is.keeps _) (by kernel_rfl)
        · intro w1 h1
          simp only [List.nil_append, List.cons_append, Given]
          rintro _ rfl
          rintro _ rfl
          go_wp2_with fail
          exact Post.isv (Ext.refl _) rfl rfl rfl
        apply Stage.nil
        intro w1 h1
        simp only [List.nil_append, List.cons_append]
        refine Fin.is_ ?_
        refine Fin.is_ ?_
        refine Fin.is_ ?_
        refine Fin.is_ ?_
        refine Fin.is_ ?_
        refine Fin.is_ ?_
        refine Fin.is_ ?_
        refine Fin.is_ ?_
        refine Fin.is_ ?_
        refine Fin.nil_ ?_
        go_simp
        go_wp2_with fail
        replace hown := hown.ext (fr_rep ev_rep w.heap.size) h1
        replace hbk := hbk.ext h1
        replace hxr := hxr.trans h1
        clear ax ab h1
        have hy0 := Ext.refl w1
        go_loopw [8] (fun i wr => ∃ j : Nat, j ≤ N ∧ i = .int .i64 ((k : Int) + (j : Int)) ∧ Ext w1 wr) (fun i _ => k + N - (intOf i).toNat)
        case atStart => exact ⟨0, by omega, by simp, Ext.refl _⟩
        case round =>
          obtain ⟨j, hj, rfl, hy⟩ := hrel
          clear hy0
          by_cases hjN : j < N
          · obtain ⟨r1, r2⟩ := runF_in (x := x) (b := b) 64 k j (by rw [HRN.out]; exact hjN)
            have hkj : k + j < nb := by omega
            obtain ⟨g1, o1, e1, ax⟩ := hbk.sl.at2 hkj
            injection e1 with e1
            injection e1 with e1 e1'
            subst e1 e1'
            rw [Nat.zero_add] at ax
            obtain ⟨gb', ob', e2, ab⟩ := hb.at2 hkj
            injection e2 with e2
            injection e2 with e2 e2'
            subst e2 e2'
            replace ab := hxr.cell ab
            replace ab := hy.cell ab
            replace ax := hy.cell ax
            obtain ⟨px, hpx⟩ : ∃ p, x.getD (k + j) 0 = p := ⟨_, rfl⟩
            obtain ⟨pb, hpb⟩ : ∃ p, b.getD (k + j) 0 = p := ⟨_, rfl⟩
            rw [hpx] at ax
            rw [hpb] at ab
            rw [hpx, hpb] at r2
            have q1 : ((px.toNat : Int) != (pb.toNat : Int)) = true := by
              have : px.toNat ≠ pb.toNat := fun e => r2 (UInt8.toNat_inj.1 e)
              simp; omega
            have q2 : decide ((k : Int) + (j : Int) < (nb : Int)) = true := by simp; omega
            have q2' : decide (k + j < nb) = true := by simp; omega
            have q3 : decide ((j : Int) < 64) = true := by simp; omega
            have q3' : decide (j < 64) = true := by simp; omega
            have q3'' : decide ((k : Int) + (j : Int) < (k : Int) + 64) = true := by simp; omega
            clear r1 r2 hpx hpb
            go_wp2_with fail
            refine wp_region_typed Ext.steady rfl 82 rfl (by kernel_rfl) ?_
            -- 0: Op.move t8
            apply Stage.step (Is _) [] (Is.keeps _) (by kernel_rfl)
            · intro w1 h1
              simp only [Given]
              go_wp2_with fail
              exact Post.isv (Ext.refl _) rfl rfl rfl
            -- 1: Op.move t1
            apply Stage.step (Is _) [] (Is.keeps _) (by kernel_rfl)
            · intro w1 h1
              simp only [Given]
              go_wp2_with fail
              exact Post.isv (Ext.refl _) rfl rfl rfl
            -- 2: Op.call { builtin len, args := #[t51], argTypes := #[22] }
            apply Stage.step (Is _) [false, true] (Is.keeps _) (by kernel_rfl)
            · intro w1 h1
              simp only [List.nil_append, List.cons_append, Given]
              rintro _ rfl
              go_wp2_with fail
              exact Post.isv (Ext.refl _) rfl rfl rfl
            -- 3: Op.binOp BinOp.lss 3 t50 t52 3
            apply Stage.step (Is _) [true, false, true] (Is.keeps _) (by kernel_rfl)
            · intro w1 h1
              simp only [List.nil_append, List.cons_append, Given]
              rintro _ rfl
              rintro _ rfl
              go_wp2_with fail
              exact Post.isv (Ext.refl _) rfl rfl rfl
            -- 4: Op.move t53
            apply Stage.step (Is _) [false, false, false, true] (Is.keeps _) (by kernel_rfl)
            · intro w1 h1
              simp only [List.nil_append, List.cons_append, Given]
              rintro _ rfl
              go_wp2_with fail
              exact Post.isv (Ext.refl _) rfl rfl rfl
            -- 5: Op.move t8   [guarded: some (4, true)]
            apply Stage.step (Is _) [false, false, false, false, true] (Is.keeps _) (by kernel_rfl)
            · intro w1 h1
              simp only [List.nil_append, List.cons_append, Given]
              rintro _ rfl
              go_wp2_with fail
              exact Post.isv (Ext.refl _) rfl rfl rfl
            -- 6: Op.move t7   [guarded: some (4, true)]
            apply Stage.step (Is _) [false, false, false, false, true] (Is.keeps _) (by kernel_rfl)
            · intro w1 h1
              simp only [List.nil_append, List.cons_append, Given]
              rintro _ rfl
              go_wp2_with fail
              exact Post.isv (Ext.refl _) rfl rfl rfl
            -- 7: Op.binOp BinOp.add 3 t56 (const (64:i64)) 3   [guarded: some (4, true)]
            apply Stage.step (Is _) [false, false, false, false, true, false, true] (Is.keeps _) (by kernel_rfl)
            · intro w1 h1
              simp only [List.nil_append, List.cons_append, Given]
              rintro _ rfl
              rintro _ rfl
              go_wp2_with fail
              exact Post.isv (Ext.refl _) rfl rfl rfl
            -- 8: Op.binOp BinOp.lss 3 t55 t57 3   [guarded: some (4, true)]
            apply Stage.step (Is _) [false, false, false, false, true, true, false, true] (Is.keeps _) (by kernel_rfl)
            · intro w1 h1
              simp only [List.nil_append, List.cons_append, Given]
              rintro _ rfl
              rintro _ rfl
              rintro _ rfl
              go_wp2_with fail
              exact Post.isv (Ext.refl _) rfl rfl rfl
            -- 9: Op.pick t54 t58 (const (Value.bool false))
            apply Stage.step (Is _) [false, false, false, false, true, false, false, false, true] (Is.keeps _) (by kernel_rfl)
            · intro w1 h1
              simp only [List.nil_append, List.cons_append, Given]
              rintro _ rfl
              rintro _ rfl
              go_wp2_with fail
              exact Post.isv (Ext.refl _) rfl rfl rfl
            -- 10: Op.move t59
            apply Stage.step (Is _) [false, false, false, false, false, false, false, false, false, true] (Is.keeps _) (by kernel_rfl)
            · intro w1 h1
              simp only [List.nil_append, List.cons_append, Given]
              rintro _ rfl
              go_wp2_with fail
              exact Post.isv (Ext.refl _) rfl rfl rfl
            -- 11: Op.move t6   [guarded: some (10, true)]
            apply Stage.step (Is _) [false, false, false, false, false, false, false, false, false, false, true] (Is.keeps _) (by kernel_rfl)
            · intro w1 h1
              simp only [List.nil_append, List.cons_append, Given]
              rintro _ rfl
              go_wp2_with fail
              exact Post.isv (Ext.refl _) rfl rfl rfl
            -- 12: Op.move t8   [guarded: some (10, true)]
            apply Stage.step (Is _) [false, false, false, false, false, false, false, false, false, false, true] (Is.keeps _) (by kernel_rfl)
            · intro w1 h1
              simp only [List.nil_append, List.cons_append, Given]
              rintro _ rfl
              go_wp2_with fail
              exact Post.isv (Ext.refl _) rfl rfl rfl
            -- 13: Op.indexAddr 22 t61 t62   [guarded: some (10, true)]
            apply Stage.step (Is _) [false, false, false, false, false, false, false, false, false, false, true, true, true] (Is.keeps _) (by kernel_rfl)
            · intro w1 h1
              simp only [List.nil_append, List.cons_append, Given]
              rintro _ rfl
              rintro _ rfl
              rintro _ rfl
              go_wp2_with fail
              exact Post.isv (Ext.refl _) rfl rfl rfl
            -- 14: Op.load 5 t63   [guarded: some (10, true)]
            apply Stage.step (Is _) [false, false, false, false, false, false, false, false, false, false, true, false, false, true] (Is.keeps _) (by kernel_rfl)
            · intro w1 h1
              simp only [List.nil_append, List.cons_append, Given]
              rintro _ rfl
              rintro _ rfl
              have hq := h1.cell ax
              go_wp2_with fail
              exact Post.isv (Ext.refl _) rfl rfl rfl
            -- 15: Op.move t1   [guarded: some (10, true)]
            apply Stage.step (Is _) [false, false, false, false, false, false, false, false, false, false, true] (Is.keeps _) (by kernel_rfl)
            · intro w1 h1
              simp only [List.nil_append, List.cons_append, Given]
              rintro _ rfl
              go_wp2_with fail
              exact Post.isv (Ext.refl _) rfl rfl rfl
            -- 16: Op.move t8   [guarded: some (10, true)]
            apply Stage.step (Is _) [false, false, false, false, false, false, false, false, false, false, true] (Is.keeps _) (by kernel_rfl)
            · intro w1 h1
              simp only [List.nil_append, List.cons_append, Given]
              rintro _ rfl
              go_wp2_with fail
              exact Post.isv (Ext.refl _) rfl rfl rfl
            -- 17: Op.indexAddr 22 t65 t66   [guarded: some (10, true)]
            apply Stage.step (Is _) [false, false, false, false, false, false, false, false, false, false, true, false, false, false, false, true, true] (Is.keeps _) (by kernel_rfl)
            · intro w1 h1
              simp only [List.nil_append, List.cons_append, Given]
              rintro _ rfl
              rintro _ rfl
              rintro _ rfl
              go_wp2_with fail
              exact Post.isv (Ext.refl _) rfl rfl rfl
            -- 18: Op.load 5 t67   [guarded: some (10, true)]
            apply Stage.step (Is _) [false, false, false, false, false, false, false, false, false, false, true, false, false, false, false, false, false, true] (Is.keeps _) (by kernel_rfl)
            · intro w1 h1
              simp only [List.nil_append, List.cons_append, Given]
              rintro _ rfl
              rintro _ rfl
              have hq := h1.cell ab
              go_wp2_with fail
              exact Post.isv (Ext.refl _) rfl rfl rfl
            -- 19: Op.binOp BinOp.neq 5 t64 t68 5   [guarded: some (10, true)]
            apply Stage.step (Is _) [false, false, false, false, false, false, false, false, false, false, true, false, false, false, true, false, false, false, true] (Is.keeps _) (by kernel_rfl)
            · intro w1 h1
              simp only [List.nil_append, List.cons_append, Given]
              rintro _ rfl
              rintro _ rfl
              rintro _ rfl
              go_wp2_with fail
              exact Post.isv (Ext.refl _) rfl rfl rfl
            -- 20: Op.pick t60 t69 (const (Value.bool false))
            apply Stage.step (Is _) [false, false, false, false, false, false, false, false, false, false, true, false, false, false, false, false, false, false, false, true] (Is.keeps _) (by kernel_rfl)
            · intro w1 h1
              simp only [List.nil_append, List.cons_append, Given]
              rintro _ rfl
              rintro _ rfl
              go_wp2_with fail
              exact Post.isv (Ext.refl _) rfl rfl rfl
            apply Stage.nil
            intro w1 h1
            simp only [List.nil_append, List.cons_append]
            refine Fin.is_ ?_
            refine Fin.is_ ?_
            refine Fin.is_ ?_
            refine Fin.is_ ?_
            refine Fin.is_ ?_
            refine Fin.is_ ?_
            refine Fin.is_ ?_
            refine Fin.is_ ?_
            refine Fin.is_ ?_
            refine Fin.is_ ?_
            refine Fin.is_ ?_
            refine Fin.is_ ?_
            refine Fin.is_ ?_
            refine Fin.is_ ?_
            refine Fin.is_ ?_
            refine Fin.is_ ?_
            refine Fin.is_ ?_
            refine Fin.is_ ?_
            refine Fin.is_ ?_
            refine Fin.is_ ?_
            refine Fin.is_ ?_
            refine Fin.nil_ ?_
            go_simp
            go_wp2_with fail
            go_roundw
            case rel => exact ⟨j + 1, by omega, by go_num, hy.trans h1⟩
            case measure => simp [intOf]; omega
          obtain rfl : N = j := by omega
          by_cases hkN : k + N < nb
          case neg =>
            have q2 : decide ((k : Int) + (N : Int) < (nb : Int)) = false := by simp; omega
            have q2' : decide (k + N < nb) = false := by simp; omega
            go_wp2_with fail
            refine wp_region_typed Ext.steady rfl 82 rfl (by kernel_rfl) ?_
            -- 0: Op.move t8
            apply Stage.step (Is _) [] (Is.keeps _) (by kernel_rfl)
            · intro w1 h1
              simp only [Given]
              go_wp2_with fail
              exact Post.isv (Ext.refl _) rfl rfl rfl
            -- 1: Op.move t1
            apply Stage.step (Is _) [] (Is.keeps _) (by kernel_rfl)
            · intro w1 h1
              simp only [Given]
              go_wp2_with fail
              exact Post.isv (Ext.refl _) rfl rfl rfl
            -- 2: Op.call { builtin len, args := #[t51], argTypes := #[22] }
            apply Stage.step (Is _) [false, true] (Is.keeps _) (by kernel_rfl)
            · intro w1 h1
              simp only [List.nil_append, List.cons_append, Given]
              rintro _ rfl
              go_wp2_with fail
              exact Post.isv (Ext.refl _) rfl rfl rfl
            -- 3: Op.binOp BinOp.lss 3 t50 t52 3
            apply Stage.step (Is _) [true, false, true] (Is.keeps _) (by kernel_rfl)
            · intro w1 h1
              simp only [List.nil_append, List.cons_append, Given]
              rintro _ rfl
              rintro _ rfl
              go_wp2_with fail
              exact Post.isv (Ext.refl _) rfl rfl rfl
            -- 4: Op.move t53
            apply Stage.step (Is _) [false, false, false, true] (Is.keeps _) (by kernel_rfl)
            · intro w1 h1
              simp only [List.nil_append, List.cons_append, Given]
              rintro _ rfl
              go_wp2_with fail
              exact Post.isv (Ext.refl _) rfl rfl rfl
            -- 5: Op.move t8   [guarded: some (4, true)]
            apply Stage.step (Is _) [false, false, false, false, true] (Is.keeps _) (by kernel_rfl)
            · intro w1 h1
              simp only [List.nil_append, List.cons_append, Given]
              rintro _ rfl
              go_wp2_with fail
              exact Post.isv (Ext.refl _) rfl rfl rfl
            -- 6: Op.move t7   [guarded: some (4, true)]
            apply Stage.step (Is _) [false, false, false, false, true] (Is.keeps _) (by kernel_rfl)
            · intro w1 h1
              simp only [List.nil_append, List.cons_append, Given]
              rintro _ rfl
              go_wp2_with fail
              exact Post.isv (Ext.refl _) rfl rfl rfl
            -- 7: Op.binOp BinOp.add 3 t56 (const (64:i64)) 3   [guarded: some (4, true)]
            apply Stage.step (Is _) [false, false, false, false, true, false, true] (Is.keeps _) (by kernel_rfl)
            · intro w1 h1
              simp only [List.nil_append, List.cons_append, Given]
              rintro _ rfl
              rintro _ rfl
              go_wp2_with fail
              exact Post.isv (Ext.refl _) rfl rfl rfl
            -- 8: Op.binOp BinOp.lss 3 t55 t57 3   [guarded: some (4, true)]
            apply Stage.step (Is _) [false, false, false, false, true, true, false, true] (Is.keeps _) (by kernel_rfl)
            · intro w1 h1
              simp only [List.nil_append, List.cons_append, Given]
              rintro _ rfl
              rintro _ rfl
              rintro _ rfl
              go_wp2_with fail
              exact Post.isv (Ext.refl _) rfl rfl rfl
            -- 9: Op.pick t54 t58 (const (Value.bool false))
            apply Stage.step (Is _) [false, false, false, false, true, false, false, false, true] (Is.keeps _) (by kernel_rfl)
            · intro w1 h1
              simp only [List.nil_append, List.cons_append, Given]
              rintro _ rfl
              rintro _ rfl
              go_wp2_with fail
              exact Post.isv (Ext.refl _) rfl rfl rfl
            -- 10: Op.move t59
            apply Stage.step (Is _) [false, false, false, false, false, false, false, false, false, true] (Is.keeps _) (by kernel_rfl)
            · intro w1 h1
              simp only [List.nil_append, List.cons_append, Given]
              rintro _ rfl
              go_wp2_with fail
              exact Post.isv (Ext.refl _) rfl rfl rfl
            -- 11: Op.move t6   [guarded: some (10, true)]
            apply Stage.step (Is _) [false, false, false, false, false, false, false, false, false, false, true] (Is.keeps _) (by kernel_rfl)
            · intro w1 h1
              simp only [List.nil_append, List.cons_append, Given]
              rintro _ rfl
              go_wp2_with fail
              exact Post.isv (Ext.refl _) rfl rfl rfl
            -- 12: Op.move t8   [guarded: some (10, true)]
            apply Stage.step (Is _) [false, false, false, false, false, false, false, false, false, false, true] (Is.keeps _) (by kernel_rfl)
            · intro w1 h1
              simp only [List.nil_append, List.cons_append, Given]
              rintro _ rfl
              go_wp2_with fail
              exact Post.isv (Ext.refl _) rfl rfl rfl
            -- 13: Op.indexAddr 22 t61 t62   [guarded: some (10, true)]
            apply Stage.step (Is _) [false, false, false, false, false, false, false, false, false, false, true, true, true] (Is.keeps _) (by kernel_rfl)
            · intro w1 h1
              simp only [List.nil_append, List.cons_append, Given]
              rintro _ rfl
              rintro _ rfl
              rintro _ rfl
              go_wp2_with fail
              exact Post.isv (Ext.refl _) rfl rfl rfl
            -- 14: Op.load 5 t63   [guarded: some (10, true)]
            apply Stage.step (Is _) [false, false, false, false, false, false, false, false, false, false, true, false, false, true] (Is.keeps _) (by kernel_rfl)
            · intro w1 h1
              simp only [List.nil_append, List.cons_append, Given]
              rintro _ rfl
              rintro _ rfl
              skip
              go_wp2_with fail
              exact Post.isv (Ext.refl _) rfl rfl rfl
            -- 15: Op.move t1   [guarded: some (10, true)]
            apply Stage.step (Is _) [false, false, false, false, false, false, false, false, false, false, true] (Is.keeps _) (by kernel_rfl)
            · intro w1 h1
              simp only [List.nil_append, List.cons_append, Given]
              rintro _ rfl
              go_wp2_with fail
              exact Post.isv (Ext.refl _) rfl rfl rfl
            -- 16: Op.move t8   [guarded: some (10, true)]
            apply Stage.step (Is _) [false, false, false, false, false, false, false, false, false, false, true] (Is.keeps _) (by kernel_rfl)
            · intro w1 h1
              simp only [List.nil_append, List.cons_append, Given]
              rintro _ rfl
              go_wp2_with fail
              exact Post.isv (Ext.refl _) rfl rfl rfl
            -- 17: Op.indexAddr 22 t65 t66   [guarded: some (10, true)]
            apply Stage.step (Is _) [false, false, false, false, false, false, false, false, false, false, true, false, false, false, false, true, true] (Is.keeps _) (by kernel_rfl)
            · intro w1 h1
              simp only [List.nil_append, List.cons_append, Given]
              rintro _ rfl
              rintro _ rfl
              rintro _ rfl
              go_wp2_with fail
              exact Post.isv (Ext.refl _) rfl rfl rfl
            -- 18: Op.load 5 t67   [guarded: some (10, true)]
            apply Stage.step (Is _) [false, false, false, false, false, false, false, false, false, false, true, false, false, false, false, false, false, true] (Is.keeps _) (by kernel_rfl)
            · intro w1 h1
              simp only [List.nil_append, List.cons_append, Given]
              rintro _ rfl
              rintro _ rfl
              skip
              go_wp2_with fail
              exact Post.isv (Ext.refl _) rfl rfl rfl
            -- 19: Op.binOp BinOp.neq 5 t64 t68 5   [guarded: some (10, true)]
            apply Stage.step (Is _) [false, false, false, false, false, false, false, false, false, false, true, false, false, false, true, false, false, false, true] (Is.keeps _) (by kernel_rfl)
            · intro w1 h1
              simp only [List.nil_append, List.cons_append, Given]
              rintro _ rfl
              rintro _ rfl
              rintro _ rfl
              go_wp2_with fail
              exact Post.isv (Ext.refl _) rfl rfl rfl
            -- 20: Op.pick t60 t69 (const (Value.bool false))
            apply Stage.step (Is _) [false, false, false, false, false, false, false, false, false, false, true, false, false, false, false, false, false, false, false, true] (Is.keeps _) (by kernel_rfl)
            · intro w1 h1
              simp only [List.nil_append, List.cons_append, Given]
              rintro _ rfl
              rintro _ rfl
              go_wp2_with fail
              exact Post.isv (Ext.refl _) rfl rfl rfl
            apply Stage.nil
            intro w1 h1
            simp only [List.nil_append, List.cons_append]
            refine Fin.is_ ?_
            refine Fin.is_ ?_
            refine Fin.is_ ?_
            refine Fin.is_ ?_
            refine Fin.is_ ?_
            refine Fin.is_ ?_
            refine Fin.is_ ?_
            refine Fin.is_ ?_
            refine Fin.is_ ?_
            refine Fin.is_ ?_
            refine Fin.is_ ?_
            refine Fin.is_ ?_
            refine Fin.is_ ?_
            refine Fin.is_ ?_
            refine Fin.is_ ?_
            refine Fin.is_ ?_
            refine Fin.is_ ?_
            refine Fin.is_ ?_
            refine Fin.is_ ?_
            refine Fin.is_ ?_
            refine Fin.is_ ?_
            refine Fin.nil_ ?_
            go_simp
            replace hy := hy.trans h1
            clear h1
            go_wp2_with fail
            refine (diff_piece (hb.ext (hxr.trans hy)) (i := k) (m := N) hNb (by omega)).mono ?_
            rintro e w3 ⟨A7, n7, c7, rfl, h7, hx7⟩
            obtain ⟨ek, eo, em, el, es, hE⟩ : ∃ ek eo em el es, evAt b k N = ⟨ek, eo, em, el, es⟩ := ⟨_, _, _, _, _, rfl⟩
            have hEs : es.size ≤ maxLen := by
              have : es = (evAt b k N).s := by rw [hE]
              rw [this]
              unfold evAt
              split <;> exact Nat.zero_le _
            rw [hE] at h7 HN
            rw [hE]
            simp only at h7
            have hown3 := (hown.ext (fr_rep ev_rep w.heap.size) hy).ext (fr_rep ev_rep w.heap.size) hx7
            have hbk3 := (hbk.ext hy).ext hx7
            have hfd := Feed.lit (P := Try.prog) (e := 28) (tx := 23) (A := Ak) (c := ck) (fr_rep ev_rep w.heap.size) #[.int .i64 ek, .int .i64 eo, .int .i64 em, .slice A7 n7 c7, .string es] ⟨ek, eo, em, el, es⟩ ⟨⟨A7, n7, c7, rfl, h7.sl, hEs⟩, fun j hj => by
              obtain ⟨ad, q1, q2, q3⟩ := pts_ev hj
              have h4 := h7.fr ad q1 q2
              have h5 := (hxr.trans hy).size
              omega⟩ under_evs (fun j hj e => by
              obtain ⟨ad, q1, q2, q3⟩ := pts_ev hj
              have h4 := h7.fr ad q1 q2
              have h5 := ((hown.ext (fr_rep ev_rep w.heap.size) hy).row_lt j e).2
              omega) rfl
            have hx9 := (hxr.trans hy).trans hx7
            clear hE
            go_wp2_with (
              at_builtin
              refine wpList_append_lst3 (w0 := w) (fr_rep ev_rep w.heap.size) rfl _ _ _ _ rfl TEv i0 _ 64 under_evs hi0 hz0 hz1 hz2 rfl Ak m ck _ rfl (hown3.ext (fr_rep ev_rep w.heap.size) (Ext.alloc _ _)) _ 1 [⟨ek, eo, em, el, es⟩] rfl hfd (m + 1) rfl _ rfl (by simp only [maxLen]; omega) (by omega) (hx9.allocs _) ?_
              intro A3 c3 w5 hb5 hx5 hg5 hr5)
            have hbk5 := (hbk3.ext (Ext.alloc _ _)).grown hg5 hne
            have hne5 : rowOf A3 c3 ≠ some gx := by
              rcases hr5 with hr5 | hr5
              · rw [hr5]; exact hne
              · rw [hr5]
                intro e
                injection e with e
                have h8 := (hbk3.row_lt (by omega)).2
                simp at e
                omega
            have HN2 : Hid ((out ++ [⟨ek, eo, em, el, es⟩]) ++ wayL x b (k + N) = R) := by unfold Hid; rw [List.append_assoc]; exact HN.out
            go_wp2_with fail
            go_roundw
            case rel => exact ⟨k + N, m + 1, A3, c3, _, by omega, by omega, rfl, by go_num, hb5, hbk5, hne5, HN2, hx5⟩
            case measure => simp [intOf]; omega
          have q2 : decide ((k : Int) + (N : Int) < (nb : Int)) = true := by simp; omega
          have q2' : decide (k + N < nb) = true := by simp; omega
          by_cases hN4 : N < 64
          case neg =>
            have q3 : decide ((N : Int) < 64) = false := by simp; omega
            have q3' : decide (N < 64) = false := by simp; omega
            have q3'' : decide ((k : Int) + (N : Int) < (k : Int) + 64) = false := by simp; omega
            go_wp2_with fail
            refine wp_region_typed Ext.steady rfl 82 rfl (by kernel_rfl) ?_
            -- 0: Op.move t8
            apply Stage.step (Is _) [] (Is.keeps _) (by kernel_rfl)
            · intro w1 h1
              simp only [Given]
              go_wp2_with fail
              exact Post.isv (Ext.refl _) rfl rfl rfl
            -- 1: Op.move t1
            apply Stage.step (Is _) [] (Is.keeps _) (by kernel_rfl)
            · intro w1 h1
              simp only [Given]
              go_wp2_with fail
              exact Post.isv (Ext.refl _) rfl rfl rfl
            -- 2: Op.call { builtin len, args := #[t51], argTypes := #[22] }
            apply Stage.step (Is _) [false, true] (Is.keeps _) (by kernel_rfl)
            · intro w1 h1
              simp only [List.nil_append, List.cons_append, Given]
              rintro _ rfl
              go_wp2_with fail
              exact Post.isv (Ext.refl _) rfl rfl rfl
            -- 3: Op.binOp BinOp.lss 3 t50 t52 3
            apply Stage.step (Is _) [true, false, true] (Is.keeps _) (by kernel_rfl)
            · intro w1 h1
              simp only [List.nil_append, List.cons_append, Given]
              rintro _ rfl
              rintro _ rfl
              go_wp2_with fail
              exact Post.isv (Ext.refl _) rfl rfl rfl
            -- 4: Op.move t53
            apply Stage.step (Is _) [false, false, false, true] (Is.keeps _) (by kernel_rfl)
            · intro w1 h1
              simp only [List.nil_append, List.cons_append, Given]
              rintro _ rfl
              go_wp2_with fail
              exact Post.isv (Ext.refl _) rfl rfl rfl
            -- 5: Op.move t8   [guarded: some (4, true)]
            apply Stage.step (Is _) [false, false, false, false, true] (Is.keeps _) (by kernel_rfl)
            · intro w1 h1
              simp only [List.nil_append, List.cons_append, Given]
              rintro _ rfl
              go_wp2_with fail
              exact Post.isv (Ext.refl _) rfl rfl rfl
            -- 6: Op.move t7   [guarded: some (4, true)]
            apply Stage.step (Is _) [false, false, false, false, true] (Is.keeps _) (by kernel_rfl)
            · intro w1 h1
              simp only [List.nil_append, List.cons_append, Given]
              rintro _ rfl
              go_wp2_with fail
              exact Post.isv (Ext.refl _) rfl rfl rfl
            -- 7: Op.binOp BinOp.add 3 t56 (const (64:i64)) 3   [guarded: some (4, true)]
            apply Stage.step (Is _) [false, false, false, false, true, false, true] (Is.keeps _) (by kernel_rfl)
            · intro w1 h1
              simp only [List.nil_append, List.cons_append, Given]
              rintro _ rfl
              rintro _ rfl
              go_wp2_with fail
              exact Post.isv (Ext.refl _) rfl rfl rfl
            -- 8: Op.binOp BinOp.lss 3 t55 t57 3   [guarded: some (4, true)]
            apply Stage.step (Is _) [false, false, false, false, true, true, false, true] (Is.keeps _) (by kernel_rfl)
            · intro w1 h1
              simp only [List.nil_append, List.cons_append, Given]
              rintro _ rfl
              rintro _ rfl
              rintro _ rfl
              go_wp2_with fail
              exact Post.isv (Ext.refl _) rfl rfl rfl
            -- 9: Op.pick t54 t58 (const (Value.bool false))
            apply Stage.step (Is _) [false, false, false, false, true, false, false, false, true] (Is.keeps _) (by kernel_rfl)
            · intro w1 h1
              simp only [List.nil_append, List.cons_append, Given]
              rintro _ rfl
              rintro _ rfl
              go_wp2_with fail
              exact Post.isv (Ext.refl _) rfl rfl rfl
            -- 10: Op.move t59
            apply Stage.step (Is _) [false, false, false, false, false, false, false, false, false, true] (Is.keeps _) (by kernel_rfl)
            · intro w1 h1
              simp only [List.nil_append, List.cons_append, Given]
              rintro _ rfl
              go_wp2_with fail
              exact Post.isv (Ext.refl _) rfl rfl rfl
            -- 11: Op.move t6   [guarded: some (10, true)]
            apply Stage.step (Is _) [false, false, false, false, false, false, false, false, false, false, true] (Is.keeps _) (by kernel_rfl)
            · intro w1 h1
              simp only [List.nil_append, List.cons_append, Given]
              rintro _ rfl
              go_wp2_with fail
              exact Post.isv (Ext.refl _) rfl rfl rfl
            -- 12: Op.move t8   [guarded: some (10, true)]
            apply Stage.step (Is _) [false, false, false, false, false, false, false, false, false, false, true] (Is.keeps _) (by kernel_rfl)
            · intro w1 h1
              simp only [List.nil_append, List.cons_append, Given]
              rintro _ rfl
              go_wp2_with fail
              exact Post.isv (Ext.refl _) rfl rfl rfl
            -- 13: Op.indexAddr 22 t61 t62   [guarded: some (10, true)]
            apply Stage.step (Is _) [false, false, false, false, false, false, false, false, false, false, true, true, true] (Is.keeps _) (by kernel_rfl)
            · intro w1 h1
              simp only [List.nil_append, List.cons_append, Given]
              rintro _ rfl
              rintro _ rfl
              rintro _ rfl
              go_wp2_with fail
              exact Post.isv (Ext.refl _) rfl rfl rfl
            -- 14: Op.load 5 t63   [guarded: some (10, true)]
            apply Stage.step (Is _) [false, false, false, false, false, false, false, false, false, false, true, false, false, true] (Is.keeps _) (by kernel_rfl)
            · intro w1 h1
              simp only [List.nil_append, List.cons_append, Given]
              rintro _ rfl
              rintro _ rfl
              skip
              go_wp2_with fail
              exact Post.isv (Ext.refl _) rfl rfl rfl
            -- 15: Op.move t1   [guarded: some (10, true)]
            apply Stage.step (Is _) [false, false, false, false, false, false, false, false, false, false, true] (Is.keeps _) (by kernel_rfl)
            · intro w1 h1
              simp only [List.nil_append, List.cons_append, Given]
              rintro _ rfl
              go_wp2_with fail
              exact Post.isv (Ext.refl _) rfl rfl rfl
            -- 16: Op.move t8   [guarded: some (10, true)]
            apply Stage.step (Is _) [false, false, false, false, false, false, false, false, false, false, true] (Is.keeps _) (by kernel_rfl)
            · intro w1 h1
              simp only [List.nil_append, List.cons_append, Given]
              rintro _ rfl
              go_wp2_with fail
              exact Post.isv (Ext.refl _) rfl rfl rfl
            -- 17: Op.indexAddr 22 t65 t66   [guarded: some (10, true)]
            apply Stage.step (Is _) [false, false, false, false, false, false, false, false, false, false, true, false, false, false, false, true, true] (Is.keeps _) (by kernel_rfl)
            · intro w1 h1
              simp only [List.nil_append, List.cons_append, Given]
              rintro _ rfl
              rintro _ rfl
              rintro _ rfl
              go_wp2_with fail
              exact Post.isv (Ext.refl _) rfl rfl rfl
            -- 18: Op.load 5 t67   [guarded: some (10, true)]
            apply Stage.step (Is _) [false, false, false, false, false, false, false, false, false, false, true, false, false, false, false, false, false, true] (Is.keeps _) (by kernel_rfl)
            · intro w1 h1
              simp only [List.nil_append, List.cons_append, Given]
              rintro _ rfl
              rintro _ rfl
              skip
              go_wp2_with fail
              exact Post.isv (Ext.refl _) rfl rfl rfl
            -- 19: Op.binOp BinOp.neq 5 t64 t68 5   [guarded: some (10, true)]
            apply Stage.step (Is _) [false, false, false, false, false, false, false, false, false, false, true, false, false, false, true, false, false, false, true] (Is.keeps _) (by kernel_rfl)
            · intro w1 h1
              simp only [List.nil_append, List.cons_append, Given]
              rintro _ rfl
              rintro _ rfl
              rintro _ rfl
              go_wp2_with fail
              exact Post.isv (Ext.refl _) rfl rfl rfl
            -- 20: Op.pick t60 t69 (const (Value.bool false))
            apply Stage.step (Is _) [false, false, false, false, false, false, false, false, false, false, true, false, false, false, false, false, false, false, false, true] (Is.keeps _) (by kernel_rfl)
            · intro w1 h1
              simp only [List.nil_append, List.cons_append, Given]
              rintro _ rfl
              rintro _ rfl
              go_wp2_with fail
              exact Post.isv (Ext.refl _) rfl rfl rfl
            apply Stage.nil
            intro w1 h1
            simp only [List.nil_append, List.cons_append]
            refine Fin.is_ ?_
            refine Fin.is_ ?_
            refine Fin.is_ ?_
            refine Fin.is_ ?_
            refine Fin.is_ ?_
            refine Fin.is_ ?_
            refine Fin.is_ ?_
            refine Fin.is_ ?_
            refine Fin.is_ ?_
            refine Fin.is_ ?_
            refine Fin.is_ ?_
            refine Fin.is_ ?_
            refine Fin.is_ ?_
            refine Fin.is_ ?_
            refine Fin.is_ ?_
            refine Fin.is_ ?_
            refine Fin.is_ ?_
            refine Fin.is_ ?_
            refine Fin.is_ ?_
            refine Fin.is_ ?_
            refine Fin.is_ ?_
            refine Fin.nil_ ?_
            go_simp
            replace hy := hy.trans h1
            clear h1
            go_wp2_with fail
            refine (diff_piece (hb.ext (hxr.trans hy)) (i := k) (m := N) hNb (by omega)).mono ?_
            rintro e w3 ⟨A7, n7, c7, rfl, h7, hx7⟩
            obtain ⟨ek, eo, em, el, es, hE⟩ : ∃ ek eo em el es, evAt b k N = ⟨ek, eo, em, el, es⟩ := ⟨_, _, _, _, _, rfl⟩
            have hEs : es.size ≤ maxLen := by
              have : es = (evAt b k N).s := by rw [hE]
              rw [this]
              unfold evAt
              split <;> exact Nat.zero_le _
            rw [hE] at h7 HN
            rw [hE]
            simp only at h7
            have hown3 := (hown.ext (fr_rep ev_rep w.heap.size) hy).ext (fr_rep ev_rep w.heap.size) hx7
            have hbk3 := (hbk.ext hy).ext hx7
            have hfd := Feed.lit (P := Try.prog) (e := 28) (tx := 23) (A := Ak) (c := ck) (fr_rep ev_rep w.heap.size) #[.int .i64 ek, .int .i64 eo, .int .i64 em, .slice A7 n7 c7, .string es] ⟨ek, eo, em, el, es⟩ ⟨⟨A7, n7, c7, rfl, h7.sl, hEs⟩, fun j hj => by
              obtain ⟨ad, q1, q2, q3⟩ := pts_ev hj
              have h4 := h7.fr ad q1 q2
              have h5 := (hxr.trans hy).size
              omega⟩ under_evs (fun j hj e => by
              obtain ⟨ad, q1, q2, q3⟩ := pts_ev hj
              have h4 := h7.fr ad q1 q2
              have h5 := ((hown.ext (fr_rep ev_rep w.heap.size) hy).row_lt j e).2
              omega) rfl
            have hx9 := (hxr.trans hy).trans hx7
            clear hE
            go_wp2_with (
              at_builtin
              refine wpList_append_lst3 (w0 := w) (fr_rep ev_rep w.heap.size) rfl _ _ _ _ rfl TEv i0 _ 64 under_evs hi0 hz0 hz1 hz2 rfl Ak m ck _ rfl (hown3.ext (fr_rep ev_rep w.heap.size) (Ext.alloc _ _)) _ 1 [⟨ek, eo, em, el, es⟩] rfl hfd (m + 1) rfl _ rfl (by simp only [maxLen]; omega) (by omega) (hx9.allocs _) ?_
              intro A3 c3 w5 hb5 hx5 hg5 hr5)
            have hbk5 := (hbk3.ext (Ext.alloc _ _)).grown hg5 hne
            have hne5 : rowOf A3 c3 ≠ some gx := by
              rcases hr5 with hr5 | hr5
              · rw [hr5]; exact hne
              · rw [hr5]
                intro e
                injection e with e
                have h8 := (hbk3.row_lt (by omega)).2
                simp at e
                omega
            have HN2 : Hid ((out ++ [⟨ek, eo, em, el, es⟩]) ++ wayL x b (k + N) = R) := by unfold Hid; rw [List.append_assoc]; exact HN.out
            go_wp2_with fail
            go_roundw
            case rel => exact ⟨k + N, m + 1, A3, c3, _, by omega, by omega, rfl, by go_num, hb5, hbk5, hne5, HN2, hx5⟩
            case measure => simp [intOf]; omega
          have q3 : decide ((N : Int) < 64) = true := by simp; omega
          have q3' : decide (N < 64) = true := by simp; omega
          have q3'' : decide ((k : Int) + (N : Int) < (k : Int) + 64) = true := by simp; omega
          have r2 := runF_end (x := x) (b := b) 64 k (by rw [HRN.out]; exact hN4) (by rw [HRN.out]; omega)
          rw [HRN.out] at r2
          obtain ⟨g1, o1, e1, ax⟩ := hbk.sl.at2 hkN
          injection e1 with e1
          injection e1 with e1 e1'
          subst e1 e1'
          rw [Nat.zero_add] at ax
          obtain ⟨gb', ob', e2, ab⟩ := hb.at2 hkN
          injection e2 with e2
          injection e2 with e2 e2'
          subst e2 e2'
          replace ab := hxr.cell ab
          replace ab := hy.cell ab
          replace ax := hy.cell ax
          obtain ⟨px, hpx⟩ : ∃ p, x.getD (k + N) 0 = p := ⟨_, rfl⟩
          obtain ⟨pb, hpb⟩ : ∃ p, b.getD (k + N) 0 = p := ⟨_, rfl⟩
          rw [hpx] at ax
          rw [hpb] at ab
          rw [hpx, hpb] at r2
          have q1 : ((px.toNat : Int) != (pb.toNat : Int)) = false := by rw [r2]; simp
          clear r2 hpx hpb
          go_wp2_with fail
          refine wp_region_typed Ext.steady rfl 82 rfl (by kernel_rfl) ?_
          -- 0: Op.move t8
          apply Stage.step (Is _) [] (Is.keeps _) (by kernel_rfl)
          · intro w1 h1
            simp only [Given]
            go_wp2_with fail
            exact Post.isv (Ext.refl _) rfl rfl rfl
          -- 1: Op.move t1
          apply Stage.step (Is _) [] (Is.keeps _) (by kernel_rfl)
          · intro w1 h1
            simp only [Given]
            go_wp2_with fail
            exact Post.isv (Ext.refl _) rfl rfl rfl
          -- 2: Op.call { builtin len, args := #[t51], argTypes := #[22] }
          apply Stage.step (Is _) [false, true] (Is.keeps _) (by kernel_rfl)
          · intro w1 h1
            simp only [List.nil_append, List.cons_append, Given]
            rintro _ rfl
            go_wp2_with fail
            exact Post.isv (Ext.refl _) rfl rfl rfl
          -- 3: Op.binOp BinOp.lss 3 t50 t52 3
          apply Stage.step (Is _) [true, false, true] (Is.keeps _) (by kernel_rfl)
          · intro w1 h1
            simp only [List.nil_append, List.cons_append, Given]
            rintro _ rfl
            rintro _ rfl
            go_wp2_with fail
            exact Post.isv (Ext.refl _) rfl rfl rfl
          -- 4: Op.move t53
          apply Stage.step (Is _) [false, false, false, true] (Is.keeps _) (by kernel_rfl)
          · intro w1 h1
            simp only [List.nil_append, List.cons_append, Given]
            rintro _ rfl
            go_wp2_with fail
            exact Post.isv (Ext.refl _) rfl rfl rfl
          -- 5: Op.move t8   [guarded: some (4, true)]
          apply Stage.step (Is _) [false, false, false, false, true] (Is.keeps _) (by kernel_rfl)
          · intro w1 h1
            simp only [List.nil_append, List.cons_append, Given]
            rintro _ rfl
            go_wp2_with fail
            exact Post.isv (Ext.refl _) rfl rfl rfl
          -- 6: Op.move t7   [guarded: some (4, true)]
          apply Stage.step (Is _) [false, false, false, false, true] (Is.keeps _) (by kernel_rfl)
          · intro w1 h1
            simp only [List.nil_append, List.cons_append, Given]
            rintro _ rfl
            go_wp2_with fail
            exact Post.isv (Ext.refl _) rfl rfl rfl
          -- 7: Op.binOp BinOp.add 3 t56 (const (64:i64)) 3   [guarded: some (4, true)]
          apply Stage.step (Is _) [false, false, false, false, true, false, true] (Is.keeps _) (by kernel_rfl)
          · intro w1 h1
            simp only [List.nil_append, List.cons_append, Given]
            rintro _ rfl
            rintro _ rfl
            go_wp2_with fail
            exact Post.isv (Ext.refl _) rfl rfl rfl
          -- 8: Op.binOp BinOp.lss 3 t55 t57 3   [guarded: some (4, true)]
          apply Stage.step (Is _) [false, false, false, false, true, true, false, true] (Is.keeps _) (by kernel_rfl)
          · intro w1 h1
            simp only [List.nil_append, List.cons_append, Given]
            rintro _ rfl
            rintro _ rfl
            rintro _ rfl
            go_wp2_with fail
            exact Post.isv (Ext.refl _) rfl rfl rfl
          -- 9: Op.pick t54 t58 (const (Value.bool false))
          apply Stage.step (Is _) [false, false, false, false, true, false, false, false, true] (Is.keeps _) (by kernel_rfl)
          · intro w1 h1
            simp only [List.nil_append, List.cons_append, Given]
            rintro _ rfl
            rintro _ rfl
            go_wp2_with fail
            exact Post.isv (Ext.refl _) rfl rfl rfl
          -- 10: Op.move t59
          apply Stage.step (Is _) [false, false, false, false, false, false, false, false, false, true] (Is.keeps _) (by kernel_rfl)
          · intro w1 h1
            simp only [List.nil_append, List.cons_append, Given]
            rintro _ rfl
            go_wp2_with fail
            exact Post.isv (Ext.refl _) rfl rfl rfl
          -- 11: Op.move t6   [guarded: some (10, true)]
          apply Stage.step (Is _) [false, false, false, false, false, false, false, false, false, false, true] (Is.keeps _) (by kernel_rfl)
          · intro w1 h1
            simp only [List.nil_append, List.cons_append, Given]
            rintro _ rfl
            go_wp2_with fail
            exact Post.isv (Ext.refl _) rfl rfl rfl
          -- 12: Op.move t8   [guarded: some (10, true)]
          apply Stage.step (Is _) [false, false, false, false, false, false, false, false, false, false, true] (Is.keeps _) (by kernel_rfl)
          · intro w1 h1
            simp only [List.nil_append, List.cons_append, Given]
            rintro _ rfl
            go_wp2_with fail
            exact Post.isv (Ext.refl _) rfl rfl rfl
          -- 13: Op.indexAddr 22 t61 t62   [guarded: some (10, true)]
          apply Stage.step (Is _) [false, false, false, false, false, false, false, false, false, false, true, true, true] (Is.keeps _) (by kernel_rfl)
          · intro w1 h1
            simp only [List.nil_append, List.cons_append, Given]
            rintro _ rfl
            rintro _ rfl
            rintro _ rfl
            go_wp2_with fail
            exact Post.isv (Ext.refl _) rfl rfl rfl
          -- 14: Op.load 5 t63   [guarded: some (10, true)]
          apply Stage.step (Is _) [false, false, false, false, false, false, false, false, false, false, true, false, false, true] (Is.keeps _) (by kernel_rfl)
          · intro w1 h1
            simp only [List.nil_append, List.cons_append, Given]
            rintro _ rfl
            rintro _ rfl
            have hq := h1.cell ax
            go_wp2_with fail
            exact Post.isv (Ext.refl _) rfl rfl rfl
          -- 15: Op.move t1   [guarded: some (10, true)]
          apply Stage.step (Is _) [false, false, false, false, false, false, false, false, false, false, true] (Is.keeps _) (by kernel_rfl)
          · intro w1 h1
            simp only [List.nil_append, List.cons_append, Given]
            rintro _ rfl
            go_wp2_with fail
            exact Post.isv (Ext.refl _) rfl rfl rfl
          -- 16: Op.move t8   [guarded: some (10, true)]
          apply Stage.step (Is _) [false, false, false, false, false, false, false, false, false, false, true] (Is.keeps _) (by kernel_rfl)
          · intro w1 h1
            simp only [List.nil_append, List.cons_append, Given]
            rintro _ rfl
            go_wp2_with fail
            exact Post.isv (Ext.refl _) rfl rfl rfl
          -- 17: Op.indexAddr 22 t65 t66   [guarded: some (10, true)]
          apply Stage.step (Is _) [false, false, false, false, false, false, false, false, false, false, true, false, false, false, false, true, true] (Is.keeps _) (by kernel_rfl)
          · intro w1 h1
            simp only [List.nil_append, List.cons_append, Given]
            rintro _ rfl
            rintro _ rfl
            rintro _ rfl
            go_wp2_with fail
            exact Post.isv (Ext.refl _) rfl rfl rfl
          -- 18: Op.load 5 t67   [guarded: some (10, true)]
          apply Stage.step (Is _) [false, false, false, false, false, false, false, false, false, false, true, false, false, false, false, false, false, true] (Is.keeps _) (by kernel_rfl)
          · intro w1 h1
            simp only [List.nil_append, List.cons_append, Given]
            rintro _ rfl
            rintro _ rfl
            have hq := h1.cell ab
            go_wp2_with fail
            exact Post.isv (Ext.refl _) rfl rfl rfl
          -- 19: Op.binOp BinOp.neq 5 t64 t68 5   [guarded: some (10, true)]
          apply Stage.step (Is _) [false, false, false, false, false, false, false, false, false, false, true, false, false, false, true, false, false, false, true] (Is.keeps _) (by kernel_rfl)
          · intro w1 h1
            simp only [List.nil_append, List.cons_append, Given]
            rintro _ rfl
            rintro _ rfl
            rintro _ rfl
            go_wp2_with fail
            exact Post.isv (Ext.refl _) rfl rfl rfl
          -- 20: Op.pick t60 t69 (const (Value.bool false))
          apply Stage.step (Is _) [false, false, false, false, false, false, false, false, false, false, true, false, false, false, false, false, false, false, false, true] (Is.keeps _) (by kernel_rfl)
          · intro w1 h1
            simp only [List.nil_append, List.cons_append, Given]
            rintro _ rfl
            rintro _ rfl
            go_wp2_with fail
            exact Post.isv (Ext.refl _) rfl rfl rfl
          apply Stage.nil
          intro w1 h1
          simp only [List.nil_append, List.cons_append]
          refine Fin.is_ ?_
          refine Fin.is_ ?_
          refine Fin.is_ ?_
          refine Fin.is_ ?_
          refine Fin.is_ ?_
          refine Fin.is_ ?_
          refine Fin.is_ ?_
          refine Fin.is_ ?_
          refine Fin.is_ ?_
          refine Fin.is_ ?_
          refine Fin.is_ ?_
          refine Fin.is_ ?_
          refine Fin.is_ ?_
          refine Fin.is_ ?_
          refine Fin.is_ ?_
          refine Fin.is_ ?_
          refine Fin.is_ ?_
          refine Fin.is_ ?_
          refine Fin.is_ ?_
          refine Fin.is_ ?_
          refine Fin.is_ ?_
          refine Fin.nil_ ?_
          go_simp
          replace hy := hy.trans h1
          clear h1 ax ab
          go_wp2_with fail
          refine (diff_piece (hb.ext (hxr.trans hy)) (i := k) (m := N) hNb (by omega)).mono ?_
          rintro e w3 ⟨A7, n7, c7, rfl, h7, hx7⟩
          obtain ⟨ek, eo, em, el, es, hE⟩ : ∃ ek eo em el es, evAt b k N = ⟨ek, eo, em, el, es⟩ := ⟨_, _, _, _, _, rfl⟩
          have hEs : es.size ≤ maxLen := by
            have : es = (evAt b k N).s := by rw [hE]
            rw [this]
            unfold evAt
            split <;> exact Nat.zero_le _
          rw [hE] at h7 HN
          rw [hE]
          simp only at h7
          have hown3 := (hown.ext (fr_rep ev_rep w.heap.size) hy).ext (fr_rep ev_rep w.heap.size) hx7
          have hbk3 := (hbk.ext hy).ext hx7
          have hfd := Feed.lit (P := Try.prog) (e := 28) (tx := 23) (A := Ak) (c := ck) (fr_rep ev_rep w.heap.size) #[.int .i64 ek, .int .i64 eo, .int .i64 em, .slice A7 n7 c7, .string es] ⟨ek, eo, em, el, es⟩ ⟨⟨A7, n7, c7, rfl, h7.sl, hEs⟩, fun j hj => by
            obtain ⟨ad, q1, q2, q3⟩ := pts_ev hj
            have h4 := h7.fr ad q1 q2
            have h5 := (hxr.trans hy).size
            omega⟩ under_evs (fun j hj e => by
            obtain ⟨ad, q1, q2, q3⟩ := pts_ev hj
            have h4 := h7.fr ad q1 q2
            have h5 := ((hown.ext (fr_rep ev_rep w.heap.size) hy).row_lt j e).2
            omega) rfl
          have hx9 := (hxr.trans hy).trans hx7
          clear hE
          go_wp2_with (
            at_builtin
            refine wpList_append_lst3 (w0 := w) (fr_rep ev_rep w.heap.size) rfl _ _ _ _ rfl TEv i0 _ 64 under_evs hi0 hz0 hz1 hz2 rfl Ak m ck _ rfl (hown3.ext (fr_rep ev_rep w.heap.size) (Ext.alloc _ _)) _ 1 [⟨ek, eo, em, el, es⟩] rfl hfd (m + 1) rfl _ rfl (by simp only [maxLen]; omega) (by omega) (hx9.allocs _) ?_
            intro A3 c3 w5 hb5 hx5 hg5 hr5)
          have hbk5 := (hbk3.ext (Ext.alloc _ _)).grown hg5 hne
          have hne5 : rowOf A3 c3 ≠ some gx := by
            rcases hr5 with hr5 | hr5
            · rw [hr5]; exact hne
            · rw [hr5]
              intro e
              injection e with e
              have h8 := (hbk3.row_lt (by omega)).2
              simp at e
              omega
          have HN2 : Hid ((out ++ [⟨ek, eo, em, el, es⟩]) ++ wayL x b (k + N) = R) := by unfold Hid; rw [List.append_assoc]; exact HN.out
          go_wp2_with fail
          go_roundw
          case rel => exact ⟨k + N, m + 1, A3, c3, _, by omega, by omega, rfl, by go_num, hb5, hbk5, hne5, HN2, hx5⟩
          case measure => simp [intOf]; omega
end Go.Proofs.Ytcklkjklepmabaa
