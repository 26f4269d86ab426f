/-
  Chapter 8: the statements' own Make: a record made of numbers.
-/
import Derived.Test.YtoeknbogaclfdaaZMakePlain
import Derived.Test.YtoeknbogaclfdaaZBoc
namespace Go.Proofs.Ytoeknbogaclfdaa
open Go.RowKit
set_option linter.unusedVariables false
set_option linter.unusedSimpArgs false
set_option linter.unnecessarySimpa false
set_option maxRecDepth 100000

def OneT (b : UInt8) : Ty := fun v w => ∃ A c, v = .slice A 1 c ∧ Sl w A 1 c [b]
theorem OneT.keeps (b : UInt8) : Keeps Ext (OneT b) := fun _ _ _ hx ⟨A, c, e, h⟩ => ⟨A, c, e, h.ext hx⟩
theorem OneT.keeps2 (b : UInt8) {H : Nat} {K : Bk} : true = false → Keeps (Boc H K) (OneT b) := fun h => by cases h
abbrev mkCC (x : Mk) : Array Value := #[.int .i64 x.id, .string x.nm, .int .i64 x.sz, .bool x.gone]
theorem four_arr {D : Array Value} (h : D.size = 4) : ∃ a b c d, D = #[a, b, c, d] := by
  obtain ⟨l⟩ := D
  obtain _ | ⟨a, _ | ⟨b, _ | ⟨c, _ | ⟨d, _ | ⟨i, l⟩⟩⟩⟩⟩ := l <;> simp at h
  exact ⟨a, b, c, d, rfl⟩
def set4w (w : World) (g : Nat) (v0 v1 v2 v3 : Value) : World := (((w.setCell ⟨g, 0, none⟩ v0).setCell ⟨g, 1, none⟩ v1).setCell ⟨g, 2, none⟩ v2).setCell ⟨g, 3, none⟩ v3
theorem set4_at {w : World} {g : Nat} {D : Array Value} {e : TypeId} (h : w.heap[g]? = some (.cells D e (0, 0))) (hD : D.size = 4) (v0 v1 v2 v3 : Value) : (set4w w g v0 v1 v2 v3).heap[g]? = some (.cells #[v0, v1, v2, v3] e (0, 0)) := by
  obtain ⟨a, b, c, d, rfl⟩ := four_arr hD
  unfold set4w
  have := blk_set (blk_set (blk_set (blk_set h 0 v0) 1 v1) 2 v2) 3 v3
  simpa using this
theorem set4_far {w : World} {g g' : Nat} {o : Obj} (h : w.heap[g']? = some o) (hne : g ≠ g') (v0 v1 v2 v3 : Value) : (set4w w g v0 v1 v2 v3).heap[g']? = some o := by
  unfold set4w
  exact blk_far (blk_far (blk_far (blk_far h hne v0) hne v1) hne v2) hne v3
theorem InBox.cell4 {C0 C : Array Value} {e : TypeId} {g : Nat} {w : World} (h : InBox (C0, C, e) g w) (h0 : C0.size = 4) (h1 : C.size = 4) (j : Nat) (hj : j < 4) : (∃ u, w.cell? ⟨g, j, none⟩ = some u) ∧ w.frozen? ⟨g, j, none⟩ = false := by
  rcases h with h | h
  · exact ⟨⟨_, blk_cell h j (Array.getElem?_eq_getElem (by simp only; omega))⟩, blk_frozen h j⟩
  · exact ⟨⟨_, blk_cell h j (Array.getElem?_eq_getElem (by simp only; omega))⟩, blk_frozen h j⟩
theorem boc_set4 {H : Nat} {C0 : Array Value} {e : TypeId} {g : Nat} {w : World} {v0 v1 v2 v3 : Value} (hg : H ≤ g) (h : InBox (C0, #[v0, v1, v2, v3], e) g w) (h0 : C0.size = 4) :
    Boc H (C0, #[v0, v1, v2, v3], e) w (set4w w g v0 v1 v2 v3) ∧ (set4w w g v0 v1 v2 v3).heap[g]? = some (.cells #[v0, v1, v2, v3] e (0, 0)) := by
  have key : (set4w w g v0 v1 v2 v3).heap[g]? = some (.cells #[v0, v1, v2, v3] e (0, 0)) := by
    rcases h with h | h
    · exact set4_at h h0 _ _ _ _
    · exact set4_at h rfl _ _ _ _
  refine ⟨⟨?_, fun g' hg' => ?_⟩, key⟩
  · unfold set4w
    exact (((But.setCell (But.refl H _ w) (p := ⟨g, 0, none⟩) (.inr hg) _).setCell (p := ⟨g, 1, none⟩) (.inr hg) _).setCell (p := ⟨g, 2, none⟩) (.inr hg) _).setCell (p := ⟨g, 3, none⟩) (.inr hg) _
  · by_cases e1 : g = g'
    · subst e1
      exact .inr key
    · exact hg'.imp (fun q => set4_far q e1 _ _ _ _) (fun q => set4_far q e1 _ _ _ _)
def AftT (g : Nat) (C0 C1 : Array Value) (B : Nat) (A : Option Addr) (n c : Nat) (xs : List Mk) : Ty := fun _ u => u.heap[g]? = some (.cells C0 THd (0, 0)) ∧ u.heap[g + 1]? = some (.cells C1 THd (0, 0)) ∧ OwnL TMk 4 mkR u B A n c xs ∧ B ≤ u.heap.size
theorem AftT.keeps (g : Nat) (C0 C1 : Array Value) (B : Nat) (A : Option Addr) (n c : Nat) (xs : List Mk) : Keeps Ext (AftT g C0 C1 B A n c xs) := fun _ _ _ hx ⟨h1, h2, h3, h4⟩ => ⟨blk_ext h1 hx, blk_ext h2 hx, h3.ext mk_rep hx, Nat.le_trans h4 hx.size⟩
set_option maxHeartbeats 8000000 in
theorem law8_Make (a0 a1 a2 a3 : Int) {Ai : Option Addr} {n ci : Nat} {l : List Int} {w : World} (hi : Lst 1 intR w Ai n ci l) (hn : n ≤ 1000) {h : Hd} (hh : Hid (makeH a0 a1 a2 a3 l = h)) :
    Calls Try.prog 18 #[.int .i64 a0, .int .i64 a1, .int .i64 a2, .int .i64 a3, .slice Ai n ci] w fun e w' => ∃ A' n' c', e = .returned (hdV h A' n' c') ∧ OwnL TMk 4 mkR w' w.heap.size A' n' c' h.marks ∧ Ext w w' := by
  have h63 := hi.n63
  obtain ⟨im, him, hm0, hm1, hm2⟩ := info_parts info_mk
  have hil := hi.len
  obtain ⟨z0, hz0, hz0b⟩ : ∃ p : Nat, bits BinOp.and IntKind.i64 a0 511 = (p : Int) ∧ p ≤ 511 := ⟨(a0 % 512).toNat, by rw [and511]; omega, by omega⟩
  obtain ⟨o0, ho0, ho0b⟩ : ∃ p : Nat, bits BinOp.and IntKind.i64 a1 3 = (p : Int) ∧ p ≤ 3 := ⟨(a1 % 4).toNat, by rw [and3]; omega, by omega⟩
  obtain ⟨c0, hc0, hc0b⟩ : ∃ p : Nat, bits BinOp.and IntKind.i64 a3 3 = (p : Int) ∧ p ≤ 3 := ⟨(a3 % 4).toNat, by rw [and3]; omega, by omega⟩
  obtain ⟨s0, hs0, hs0b⟩ : ∃ p : Nat, bits BinOp.and IntKind.i64 a0 255 = (p : Int) ∧ p ≤ 255 := ⟨(a0 % 256).toNat, by rw [and255]; omega, by omega⟩
  obtain ⟨u0, hu0, hu0b⟩ : ∃ p : Nat, bits BinOp.and IntKind.i64 a2 7 = (p : Int) ∧ p ≤ 7 := ⟨(a2 % 8).toNat, by rw [and7]; omega, by omega⟩
  obtain ⟨or, hor⟩ : ∃ q : Nat, 3 + o0 = q := ⟨_, rfl⟩
  have hori : 3 + (o0 : Int) = (or : Int) := by omega
  have horb : 3 ≤ or ∧ or ≤ 6 := by omega
  obtain ⟨q0, hq0, hq0b⟩ : ∃ q : Nat, (u0 : Int) % ((or : Int) - 1) = (q : Int) ∧ q ≤ 5 := ⟨u0 % (or - 1), by rw [show (or : Int) - 1 = ((or - 1 : Nat) : Int) by omega]; simp, by have := Nat.mod_lt u0 (show or - 1 > 0 by omega); omega⟩
  have hM : h = ⟨(z0 : Int), (or : Int), 2 + (q0 : Int), 1 + (c0 : Int), (mkF (l.take (makeN l)) 0 st0).nx, (s0 : Int), (mkF (l.take (makeN l)) 0 st0).ms⟩ := by
    rw [← hh.out]
    unfold makeH
    rw [hz0, ho0, hc0, hs0, hu0, hori, hq0]
  have HM := Lib.hid hM
  clear hM hh hor
  go_enter Try.func18, Try.ntmps18
  go_wp2_with fail
  obtain ⟨w3, hw3⟩ : ∃ q, q = (w.alloc (.cells zeroH THd)).alloc (.cells #[.int .i64 (z0 : Int), .int .i64 (or : Int), .int .i64 (2 + (q0 : Int)), .int .i64 (1 + (c0 : Int)), .int .i64 1, .int .i64 (s0 : Int), .slice none 0 0] THd) := ⟨_, rfl⟩
  have gx3 : Ext w w3 := by rw [hw3]; exact (Ext.alloc _ _).allocs _
  have hsz3 : w.heap.size + 2 ≤ w3.heap.size := by rw [hw3]; simp
  have B2 : Hid (w3.heap[w.heap.size]? = some (.cells zeroH THd (0, 0))) := by
    unfold Hid
    rw [hw3]
    exact blk_ext (heap_alloc_new w _) (Ext.alloc _ _)
  have B4 : Hid (w3.heap[w.heap.size + 1]? = some (.cells #[.int .i64 (z0 : Int), .int .i64 (or : Int), .int .i64 (2 + (q0 : Int)), .int .i64 (1 + (c0 : Int)), .int .i64 1, .int .i64 (s0 : Int), .slice none 0 0] THd (0, 0))) := by
    unfold Hid
    rw [hw3]
    have e : (w.alloc (.cells zeroH THd)).heap.size = w.heap.size + 1 := by simp
    have := heap_alloc_new (w.alloc (.cells zeroH THd)) (.cells #[.int .i64 (z0 : Int), .int .i64 (or : Int), .int .i64 (2 + (q0 : Int)), .int .i64 (1 + (c0 : Int)), .int .i64 1, .int .i64 (s0 : Int), .slice none 0 0] THd)
    rw [e] at this
    exact this
  rw [← hw3]
  clear hw3 hz0 hs0 hu0 hq0 hc0 ho0 hori
  go_loopw [12, 13, 14] (fun sv hv iv wr => ∃ (k : Nat) (ms : List Mk) (nx : Int) (sn : Nat) (hd : Bool) (Ao : Option Addr) (co : Nat), k ≤ n ∧ k ≤ 16 ∧ sn ≤ 8 ∧ 1 ≤ nx ∧ nx ≤ 100 ∧ sv = .int .i64 (sn : Int) ∧ hv = .bool hd ∧ iv = .int .i64 (k : Int) ∧ Hid (wr.heap[w.heap.size]? = some (.cells zeroH THd (0, 0))) ∧ Hid (wr.heap[w.heap.size + 1]? = some (.cells #[.int .i64 (z0 : Int), .int .i64 (or : Int), .int .i64 (2 + (q0 : Int)), .int .i64 (1 + (c0 : Int)), .int .i64 nx, .int .i64 (s0 : Int), .slice Ao k co] THd (0, 0))) ∧ OwnL TMk 4 mkR wr (w.heap.size + 2) Ao k co ms ∧ Hid (mkF (l.take k) 0 st0 = ⟨ms, nx, sn, hd⟩) ∧ Ext w wr ∧ w.heap.size + 2 ≤ wr.heap.size) (fun _ _ i _ => n - (intOf i).toNat)
  case atStart => exact ⟨0, [], 1, 0, false, none, 0, by omega, by omega, by omega, by omega, by omega, rfl, rfl, rfl, B2, B4, OwnL.nil _ _ _ _, rfl, gx3, hsz3⟩
  case round =>
    clear B2 B4 gx3 hsz3
    obtain ⟨k, ms, nx, sn, hd, Ao, co, hkn, hk16, hsn8, hnx1, hnx2, rfl, rfl, rfl, B2, B4, hown, hst, gxr, hszr⟩ := hrel
    by_cases hlt : k < n ∧ k < 16
    · obtain ⟨hlt1, hlt2⟩ := hlt
      obtain ⟨ge, oe, v, rfl, hv, e0⟩ := hi.atI hlt1
      have E0 := Lib.hid e0
      have hsx := mkF_next hv
      rw [hst.out] at hsx
      have hinv := minv_all l (k + 1) (by rw [hil]; omega) (by omega)
      rw [hsx] at hinv
      replace e0 := gxr.cell e0
      obtain ⟨b, hb⟩ : ∃ b, UInt8.ofNat (97 + k) = b := ⟨_, rfl⟩
      have hb97 : 97 + (k : Int) = (b.toNat : Int) := by rw [← hb]; simp; omega
      have hb256 : b.toNat ≤ 255 := by have := b.toNat_lt; omega
      obtain ⟨N, hN⟩ : ∃ N, nmI k = N := ⟨_, rfl⟩
      have hcat : (⟨#[115]⟩ : ByteArray) ++ ⟨[b].toArray⟩ = N := by rw [← hN]; unfold nmI; rw [hb]; rfl
      obtain ⟨sz, hsz⟩ : ∃ q, bits BinOp.and IntKind.i64 v 511 = q := ⟨_, rfl⟩
      obtain ⟨m1, hvm1⟩ : ∃ q, bits BinOp.and IntKind.i64 v 1024 = q := ⟨_, rfl⟩
      obtain ⟨g, hg⟩ : ∃ q, (m1 != 0) = q := ⟨_, rfl⟩
      obtain ⟨m2, hvm2⟩ : ∃ q, bits BinOp.and IntKind.i64 v 14336 = q := ⟨_, rfl⟩
      obtain ⟨z, hz⟩ : ∃ q, (m2 == 0) = q := ⟨_, rfl⟩
      obtain ⟨tn, htn⟩ : ∃ q, bits BinOp.and IntKind.i64 (v / 16384) 1 = q := ⟨_, rfl⟩
      have htb : 0 ≤ tn ∧ tn ≤ 1 := by rw [← htn]; exact stI_bd v
      have eSt : stI v = tn := htn
      have eG : gnB v = g := by unfold gnB; rw [hvm1, hg]
      have eH : hlB v = z := by unfold hlB; rw [hvm2, hz]
      have eZ : szI v = sz := hsz
      have HSX : Hid (mkF (l.take (k + 1)) 0 st0 = ⟨ms ++ [if (z && !hd) = true then ⟨nx, nmT, sz, false⟩ else if (!g && decide (sn = 8)) = true then ⟨nx, N, sz, true⟩ else ⟨nx, N, sz, g⟩], nx + 1 + tn, if (z && !hd) = true then sn else if (!g && decide (sn = 8)) = true then sn else if g = true then sn else sn + 1, hd || z⟩) := by
        unfold Hid
        rw [hsx]
        unfold stepM markS seenS
        simp only [eSt, eG, eH, eZ, hN]
      have hnb : nx + 1 + tn ≤ 100 := by
        have := hinv.nx.2
        unfold stepM at this
        simp only [eSt] at this
        omega
      have hrowlt := hown.row_lt
      clear hsx hst hinv hv eSt eG eH eZ hb
      obtain ⟨wa, rfl⟩ : ∃ q, q = wr := ⟨_, rfl⟩
      have n4 : wa.cell? ⟨w.heap.size + 1, 4, none⟩ = some (.int .i64 nx) := blk_cell B4.out 4
      obtain ⟨KK, hKK⟩ : ∃ K : Bk, K = (mkCC ⟨0, ⟨#[]⟩, 0, false⟩, mkCC ⟨nx, N, sz, g⟩, TMk) := ⟨_, rfl⟩
      go_wp2_with fail
      refine wp_region_typed3 (R := Boc wa.heap.size KK) Ext.steady (Boc.steady _ _) (fun _ _ => Boc.of_ext) rfl 111 rfl [0, 1, 0, 4, 12, 28, 60, 124, 0, 0, 768, 1792, 3840, 0, 0, 24576, 57344, 122880, 253952, 524287, 0, 2097151] 2097152 20 (by kernel_rfl) ?_
      -- 0: Op.fieldAddr 43 t11 2
      apply Stage3.step (Is _) true [] true false (Is.keeps _) (fun _ => Is.keeps _) (by kernel_rfl)
      · intro γ w1 h1
        have h1 : Ext _ w1 := h1
        simp only [List.nil_append, List.cons_append, List.map_cons, List.map_nil, Given]
        go_wp2_with fail
        exact Post.isv (Ext.refl _) rfl rfl rfl
      -- 1: Op.load 3 t48
      apply Stage3.step (Is (.int .i64 nx)) true [true] true false (Is.keeps _) (fun _ => Is.keeps _) (by kernel_rfl)
      · intro γ w1 h1
        have h1 : Ext _ w1 := h1
        simp only [List.nil_append, List.cons_append, List.map_cons, List.map_nil, Sp3.at, Sp.pr, Given]
        rintro _ rfl
        have q0 := h1.cell n4
        go_wp2_with fail
        exact Post.isv (Ext.refl _) rfl rfl rfl
      -- 2: Op.move t14
      apply Stage3.step (Is _) true [] true false (Is.keeps _) (fun _ => Is.keeps _) (by kernel_rfl)
      · intro γ w1 h1
        have h1 : Ext _ w1 := h1
        simp only [List.nil_append, List.cons_append, List.map_cons, List.map_nil, Given]
        go_wp2_with fail
        exact Post.isv (Ext.refl _) rfl rfl rfl
      -- 3: Op.binOp BinOp.add 3 (const (97:i64)) t50 3
      apply Stage3.step (Is (.int .i64 (b.toNat : Int))) true [false, false, true] true false (Is.keeps _) (fun _ => Is.keeps _) (by kernel_rfl)
      · intro γ w1 h1
        have h1 : Ext _ w1 := h1
        simp only [List.nil_append, List.cons_append, List.map_cons, List.map_nil, Sp3.at, Sp.pr, Given]
        rintro _ rfl
        go_wp2_with fail
        exact Post.isv (Ext.refl _) rfl rfl rfl
      -- 4: Op.convert 3 5 t51
      apply Stage3.step (Is (.int .u8 (b.toNat : Int))) true [false, false, false, true] true false (Is.keeps _) (fun _ => Is.keeps _) (by kernel_rfl)
      · intro γ w1 h1
        have h1 : Ext _ w1 := h1
        simp only [List.nil_append, List.cons_append, List.map_cons, List.map_nil, Sp3.at, Sp.pr, Given]
        rintro _ rfl
        go_wp2_with fail
        exact Post.isv (Ext.refl _) rfl rfl rfl
      -- 5: Op.buildSlice 23 1 #[(0, t52)]
      apply Stage3.step (OneT b) false [false, false, false, false, true] true false (OneT.keeps _) (no_keeps) (by kernel_rfl)
      · intro γ w1 h1
        have h1 : Ext _ w1 := h1
        simp only [List.nil_append, List.cons_append, List.map_cons, List.map_nil, Sp3.at, Sp.pr, Given]
        rintro _ rfl
        go_wp2_with fail
        exact ⟨rfl, rfl, Ext.alloc _ _, _, _, rfl, sl_new w1 _ _ _ [b] rfl (by simp [maxLen])⟩
      -- 6: Op.convert 23 9 t53
      apply Stage3.step (Is (.string ⟨[b].toArray⟩)) true [false, false, false, false, false, true] true false (Is.keeps _) (fun _ => Is.keeps _) (by kernel_rfl)
      · intro γ w1 h1
        have h1 : Ext _ w1 := h1
        simp only [List.nil_append, List.cons_append, List.map_cons, List.map_nil, Sp3.at, Sp.pr, Given]
        rintro _ ⟨A5, c5, rfl, h5⟩
        have tx := run_text_u8 h5
        go_wp2_with fail
        exact Post.isv (Ext.refl _) rfl rfl rfl
      -- 7: Op.binOp BinOp.add 9 (const (Value.string { data := #[115] })) t54 9
      apply Stage3.step (Is (.string N)) true [false, false, false, false, false, false, true] true false (Is.keeps _) (fun _ => Is.keeps _) (by kernel_rfl)
      · intro γ w1 h1
        have h1 : Ext _ w1 := h1
        simp only [List.nil_append, List.cons_append, List.map_cons, List.map_nil, Sp3.at, Sp.pr, Given]
        rintro _ rfl
        go_wp2_with fail
        refine Post.isv (Ext.refl _) rfl rfl ?_
        first
          | rfl
          | (rw [← hcat]; rfl)
          | (rw [← hcat]; simp; done)
          | (simp [← hcat]; done)
      -- 8: Op.move t4
      apply Stage3.step (Is _) true [] true false (Is.keeps _) (fun _ => Is.keeps _) (by kernel_rfl)
      · intro γ w1 h1
        have h1 : Ext _ w1 := h1
        simp only [List.nil_append, List.cons_append, List.map_cons, List.map_nil, Given]
        go_wp2_with fail
        exact Post.isv (Ext.refl _) rfl rfl rfl
      -- 9: Op.move t14
      apply Stage3.step (Is _) true [] true false (Is.keeps _) (fun _ => Is.keeps _) (by kernel_rfl)
      · intro γ w1 h1
        have h1 : Ext _ w1 := h1
        simp only [List.nil_append, List.cons_append, List.map_cons, List.map_nil, Given]
        go_wp2_with fail
        exact Post.isv (Ext.refl _) rfl rfl rfl
      -- 10: Op.indexAddr 22 t56 t57
      apply Stage3.step (Is _) true [false, false, false, false, false, false, false, false, true, true] true false (Is.keeps _) (fun _ => Is.keeps _) (by kernel_rfl)
      · intro γ w1 h1
        have h1 : Ext _ w1 := h1
        simp only [List.nil_append, List.cons_append, List.map_cons, List.map_nil, Sp3.at, Sp.pr, Given]
        rintro _ rfl
        rintro _ rfl
        go_wp2_with fail
        exact Post.isv (Ext.refl _) rfl rfl rfl
      -- 11: Op.load 3 t58
      apply Stage3.step (Is (.int .i64 v)) true [false, false, false, false, false, false, false, false, false, false, true] true false (Is.keeps _) (fun _ => Is.keeps _) (by kernel_rfl)
      · intro γ w1 h1
        have h1 : Ext _ w1 := h1
        simp only [List.nil_append, List.cons_append, List.map_cons, List.map_nil, Sp3.at, Sp.pr, Given]
        rintro _ rfl
        have q0 := h1.cell e0
        go_wp2_with fail
        exact Post.isv (Ext.refl _) rfl rfl rfl
      -- 12: Op.binOp BinOp.and 3 t59 (const (511:i64)) 3
      apply Stage3.step (Is (.int .i64 sz)) true [false, false, false, false, false, false, false, false, false, false, false, true] true false (Is.keeps _) (fun _ => Is.keeps _) (by kernel_rfl)
      · intro γ w1 h1
        have h1 : Ext _ w1 := h1
        simp only [List.nil_append, List.cons_append, List.map_cons, List.map_nil, Sp3.at, Sp.pr, Given]
        rintro _ rfl
        go_wp2_with fail
        exact Post.isv (Ext.refl _) rfl rfl rfl
      -- 13: Op.move t4
      apply Stage3.step (Is _) true [] true false (Is.keeps _) (fun _ => Is.keeps _) (by kernel_rfl)
      · intro γ w1 h1
        have h1 : Ext _ w1 := h1
        simp only [List.nil_append, List.cons_append, List.map_cons, List.map_nil, Given]
        go_wp2_with fail
        exact Post.isv (Ext.refl _) rfl rfl rfl
      -- 14: Op.move t14
      apply Stage3.step (Is _) true [] true false (Is.keeps _) (fun _ => Is.keeps _) (by kernel_rfl)
      · intro γ w1 h1
        have h1 : Ext _ w1 := h1
        simp only [List.nil_append, List.cons_append, List.map_cons, List.map_nil, Given]
        go_wp2_with fail
        exact Post.isv (Ext.refl _) rfl rfl rfl
      -- 15: Op.indexAddr 22 t61 t62
      apply Stage3.step (Is _) true [false, false, false, false, false, false, false, false, false, false, false, false, false, true, true] true false (Is.keeps _) (fun _ => Is.keeps _) (by kernel_rfl)
      · intro γ w1 h1
        have h1 : Ext _ w1 := h1
        simp only [List.nil_append, List.cons_append, List.map_cons, List.map_nil, Sp3.at, Sp.pr, Given]
        rintro _ rfl
        rintro _ rfl
        go_wp2_with fail
        exact Post.isv (Ext.refl _) rfl rfl rfl
      -- 16: Op.load 3 t63
      apply Stage3.step (Is (.int .i64 v)) true [false, false, false, false, false, false, false, false, false, false, false, false, false, false, false, true] true false (Is.keeps _) (fun _ => Is.keeps _) (by kernel_rfl)
      · intro γ w1 h1
        have h1 : Ext _ w1 := h1
        simp only [List.nil_append, List.cons_append, List.map_cons, List.map_nil, Sp3.at, Sp.pr, Given]
        rintro _ rfl
        have q0 := h1.cell e0
        go_wp2_with fail
        exact Post.isv (Ext.refl _) rfl rfl rfl
      -- 17: Op.binOp BinOp.and 3 t64 (const (1024:i64)) 3
      apply Stage3.step (Is (.int .i64 m1)) true [false, false, false, false, false, false, false, false, false, false, false, false, false, false, false, false, true] true false (Is.keeps _) (fun _ => Is.keeps _) (by kernel_rfl)
      · intro γ w1 h1
        have h1 : Ext _ w1 := h1
        simp only [List.nil_append, List.cons_append, List.map_cons, List.map_nil, Sp3.at, Sp.pr, Given]
        rintro _ rfl
        go_wp2_with fail
        exact Post.isv (Ext.refl _) rfl rfl rfl
      -- 18: Op.binOp BinOp.neq 3 t65 (const (0:i64)) 3
      apply Stage3.step (Is (.bool g)) true [false, false, false, false, false, false, false, false, false, false, false, false, false, false, false, false, false, true] true false (Is.keeps _) (fun _ => Is.keeps _) (by kernel_rfl)
      · intro γ w1 h1
        have h1 : Ext _ w1 := h1
        simp only [List.nil_append, List.cons_append, List.map_cons, List.map_nil, Sp3.at, Sp.pr, Given]
        rintro _ rfl
        go_wp2_with fail
        exact Post.isv (Ext.refl _) rfl rfl rfl
      -- 19: Op.build 48 #[(0, t49), (1, t55), (2, t60), (3, t66)]
      apply Stage3.step (Is _) true [false, true, false, false, false, false, false, true, false, false, false, false, true, false, false, false, false, false, true] true false (Is.keeps _) (fun _ => Is.keeps _) (by kernel_rfl)
      · intro γ w1 h1
        have h1 : Ext _ w1 := h1
        simp only [List.nil_append, List.cons_append, List.map_cons, List.map_nil, Sp3.at, Sp.pr, Given]
        rintro _ rfl
        rintro _ rfl
        rintro _ rfl
        rintro _ rfl
        go_wp2_with fail
        exact Post.isv (Ext.refl _) rfl rfl rfl
      -- 20: Op.alloc 48
      apply Stage3.stepA (BocP wa.heap.size KK) true [] true false (BocP.keeps _ _) (fun _ => BocP.keeps2 _ _) (by kernel_rfl)
      · intro γ w1 h1
        have h1 : Ext _ w1 := h1
        simp only [List.nil_append, List.cons_append, List.map_cons, List.map_nil, Given]
        go_wp2_with fail
        rw [hKK]
        exact ⟨rfl, rfl, Ext.alloc _ _, BocP.made _ _ _ h1.size⟩
      -- 21: Op.store 48 t15 t67
      apply Stage3.stepD (fun γ => BocS KK γ) false [false, false, false, false, false, false, false, false, false, false, false, false, false, false, false, false, false, false, false, true, true] true true (fun γ => BocS.keeps _ _) (fun h => by cases h) (by kernel_rfl)
      · intro γ w1 h1
        have h1 : Ext _ w1 := h1
        simp only [List.nil_append, List.cons_append, List.map_cons, List.map_nil, Sp3.at, Sp.pr, Given]
        rintro _ rfl
        rintro _ ⟨rfl, g8, rfl, hg8, hb8⟩
        rw [hKK] at hb8
        obtain ⟨⟨u0, mm0⟩, r0⟩ := hb8.cell4 rfl rfl 0 (by omega)
        obtain ⟨⟨u1, mm1⟩, r1⟩ := hb8.cell4 rfl rfl 1 (by omega)
        obtain ⟨⟨u2, mm2⟩, r2⟩ := hb8.cell4 rfl rfl 2 (by omega)
        obtain ⟨⟨u3, mm3⟩, r3⟩ := hb8.cell4 rfl rfl 3 (by omega)
        go_wp2_with fail
        have hbs := boc_set4 (H := wa.heap.size) hg8 hb8 rfl
        refine ⟨rfl, rfl, by rw [hKK]; exact hbs.1, fun g e => ?_⟩
        obtain rfl : g8 = g := by injection e with e; injection e with e; injection e with e
        rw [hKK]
        exact hbs.2
      apply Stage3.nil [true, true, true, true, true, false, true, true, true, true, true, true, true, true, true, true, true, true, true, true, true, true] (by kernel_rfl)
      intro γ w1 h1
      have h1 : (Boc wa.heap.size KK) _ w1 := h1
      simp only [List.nil_append, List.cons_append, List.map_cons, List.map_nil, Sp3.at, Sp.pr]
      refine Fin2.is_ ?_
      refine Fin2.is_ ?_
      refine Fin2.is_ ?_
      refine Fin2.is_ ?_
      refine Fin2.is_ ?_
      refine Fin2.dead_ ?_
      intro dead5
      refine Fin2.is_ ?_
      refine Fin2.is_ ?_
      refine Fin2.is_ ?_
      refine Fin2.is_ ?_
      refine Fin2.is_ ?_
      refine Fin2.is_ ?_
      refine Fin2.is_ ?_
      refine Fin2.is_ ?_
      refine Fin2.is_ ?_
      refine Fin2.is_ ?_
      refine Fin2.is_ ?_
      refine Fin2.is_ ?_
      refine Fin2.is_ ?_
      refine Fin2.is_ ?_
      refine Fin2.step_ ?_
      rintro _ ⟨rfl, g8, rfl, hg8, hb8⟩
      refine Fin2.step_ ?_
      rintro _ hst8
      refine Fin2.nil_ ?_
      go_simp
      have hb9 := hst8 g8 rfl
      rw [hKK] at hb9
      have g8x : Ext wa w1 := (Ext.refl wa).but h1.but (Nat.le_refl _) (fun _ h => h.elim)
      have hne0 : w.heap.size ≠ g8 := by omega
      have hne1 : w.heap.size + 1 ≠ g8 := by omega
      have B22 := blk_ext B2.out g8x
      have B42 := blk_ext B4.out g8x
      have hown2 := hown.ext mk_rep g8x
      have hrn : ∀ g, rowOf Ao co = some g → g ≠ g8 := fun g hg e => by have := (hrowlt g hg).2; omega
      have gx8 := gxr.trans g8x
      have hsz8 : w.heap.size + 2 ≤ w1.heap.size := by have := g8x.size; omega
      replace e0 := g8x.cell e0
      have p0 : w1.cell? ⟨g8, 0, none⟩ = some (.int .i64 nx) := blk_cell hb9 0
      have r0 := blk_frozen hb9 0
      have p1 : w1.cell? ⟨g8, 1, none⟩ = some (.string N) := blk_cell hb9 1
      have r1 := blk_frozen hb9 1
      have p2 : w1.cell? ⟨g8, 2, none⟩ = some (.int .i64 sz) := blk_cell hb9 2
      have r2 := blk_frozen hb9 2
      have p3 : w1.cell? ⟨g8, 3, none⟩ = some (.bool g) := blk_cell hb9 3
      have r3 := blk_frozen hb9 3
      have hg8w : w.heap.size ≤ g8 := by omega
      obtain ⟨wm, rfl⟩ : ∃ q, q = w1 := ⟨_, rfl⟩
      clear hst8 hKK hb8 h1 g8x hown B2 B4 hrowlt hN n4 hb97 hcat
      cases z with
      | false =>
        cases g with
        | true =>
          skip
          have HMS : Hid (mkF (l.take (k + 1)) 0 st0 = ⟨ms ++ [⟨nx, N, sz, true⟩], nx + 1 + tn, sn, hd⟩) := by
            unfold Hid
            rw [HSX.out]
            first
              | rfl
              | (simp; done)
              | (simp [rfl]; done)
          obtain ⟨W, hW⟩ : ∃ W, W = wm := ⟨_, rfl⟩
          have bW : W.heap[g8]? = some (.cells #[.int .i64 nx, .string N, .int .i64 sz, .bool true] TMk (0, 0)) := by
            rw [hW]
            first
              | exact hb9
              | (have := blk_set hb9 3 (.bool true); simpa using this)
              | (have := blk_set (blk_set hb9 1 (.string N)) 3 (.bool true); simpa using this)
          have B2W : W.heap[w.heap.size]? = some (.cells zeroH THd (0, 0)) := by
            rw [hW]
            first
              | exact B22
              | exact blk_far B22 (fun e => hne0 e.symm) _
              | exact blk_far (blk_far B22 (fun e => hne0 e.symm) _) (fun e => hne0 e.symm) _
          have B4W : W.heap[w.heap.size + 1]? = some (.cells #[.int .i64 (z0 : Int), .int .i64 (or : Int), .int .i64 (2 + (q0 : Int)), .int .i64 (1 + (c0 : Int)), .int .i64 nx, .int .i64 (s0 : Int), .slice Ao k co] THd (0, 0)) := by
            rw [hW]
            first
              | exact B42
              | exact blk_far B42 (fun e => hne1 e.symm) _
              | exact blk_far (blk_far B42 (fun e => hne1 e.symm) _) (fun e => hne1 e.symm) _
          have gxW : Ext w W := by
            rw [hW]
            first
              | exact gx8
              | exact gx8.sets hg8w _
              | exact (gx8.sets hg8w _).sets hg8w _
          have hownW : OwnL TMk 4 mkR W (w.heap.size + 2) Ao k co ms := by
            rw [hW]
            first
              | exact hown2
              | exact hown2.farM hrn _
              | exact (hown2.farM hrn _).farM hrn _
          have hcW : W.heap.size = wm.heap.size := by
            first
              | (rw [hW]; done)
              | (rw [hW]; simp)
          have x6 := blk_cell B4W 6
          have ss0 := blk_cell bW 0
          have ss1 := blk_cell bW 1
          have ss2 := blk_cell bW 2
          have ss3 := blk_cell bW 3
          have lit := (mk_lit W ⟨nx, N, sz, true⟩).lst
          rw [hcW] at lit
          have B2H := Lib.hid (blk_ext B2W (Ext.alloc W (.cells #[.int .i64 nx, .string N, .int .i64 sz, .bool true] TMk)))
          have B4H := Lib.hid (blk_ext B4W (Ext.alloc W (.cells #[.int .i64 nx, .string N, .int .i64 sz, .bool true] TMk)))
          have LIT := Lib.hid lit
          have HOWN := Lib.hid hownW
          have HSZ : Hid (w.heap.size + 2 ≤ W.heap.size) := by unfold Hid; rw [hcW]; exact hsz8
          have GXW := Lib.hid gxW
          clear B2W B4W lit hownW gxW hcW bW HSX hown2 B22 B42 hb9 gx8
          subst hW
          go_wp2_with (
            at_builtin
            refine wpList_append_flatB mk_rep (fun x cs w h => mk_nop h) rfl _ _ _ _ rfl (w.heap.size + 2) (by have := HSZ.out; rw [World.size_alloc]; omega) TMk TMk im _ 40 under_mks under_mks him hm0 hm1 hm2 rfl Ao k co ms rfl (HOWN.out.ext mk_rep (Ext.alloc _ _)) _ 1 1 [⟨nx, N, sz, true⟩] rfl LIT.out (k + 1) rfl _ rfl (by simp only [maxLen]; omega) (by omega) ?_
            intro A3 c3 w5 hb3 hkeep hext hsz5
            have B25 := Lib.hid (hkeep _ _ (by omega) B2H.out)
            have B45 := Lib.hid (hkeep _ _ (by omega) B4H.out)
            have q6 := blk_cell B45.out 6
            have r6 := blk_frozen B45.out 6)
          obtain ⟨w6, hw6⟩ : ∃ q, q = w5.setCell ⟨w.heap.size + 1, 6, none⟩ (.slice A3 (k + 1) c3) := ⟨_, rfl⟩
          have gx6 : Ext w w6 := by rw [hw6]; exact (hext w (GXW.out.allocs _) (by omega)).sets (p := ⟨w.heap.size + 1, 6, none⟩) (by simp) (.slice A3 (k + 1) c3)
          have B26 : Hid (w6.heap[w.heap.size]? = some (.cells zeroH THd (0, 0))) := by unfold Hid; rw [hw6]; exact blk_far B25.out (by simp) _
          have B46 : Hid (w6.heap[w.heap.size + 1]? = some (.cells #[.int .i64 (z0 : Int), .int .i64 (or : Int), .int .i64 (2 + (q0 : Int)), .int .i64 (1 + (c0 : Int)), .int .i64 nx, .int .i64 (s0 : Int), .slice A3 (k + 1) c3] THd (0, 0))) := by
            unfold Hid
            rw [hw6]
            have := blk_set B45.out 6 (.slice A3 (k + 1) c3)
            simpa using this
          have hown6 : OwnL TMk 4 mkR w6 (w.heap.size + 2) A3 (k + 1) c3 (ms ++ [⟨nx, N, sz, true⟩]) := by
            rw [hw6]
            exact hb3.farM (p := ⟨w.heap.size + 1, 6, none⟩) (fun g hg => by have := (hb3.row_lt g hg).1; simp only; omega) _
          have hsz6 : w.heap.size + 2 ≤ w6.heap.size := by rw [hw6]; simp; omega
          have v6 := gx6.cell E0.out
          have n6 := blk_cell B46.out 4
          go_wp2_with fail
          rw [← hw6]
          clear hw6 q6 r6 B25 B45 hext hkeep B2H B4H LIT HOWN HSZ hb3 GXW x6 hsz5
          refine wp_region_typed2 (R := But w6.heap.size (fun q => q = w.heap.size + 1)) Ext.steady (But.steady _ _) (fun _ _ => But.of_ext) rfl 111 rfl [0, 1, 3, 0, 0, 24, 56, 120, 248, 511, 1023, 2047] 2048 (by kernel_rfl) ?_
          -- 0: Op.fieldAddr 43 t11 2
          apply Stage2.step (Is _) true [] true false (Is.keeps _) (fun _ => Is.keeps _) (by kernel_rfl)
          · intro w1 h1
            have h1 : Ext _ w1 := h1
            simp only [List.nil_append, List.cons_append, List.map_cons, List.map_nil, Given]
            go_wp2_with fail
            exact Post.isv (Ext.refl _) rfl rfl rfl
          -- 1: Op.load 3 t99
          apply Stage2.step (Is (.int .i64 nx)) true [true] true false (Is.keeps _) (fun _ => Is.keeps _) (by kernel_rfl)
          · intro w1 h1
            have h1 : Ext _ w1 := h1
            simp only [List.nil_append, List.cons_append, List.map_cons, List.map_nil, Sp.pr, Given]
            rintro _ rfl
            have q0 := h1.cell n6
            go_wp2_with fail
            exact Post.isv (Ext.refl _) rfl rfl rfl
          -- 2: Op.binOp BinOp.add 3 t100 (const (1:i64)) 3
          apply Stage2.step (Is _) true [false, true] true false (Is.keeps _) (fun _ => Is.keeps _) (by kernel_rfl)
          · intro w1 h1
            have h1 : Ext _ w1 := h1
            simp only [List.nil_append, List.cons_append, List.map_cons, List.map_nil, Sp.pr, Given]
            rintro _ rfl
            go_wp2_with fail
            exact Post.isv (Ext.refl _) rfl rfl rfl
          -- 3: Op.move t4
          apply Stage2.step (Is _) true [] true false (Is.keeps _) (fun _ => Is.keeps _) (by kernel_rfl)
          · intro w1 h1
            have h1 : Ext _ w1 := h1
            simp only [List.nil_append, List.cons_append, List.map_cons, List.map_nil, Given]
            go_wp2_with fail
            exact Post.isv (Ext.refl _) rfl rfl rfl
          -- 4: Op.move t14
          apply Stage2.step (Is _) true [] true false (Is.keeps _) (fun _ => Is.keeps _) (by kernel_rfl)
          · intro w1 h1
            have h1 : Ext _ w1 := h1
            simp only [List.nil_append, List.cons_append, List.map_cons, List.map_nil, Given]
            go_wp2_with fail
            exact Post.isv (Ext.refl _) rfl rfl rfl
          -- 5: Op.indexAddr 22 t102 t103
          apply Stage2.step (Is _) true [false, false, false, true, true] true false (Is.keeps _) (fun _ => Is.keeps _) (by kernel_rfl)
          · intro w1 h1
            have h1 : Ext _ w1 := h1
            simp only [List.nil_append, List.cons_append, List.map_cons, List.map_nil, Sp.pr, Given]
            rintro _ rfl
            rintro _ rfl
            go_wp2_with fail
            exact Post.isv (Ext.refl _) rfl rfl rfl
          -- 6: Op.load 3 t104
          apply Stage2.step (Is (.int .i64 v)) true [false, false, false, false, false, true] true false (Is.keeps _) (fun _ => Is.keeps _) (by kernel_rfl)
          · intro w1 h1
            have h1 : Ext _ w1 := h1
            simp only [List.nil_append, List.cons_append, List.map_cons, List.map_nil, Sp.pr, Given]
            rintro _ rfl
            have q0 := h1.cell v6
            go_wp2_with fail
            exact Post.isv (Ext.refl _) rfl rfl rfl
          -- 7: Op.binOp BinOp.shr 3 t105 (const (14:u64)) 46
          apply Stage2.step (Is _) true [false, false, false, false, false, false, true] true false (Is.keeps _) (fun _ => Is.keeps _) (by kernel_rfl)
          · intro w1 h1
            have h1 : Ext _ w1 := h1
            simp only [List.nil_append, List.cons_append, List.map_cons, List.map_nil, Sp.pr, Given]
            rintro _ rfl
            go_wp2_with fail
            exact Post.isv (Ext.refl _) rfl rfl rfl
          -- 8: Op.binOp BinOp.and 3 t106 (const (1:i64)) 3
          apply Stage2.step (Is (.int .i64 tn)) true [false, false, false, false, false, false, false, true] true false (Is.keeps _) (fun _ => Is.keeps _) (by kernel_rfl)
          · intro w1 h1
            have h1 : Ext _ w1 := h1
            simp only [List.nil_append, List.cons_append, List.map_cons, List.map_nil, Sp.pr, Given]
            rintro _ rfl
            go_wp2_with fail
            exact Post.isv (Ext.refl _) rfl rfl rfl
          -- 9: Op.binOp BinOp.add 3 t101 t107 3
          apply Stage2.step (Is (.int .i64 (nx + 1 + tn))) true [false, false, true, false, false, false, false, false, true] true false (Is.keeps _) (fun _ => Is.keeps _) (by kernel_rfl)
          · intro w1 h1
            have h1 : Ext _ w1 := h1
            simp only [List.nil_append, List.cons_append, List.map_cons, List.map_nil, Sp.pr, Given]
            rintro _ rfl
            rintro _ rfl
            go_wp2_with fail
            exact Post.isv (Ext.refl _) rfl rfl rfl
          -- 10: Op.fieldAddr 43 t11 2
          apply Stage2.step (Is _) true [] true false (Is.keeps _) (fun _ => Is.keeps _) (by kernel_rfl)
          · intro w1 h1
            have h1 : Ext _ w1 := h1
            simp only [List.nil_append, List.cons_append, List.map_cons, List.map_nil, Given]
            go_wp2_with fail
            exact Post.isv (Ext.refl _) rfl rfl rfl
          -- 11: Op.store 3 t109 t108
          apply Stage2.step (AftT w.heap.size zeroH #[.int .i64 (z0 : Int), .int .i64 (or : Int), .int .i64 (2 + (q0 : Int)), .int .i64 (1 + (c0 : Int)), .int .i64 (nx + 1 + tn), .int .i64 (s0 : Int), .slice A3 (k + 1) c3] (w.heap.size + 2) A3 (k + 1) c3 (ms ++ [⟨nx, N, sz, true⟩])) false [false, false, false, false, false, false, false, false, false, true, true] true true (AftT.keeps _ _ _ _ _ _ _ _) (no_keeps) (by kernel_rfl)
          · intro w1 h1
            have h1 : Ext _ w1 := h1
            simp only [List.nil_append, List.cons_append, List.map_cons, List.map_nil, Sp.pr, Given]
            rintro _ rfl
            rintro _ rfl
            have y2 := blk_ext B26.out h1
            have y4 := blk_ext B46.out h1
            have q4 := blk_cell y4 4
            have r4 := blk_frozen y4 4
            have hs1 := h1.size
            have Y2 := Lib.hid y2
            have Y4 := Lib.hid y4
            clear y2 y4
            go_wp2_with fail
            refine ⟨rfl, rfl, But.setCell (S := fun q => q = w.heap.size + 1) (But.refl w6.heap.size (fun q => q = w.heap.size + 1) w1) (p := ⟨w.heap.size + 1, 4, none⟩) (.inl rfl) _, blk_far Y2.out (by simp) _, ?_, (hown6.ext mk_rep h1).farM (p := ⟨w.heap.size + 1, 4, none⟩) (fun g hg => by have := (hown6.row_lt g hg).1; simp only; omega) _, by simp; omega⟩
            have := blk_set Y4.out 4 (.int .i64 (nx + 1 + tn))
            simpa using this
          apply Stage2.nil [true, true, true, true, true, true, true, true, true, true, true, true] (by kernel_rfl)
          intro w1 h1
          have h1 : (But w6.heap.size (fun q => q = w.heap.size + 1)) _ w1 := h1
          simp only [List.nil_append, List.cons_append, List.map_cons, List.map_nil, Sp.pr]
          refine Fin2.is_ ?_
          refine Fin2.is_ ?_
          refine Fin2.is_ ?_
          refine Fin2.is_ ?_
          refine Fin2.is_ ?_
          refine Fin2.is_ ?_
          refine Fin2.is_ ?_
          refine Fin2.is_ ?_
          refine Fin2.is_ ?_
          refine Fin2.is_ ?_
          refine Fin2.is_ ?_
          refine Fin2.step_ ?_
          rintro _ ⟨a26, a46, aown, asz⟩
          refine Fin2.nil_ ?_
          go_simp
          have A26 := Lib.hid a26
          have A46 := Lib.hid a46
          clear a26 a46
          go_wp2_with fail
          go_roundw
          case rel => exact ⟨k + 1, _, nx + 1 + tn, sn, hd, A3, c3, by omega, by omega, by omega, by omega, by omega, by go_num, rfl, by go_num, A26, A46, aown, HMS, gx6.but h1 (by omega) (fun g hg => by omega), asz⟩
          case measure => simp [intOf]; omega
        | false =>
          by_cases h8 : sn = 8
          · subst h8
            have HMS : Hid (mkF (l.take (k + 1)) 0 st0 = ⟨ms ++ [⟨nx, N, sz, true⟩], nx + 1 + tn, 8, hd⟩) := by
              unfold Hid
              rw [HSX.out]
              first
                | rfl
                | (simp; done)
                | (simp [rfl]; done)
            obtain ⟨W, hW⟩ : ∃ W, W = wm.setCell ⟨g8, 3, none⟩ (.bool true) := ⟨_, rfl⟩
            have bW : W.heap[g8]? = some (.cells #[.int .i64 nx, .string N, .int .i64 sz, .bool true] TMk (0, 0)) := by
              rw [hW]
              first
                | exact hb9
                | (have := blk_set hb9 3 (.bool true); simpa using this)
                | (have := blk_set (blk_set hb9 1 (.string N)) 3 (.bool true); simpa using this)
            have B2W : W.heap[w.heap.size]? = some (.cells zeroH THd (0, 0)) := by
              rw [hW]
              first
                | exact B22
                | exact blk_far B22 (fun e => hne0 e.symm) _
                | exact blk_far (blk_far B22 (fun e => hne0 e.symm) _) (fun e => hne0 e.symm) _
            have B4W : W.heap[w.heap.size + 1]? = some (.cells #[.int .i64 (z0 : Int), .int .i64 (or : Int), .int .i64 (2 + (q0 : Int)), .int .i64 (1 + (c0 : Int)), .int .i64 nx, .int .i64 (s0 : Int), .slice Ao k co] THd (0, 0)) := by
              rw [hW]
              first
                | exact B42
                | exact blk_far B42 (fun e => hne1 e.symm) _
                | exact blk_far (blk_far B42 (fun e => hne1 e.symm) _) (fun e => hne1 e.symm) _
            have gxW : Ext w W := by
              rw [hW]
              first
                | exact gx8
                | exact gx8.sets hg8w _
                | exact (gx8.sets hg8w _).sets hg8w _
            have hownW : OwnL TMk 4 mkR W (w.heap.size + 2) Ao k co ms := by
              rw [hW]
              first
                | exact hown2
                | exact hown2.farM hrn _
                | exact (hown2.farM hrn _).farM hrn _
            have hcW : W.heap.size = wm.heap.size := by
              first
                | (rw [hW]; done)
                | (rw [hW]; simp)
            have x6 := blk_cell B4W 6
            have ss0 := blk_cell bW 0
            have ss1 := blk_cell bW 1
            have ss2 := blk_cell bW 2
            have ss3 := blk_cell bW 3
            have lit := (mk_lit W ⟨nx, N, sz, true⟩).lst
            rw [hcW] at lit
            have B2H := Lib.hid (blk_ext B2W (Ext.alloc W (.cells #[.int .i64 nx, .string N, .int .i64 sz, .bool true] TMk)))
            have B4H := Lib.hid (blk_ext B4W (Ext.alloc W (.cells #[.int .i64 nx, .string N, .int .i64 sz, .bool true] TMk)))
            have LIT := Lib.hid lit
            have HOWN := Lib.hid hownW
            have HSZ : Hid (w.heap.size + 2 ≤ W.heap.size) := by unfold Hid; rw [hcW]; exact hsz8
            have GXW := Lib.hid gxW
            clear B2W B4W lit hownW gxW hcW bW HSX hown2 B22 B42 hb9 gx8
            subst hW
            go_wp2_with (
              at_builtin
              refine wpList_append_flatB mk_rep (fun x cs w h => mk_nop h) rfl _ _ _ _ rfl (w.heap.size + 2) (by have := HSZ.out; rw [World.size_alloc]; omega) TMk TMk im _ 40 under_mks under_mks him hm0 hm1 hm2 rfl Ao k co ms rfl (HOWN.out.ext mk_rep (Ext.alloc _ _)) _ 1 1 [⟨nx, N, sz, true⟩] rfl LIT.out (k + 1) rfl _ rfl (by simp only [maxLen]; omega) (by omega) ?_
              intro A3 c3 w5 hb3 hkeep hext hsz5
              have B25 := Lib.hid (hkeep _ _ (by omega) B2H.out)
              have B45 := Lib.hid (hkeep _ _ (by omega) B4H.out)
              have q6 := blk_cell B45.out 6
              have r6 := blk_frozen B45.out 6)
            obtain ⟨w6, hw6⟩ : ∃ q, q = w5.setCell ⟨w.heap.size + 1, 6, none⟩ (.slice A3 (k + 1) c3) := ⟨_, rfl⟩
            have gx6 : Ext w w6 := by rw [hw6]; exact (hext w (GXW.out.allocs _) (by omega)).sets (p := ⟨w.heap.size + 1, 6, none⟩) (by simp) (.slice A3 (k + 1) c3)
            have B26 : Hid (w6.heap[w.heap.size]? = some (.cells zeroH THd (0, 0))) := by unfold Hid; rw [hw6]; exact blk_far B25.out (by simp) _
            have B46 : Hid (w6.heap[w.heap.size + 1]? = some (.cells #[.int .i64 (z0 : Int), .int .i64 (or : Int), .int .i64 (2 + (q0 : Int)), .int .i64 (1 + (c0 : Int)), .int .i64 nx, .int .i64 (s0 : Int), .slice A3 (k + 1) c3] THd (0, 0))) := by
              unfold Hid
              rw [hw6]
              have := blk_set B45.out 6 (.slice A3 (k + 1) c3)
              simpa using this
            have hown6 : OwnL TMk 4 mkR w6 (w.heap.size + 2) A3 (k + 1) c3 (ms ++ [⟨nx, N, sz, true⟩]) := by
              rw [hw6]
              exact hb3.farM (p := ⟨w.heap.size + 1, 6, none⟩) (fun g hg => by have := (hb3.row_lt g hg).1; simp only; omega) _
            have hsz6 : w.heap.size + 2 ≤ w6.heap.size := by rw [hw6]; simp; omega
            have v6 := gx6.cell E0.out
            have n6 := blk_cell B46.out 4
            go_wp2_with fail
            rw [← hw6]
            clear hw6 q6 r6 B25 B45 hext hkeep B2H B4H LIT HOWN HSZ hb3 GXW x6 hsz5
            refine wp_region_typed2 (R := But w6.heap.size (fun q => q = w.heap.size + 1)) Ext.steady (But.steady _ _) (fun _ _ => But.of_ext) rfl 111 rfl [0, 1, 3, 0, 0, 24, 56, 120, 248, 511, 1023, 2047] 2048 (by kernel_rfl) ?_
            -- 0: Op.fieldAddr 43 t11 2
            apply Stage2.step (Is _) true [] true false (Is.keeps _) (fun _ => Is.keeps _) (by kernel_rfl)
            · intro w1 h1
              have h1 : Ext _ w1 := h1
              simp only [List.nil_append, List.cons_append, List.map_cons, List.map_nil, Given]
              go_wp2_with fail
              exact Post.isv (Ext.refl _) rfl rfl rfl
            -- 1: Op.load 3 t99
            apply Stage2.step (Is (.int .i64 nx)) true [true] true false (Is.keeps _) (fun _ => Is.keeps _) (by kernel_rfl)
            · intro w1 h1
              have h1 : Ext _ w1 := h1
              simp only [List.nil_append, List.cons_append, List.map_cons, List.map_nil, Sp.pr, Given]
              rintro _ rfl
              have q0 := h1.cell n6
              go_wp2_with fail
              exact Post.isv (Ext.refl _) rfl rfl rfl
            -- 2: Op.binOp BinOp.add 3 t100 (const (1:i64)) 3
            apply Stage2.step (Is _) true [false, true] true false (Is.keeps _) (fun _ => Is.keeps _) (by kernel_rfl)
            · intro w1 h1
              have h1 : Ext _ w1 := h1
              simp only [List.nil_append, List.cons_append, List.map_cons, List.map_nil, Sp.pr, Given]
              rintro _ rfl
              go_wp2_with fail
              exact Post.isv (Ext.refl _) rfl rfl rfl
            -- 3: Op.move t4
            apply Stage2.step (Is _) true [] true false (Is.keeps _) (fun _ => Is.keeps _) (by kernel_rfl)
            · intro w1 h1
              have h1 : Ext _ w1 := h1
              simp only [List.nil_append, List.cons_append, List.map_cons, List.map_nil, Given]
              go_wp2_with fail
              exact Post.isv (Ext.refl _) rfl rfl rfl
            -- 4: Op.move t14
            apply Stage2.step (Is _) true [] true false (Is.keeps _) (fun _ => Is.keeps _) (by kernel_rfl)
            · intro w1 h1
              have h1 : Ext _ w1 := h1
              simp only [List.nil_append, List.cons_append, List.map_cons, List.map_nil, Given]
              go_wp2_with fail
              exact Post.isv (Ext.refl _) rfl rfl rfl
            -- 5: Op.indexAddr 22 t102 t103
            apply Stage2.step (Is _) true [false, false, false, true, true] true false (Is.keeps _) (fun _ => Is.keeps _) (by kernel_rfl)
            · intro w1 h1
              have h1 : Ext _ w1 := h1
              simp only [List.nil_append, List.cons_append, List.map_cons, List.map_nil, Sp.pr, Given]
              rintro _ rfl
              rintro _ rfl
              go_wp2_with fail
              exact Post.isv (Ext.refl _) rfl rfl rfl
            -- 6: Op.load 3 t104
            apply Stage2.step (Is (.int .i64 v)) true [false, false, false, false, false, true] true false (Is.keeps _) (fun _ => Is.keeps _) (by kernel_rfl)
            · intro w1 h1
              have h1 : Ext _ w1 := h1
              simp only [List.nil_append, List.cons_append, List.map_cons, List.map_nil, Sp.pr, Given]
              rintro _ rfl
              have q0 := h1.cell v6
              go_wp2_with fail
              exact Post.isv (Ext.refl _) rfl rfl rfl
            -- 7: Op.binOp BinOp.shr 3 t105 (const (14:u64)) 46
            apply Stage2.step (Is _) true [false, false, false, false, false, false, true] true false (Is.keeps _) (fun _ => Is.keeps _) (by kernel_rfl)
            · intro w1 h1
              have h1 : Ext _ w1 := h1
              simp only [List.nil_append, List.cons_append, List.map_cons, List.map_nil, Sp.pr, Given]
              rintro _ rfl
              go_wp2_with fail
              exact Post.isv (Ext.refl _) rfl rfl rfl
            -- 8: Op.binOp BinOp.and 3 t106 (const (1:i64)) 3
            apply Stage2.step (Is (.int .i64 tn)) true [false, false, false, false, false, false, false, true] true false (Is.keeps _) (fun _ => Is.keeps _) (by kernel_rfl)
            · intro w1 h1
              have h1 : Ext _ w1 := h1
              simp only [List.nil_append, List.cons_append, List.map_cons, List.map_nil, Sp.pr, Given]
              rintro _ rfl
              go_wp2_with fail
              exact Post.isv (Ext.refl _) rfl rfl rfl
            -- 9: Op.binOp BinOp.add 3 t101 t107 3
            apply Stage2.step (Is (.int .i64 (nx + 1 + tn))) true [false, false, true, false, false, false, false, false, true] true false (Is.keeps _) (fun _ => Is.keeps _) (by kernel_rfl)
            · intro w1 h1
              have h1 : Ext _ w1 := h1
              simp only [List.nil_append, List.cons_append, List.map_cons, List.map_nil, Sp.pr, Given]
              rintro _ rfl
              rintro _ rfl
              go_wp2_with fail
              exact Post.isv (Ext.refl _) rfl rfl rfl
            -- 10: Op.fieldAddr 43 t11 2
            apply Stage2.step (Is _) true [] true false (Is.keeps _) (fun _ => Is.keeps _) (by kernel_rfl)
            · intro w1 h1
              have h1 : Ext _ w1 := h1
              simp only [List.nil_append, List.cons_append, List.map_cons, List.map_nil, Given]
              go_wp2_with fail
              exact Post.isv (Ext.refl _) rfl rfl rfl
            -- 11: Op.store 3 t109 t108
            apply Stage2.step (AftT w.heap.size zeroH #[.int .i64 (z0 : Int), .int .i64 (or : Int), .int .i64 (2 + (q0 : Int)), .int .i64 (1 + (c0 : Int)), .int .i64 (nx + 1 + tn), .int .i64 (s0 : Int), .slice A3 (k + 1) c3] (w.heap.size + 2) A3 (k + 1) c3 (ms ++ [⟨nx, N, sz, true⟩])) false [false, false, false, false, false, false, false, false, false, true, true] true true (AftT.keeps _ _ _ _ _ _ _ _) (no_keeps) (by kernel_rfl)
            · intro w1 h1
              have h1 : Ext _ w1 := h1
              simp only [List.nil_append, List.cons_append, List.map_cons, List.map_nil, Sp.pr, Given]
              rintro _ rfl
              rintro _ rfl
              have y2 := blk_ext B26.out h1
              have y4 := blk_ext B46.out h1
              have q4 := blk_cell y4 4
              have r4 := blk_frozen y4 4
              have hs1 := h1.size
              have Y2 := Lib.hid y2
              have Y4 := Lib.hid y4
              clear y2 y4
              go_wp2_with fail
              refine ⟨rfl, rfl, But.setCell (S := fun q => q = w.heap.size + 1) (But.refl w6.heap.size (fun q => q = w.heap.size + 1) w1) (p := ⟨w.heap.size + 1, 4, none⟩) (.inl rfl) _, blk_far Y2.out (by simp) _, ?_, (hown6.ext mk_rep h1).farM (p := ⟨w.heap.size + 1, 4, none⟩) (fun g hg => by have := (hown6.row_lt g hg).1; simp only; omega) _, by simp; omega⟩
              have := blk_set Y4.out 4 (.int .i64 (nx + 1 + tn))
              simpa using this
            apply Stage2.nil [true, true, true, true, true, true, true, true, true, true, true, true] (by kernel_rfl)
            intro w1 h1
            have h1 : (But w6.heap.size (fun q => q = w.heap.size + 1)) _ w1 := h1
            simp only [List.nil_append, List.cons_append, List.map_cons, List.map_nil, Sp.pr]
            refine Fin2.is_ ?_
            refine Fin2.is_ ?_
            refine Fin2.is_ ?_
            refine Fin2.is_ ?_
            refine Fin2.is_ ?_
            refine Fin2.is_ ?_
            refine Fin2.is_ ?_
            refine Fin2.is_ ?_
            refine Fin2.is_ ?_
            refine Fin2.is_ ?_
            refine Fin2.is_ ?_
            refine Fin2.step_ ?_
            rintro _ ⟨a26, a46, aown, asz⟩
            refine Fin2.nil_ ?_
            go_simp
            have A26 := Lib.hid a26
            have A46 := Lib.hid a46
            clear a26 a46
            go_wp2_with fail
            go_roundw
            case rel => exact ⟨k + 1, _, nx + 1 + tn, 8, hd, A3, c3, by omega, by omega, by omega, by omega, by omega, by go_num, rfl, by go_num, A26, A46, aown, HMS, gx6.but h1 (by omega) (fun g hg => by omega), asz⟩
            case measure => simp [intOf]; omega
          · have h8b : ((sn : Int) == 8) = false := by simp; omega
            have HMS : Hid (mkF (l.take (k + 1)) 0 st0 = ⟨ms ++ [⟨nx, N, sz, false⟩], nx + 1 + tn, (sn + 1), hd⟩) := by
              unfold Hid
              rw [HSX.out]
              first
                | rfl
                | (simp; done)
                | (simp [h8]; done)
            obtain ⟨W, hW⟩ : ∃ W, W = wm := ⟨_, rfl⟩
            have bW : W.heap[g8]? = some (.cells #[.int .i64 nx, .string N, .int .i64 sz, .bool false] TMk (0, 0)) := by
              rw [hW]
              first
                | exact hb9
                | (have := blk_set hb9 3 (.bool false); simpa using this)
                | (have := blk_set (blk_set hb9 1 (.string N)) 3 (.bool false); simpa using this)
            have B2W : W.heap[w.heap.size]? = some (.cells zeroH THd (0, 0)) := by
              rw [hW]
              first
                | exact B22
                | exact blk_far B22 (fun e => hne0 e.symm) _
                | exact blk_far (blk_far B22 (fun e => hne0 e.symm) _) (fun e => hne0 e.symm) _
            have B4W : W.heap[w.heap.size + 1]? = some (.cells #[.int .i64 (z0 : Int), .int .i64 (or : Int), .int .i64 (2 + (q0 : Int)), .int .i64 (1 + (c0 : Int)), .int .i64 nx, .int .i64 (s0 : Int), .slice Ao k co] THd (0, 0)) := by
              rw [hW]
              first
                | exact B42
                | exact blk_far B42 (fun e => hne1 e.symm) _
                | exact blk_far (blk_far B42 (fun e => hne1 e.symm) _) (fun e => hne1 e.symm) _
            have gxW : Ext w W := by
              rw [hW]
              first
                | exact gx8
                | exact gx8.sets hg8w _
                | exact (gx8.sets hg8w _).sets hg8w _
            have hownW : OwnL TMk 4 mkR W (w.heap.size + 2) Ao k co ms := by
              rw [hW]
              first
                | exact hown2
                | exact hown2.farM hrn _
                | exact (hown2.farM hrn _).farM hrn _
            have hcW : W.heap.size = wm.heap.size := by
              first
                | (rw [hW]; done)
                | (rw [hW]; simp)
            have x6 := blk_cell B4W 6
            have ss0 := blk_cell bW 0
            have ss1 := blk_cell bW 1
            have ss2 := blk_cell bW 2
            have ss3 := blk_cell bW 3
            have lit := (mk_lit W ⟨nx, N, sz, false⟩).lst
            rw [hcW] at lit
            have B2H := Lib.hid (blk_ext B2W (Ext.alloc W (.cells #[.int .i64 nx, .string N, .int .i64 sz, .bool false] TMk)))
            have B4H := Lib.hid (blk_ext B4W (Ext.alloc W (.cells #[.int .i64 nx, .string N, .int .i64 sz, .bool false] TMk)))
            have LIT := Lib.hid lit
            have HOWN := Lib.hid hownW
            have HSZ : Hid (w.heap.size + 2 ≤ W.heap.size) := by unfold Hid; rw [hcW]; exact hsz8
            have GXW := Lib.hid gxW
            clear B2W B4W lit hownW gxW hcW bW HSX hown2 B22 B42 hb9 gx8
            subst hW
            go_wp2_with (
              at_builtin
              refine wpList_append_flatB mk_rep (fun x cs w h => mk_nop h) rfl _ _ _ _ rfl (w.heap.size + 2) (by have := HSZ.out; rw [World.size_alloc]; omega) TMk TMk im _ 40 under_mks under_mks him hm0 hm1 hm2 rfl Ao k co ms rfl (HOWN.out.ext mk_rep (Ext.alloc _ _)) _ 1 1 [⟨nx, N, sz, false⟩] rfl LIT.out (k + 1) rfl _ rfl (by simp only [maxLen]; omega) (by omega) ?_
              intro A3 c3 w5 hb3 hkeep hext hsz5
              have B25 := Lib.hid (hkeep _ _ (by omega) B2H.out)
              have B45 := Lib.hid (hkeep _ _ (by omega) B4H.out)
              have q6 := blk_cell B45.out 6
              have r6 := blk_frozen B45.out 6)
            obtain ⟨w6, hw6⟩ : ∃ q, q = w5.setCell ⟨w.heap.size + 1, 6, none⟩ (.slice A3 (k + 1) c3) := ⟨_, rfl⟩
            have gx6 : Ext w w6 := by rw [hw6]; exact (hext w (GXW.out.allocs _) (by omega)).sets (p := ⟨w.heap.size + 1, 6, none⟩) (by simp) (.slice A3 (k + 1) c3)
            have B26 : Hid (w6.heap[w.heap.size]? = some (.cells zeroH THd (0, 0))) := by unfold Hid; rw [hw6]; exact blk_far B25.out (by simp) _
            have B46 : Hid (w6.heap[w.heap.size + 1]? = some (.cells #[.int .i64 (z0 : Int), .int .i64 (or : Int), .int .i64 (2 + (q0 : Int)), .int .i64 (1 + (c0 : Int)), .int .i64 nx, .int .i64 (s0 : Int), .slice A3 (k + 1) c3] THd (0, 0))) := by
              unfold Hid
              rw [hw6]
              have := blk_set B45.out 6 (.slice A3 (k + 1) c3)
              simpa using this
            have hown6 : OwnL TMk 4 mkR w6 (w.heap.size + 2) A3 (k + 1) c3 (ms ++ [⟨nx, N, sz, false⟩]) := by
              rw [hw6]
              exact hb3.farM (p := ⟨w.heap.size + 1, 6, none⟩) (fun g hg => by have := (hb3.row_lt g hg).1; simp only; omega) _
            have hsz6 : w.heap.size + 2 ≤ w6.heap.size := by rw [hw6]; simp; omega
            have v6 := gx6.cell E0.out
            have n6 := blk_cell B46.out 4
            go_wp2_with fail
            rw [← hw6]
            clear hw6 q6 r6 B25 B45 hext hkeep B2H B4H LIT HOWN HSZ hb3 GXW x6 hsz5
            refine wp_region_typed2 (R := But w6.heap.size (fun q => q = w.heap.size + 1)) Ext.steady (But.steady _ _) (fun _ _ => But.of_ext) rfl 111 rfl [0, 1, 3, 0, 0, 24, 56, 120, 248, 511, 1023, 2047] 2048 (by kernel_rfl) ?_
            -- 0: Op.fieldAddr 43 t11 2
            apply Stage2.step (Is _) true [] true false (Is.keeps _) (fun _ => Is.keeps _) (by kernel_rfl)
            · intro w1 h1
              have h1 : Ext _ w1 := h1
              simp only [List.nil_append, List.cons_append, List.map_cons, List.map_nil, Given]
              go_wp2_with fail
              exact Post.isv (Ext.refl _) rfl rfl rfl
            -- 1: Op.load 3 t99
            apply Stage2.step (Is (.int .i64 nx)) true [true] true false (Is.keeps _) (fun _ => Is.keeps _) (by kernel_rfl)
            · intro w1 h1
              have h1 : Ext _ w1 := h1
              simp only [List.nil_append, List.cons_append, List.map_cons, List.map_nil, Sp.pr, Given]
              rintro _ rfl
              have q0 := h1.cell n6
              go_wp2_with fail
              exact Post.isv (Ext.refl _) rfl rfl rfl
            -- 2: Op.binOp BinOp.add 3 t100 (const (1:i64)) 3
            apply Stage2.step (Is _) true [false, true] true false (Is.keeps _) (fun _ => Is.keeps _) (by kernel_rfl)
            · intro w1 h1
              have h1 : Ext _ w1 := h1
              simp only [List.nil_append, List.cons_append, List.map_cons, List.map_nil, Sp.pr, Given]
              rintro _ rfl
              go_wp2_with fail
              exact Post.isv (Ext.refl _) rfl rfl rfl
            -- 3: Op.move t4
            apply Stage2.step (Is _) true [] true false (Is.keeps _) (fun _ => Is.keeps _) (by kernel_rfl)
            · intro w1 h1
              have h1 : Ext _ w1 := h1
              simp only [List.nil_append, List.cons_append, List.map_cons, List.map_nil, Given]
              go_wp2_with fail
              exact Post.isv (Ext.refl _) rfl rfl rfl
            -- 4: Op.move t14
            apply Stage2.step (Is _) true [] true false (Is.keeps _) (fun _ => Is.keeps _) (by kernel_rfl)
            · intro w1 h1
              have h1 : Ext _ w1 := h1
              simp only [List.nil_append, List.cons_append, List.map_cons, List.map_nil, Given]
              go_wp2_with fail
              exact Post.isv (Ext.refl _) rfl rfl rfl
            -- 5: Op.indexAddr 22 t102 t103
            apply Stage2.step (Is _) true [false, false, false, true, true] true false (Is.keeps _) (fun _ => Is.keeps _) (by kernel_rfl)
            · intro w1 h1
              have h1 : Ext _ w1 := h1
              simp only [List.nil_append, List.cons_append, List.map_cons, List.map_nil, Sp.pr, Given]
              rintro _ rfl
              rintro _ rfl
              go_wp2_with fail
              exact Post.isv (Ext.refl _) rfl rfl rfl
            -- 6: Op.load 3 t104
            apply Stage2.step (Is (.int .i64 v)) true [false, false, false, false, false, true] true false (Is.keeps _) (fun _ => Is.keeps _) (by kernel_rfl)
            · intro w1 h1
              have h1 : Ext _ w1 := h1
              simp only [List.nil_append, List.cons_append, List.map_cons, List.map_nil, Sp.pr, Given]
              rintro _ rfl
              have q0 := h1.cell v6
              go_wp2_with fail
              exact Post.isv (Ext.refl _) rfl rfl rfl
            -- 7: Op.binOp BinOp.shr 3 t105 (const (14:u64)) 46
            apply Stage2.step (Is _) true [false, false, false, false, false, false, true] true false (Is.keeps _) (fun _ => Is.keeps _) (by kernel_rfl)
            · intro w1 h1
              have h1 : Ext _ w1 := h1
              simp only [List.nil_append, List.cons_append, List.map_cons, List.map_nil, Sp.pr, Given]
              rintro _ rfl
              go_wp2_with fail
              exact Post.isv (Ext.refl _) rfl rfl rfl
            -- 8: Op.binOp BinOp.and 3 t106 (const (1:i64)) 3
            apply Stage2.step (Is (.int .i64 tn)) true [false, false, false, false, false, false, false, true] true false (Is.keeps _) (fun _ => Is.keeps _) (by kernel_rfl)
            · intro w1 h1
              have h1 : Ext _ w1 := h1
              simp only [List.nil_append, List.cons_append, List.map_cons, List.map_nil, Sp.pr, Given]
              rintro _ rfl
              go_wp2_with fail
              exact Post.isv (Ext.refl _) rfl rfl rfl
            -- 9: Op.binOp BinOp.add 3 t101 t107 3
            apply Stage2.step (Is (.int .i64 (nx + 1 + tn))) true [false, false, true, false, false, false, false, false, true] true false (Is.keeps _) (fun _ => Is.keeps _) (by kernel_rfl)
            · intro w1 h1
              have h1 : Ext _ w1 := h1
              simp only [List.nil_append, List.cons_append, List.map_cons, List.map_nil, Sp.pr, Given]
              rintro _ rfl
              rintro _ rfl
              go_wp2_with fail
              exact Post.isv (Ext.refl _) rfl rfl rfl
            -- 10: Op.fieldAddr 43 t11 2
            apply Stage2.step (Is _) true [] true false (Is.keeps _) (fun _ => Is.keeps _) (by kernel_rfl)
            · intro w1 h1
              have h1 : Ext _ w1 := h1
              simp only [List.nil_append, List.cons_append, List.map_cons, List.map_nil, Given]
              go_wp2_with fail
              exact Post.isv (Ext.refl _) rfl rfl rfl
            -- 11: Op.store 3 t109 t108
            apply Stage2.step (AftT w.heap.size zeroH #[.int .i64 (z0 : Int), .int .i64 (or : Int), .int .i64 (2 + (q0 : Int)), .int .i64 (1 + (c0 : Int)), .int .i64 (nx + 1 + tn), .int .i64 (s0 : Int), .slice A3 (k + 1) c3] (w.heap.size + 2) A3 (k + 1) c3 (ms ++ [⟨nx, N, sz, false⟩])) false [false, false, false, false, false, false, false, false, false, true, true] true true (AftT.keeps _ _ _ _ _ _ _ _) (no_keeps) (by kernel_rfl)
            · intro w1 h1
              have h1 : Ext _ w1 := h1
              simp only [List.nil_append, List.cons_append, List.map_cons, List.map_nil, Sp.pr, Given]
              rintro _ rfl
              rintro _ rfl
              have y2 := blk_ext B26.out h1
              have y4 := blk_ext B46.out h1
              have q4 := blk_cell y4 4
              have r4 := blk_frozen y4 4
              have hs1 := h1.size
              have Y2 := Lib.hid y2
              have Y4 := Lib.hid y4
              clear y2 y4
              go_wp2_with fail
              refine ⟨rfl, rfl, But.setCell (S := fun q => q = w.heap.size + 1) (But.refl w6.heap.size (fun q => q = w.heap.size + 1) w1) (p := ⟨w.heap.size + 1, 4, none⟩) (.inl rfl) _, blk_far Y2.out (by simp) _, ?_, (hown6.ext mk_rep h1).farM (p := ⟨w.heap.size + 1, 4, none⟩) (fun g hg => by have := (hown6.row_lt g hg).1; simp only; omega) _, by simp; omega⟩
              have := blk_set Y4.out 4 (.int .i64 (nx + 1 + tn))
              simpa using this
            apply Stage2.nil [true, true, true, true, true, true, true, true, true, true, true, true] (by kernel_rfl)
            intro w1 h1
            have h1 : (But w6.heap.size (fun q => q = w.heap.size + 1)) _ w1 := h1
            simp only [List.nil_append, List.cons_append, List.map_cons, List.map_nil, Sp.pr]
            refine Fin2.is_ ?_
            refine Fin2.is_ ?_
            refine Fin2.is_ ?_
            refine Fin2.is_ ?_
            refine Fin2.is_ ?_
            refine Fin2.is_ ?_
            refine Fin2.is_ ?_
            refine Fin2.is_ ?_
            refine Fin2.is_ ?_
            refine Fin2.is_ ?_
            refine Fin2.is_ ?_
            refine Fin2.step_ ?_
            rintro _ ⟨a26, a46, aown, asz⟩
            refine Fin2.nil_ ?_
            go_simp
            have A26 := Lib.hid a26
            have A46 := Lib.hid a46
            clear a26 a46
            go_wp2_with fail
            go_roundw
            case rel => exact ⟨k + 1, _, nx + 1 + tn, (sn + 1), hd, A3, c3, by omega, by omega, by omega, by omega, by omega, by go_num, rfl, by go_num, A26, A46, aown, HMS, gx6.but h1 (by omega) (fun g hg => by omega), asz⟩
            case measure => simp [intOf]; omega
      | true =>
        cases hd with
        | true =>
          cases g with
          | true =>
            skip
            have HMS : Hid (mkF (l.take (k + 1)) 0 st0 = ⟨ms ++ [⟨nx, N, sz, true⟩], nx + 1 + tn, sn, true⟩) := by
              unfold Hid
              rw [HSX.out]
              first
                | rfl
                | (simp; done)
                | (simp [rfl]; done)
            obtain ⟨W, hW⟩ : ∃ W, W = wm := ⟨_, rfl⟩
            have bW : W.heap[g8]? = some (.cells #[.int .i64 nx, .string N, .int .i64 sz, .bool true] TMk (0, 0)) := by
              rw [hW]
              first
                | exact hb9
                | (have := blk_set hb9 3 (.bool true); simpa using this)
                | (have := blk_set (blk_set hb9 1 (.string N)) 3 (.bool true); simpa using this)
            have B2W : W.heap[w.heap.size]? = some (.cells zeroH THd (0, 0)) := by
              rw [hW]
              first
                | exact B22
                | exact blk_far B22 (fun e => hne0 e.symm) _
                | exact blk_far (blk_far B22 (fun e => hne0 e.symm) _) (fun e => hne0 e.symm) _
            have B4W : W.heap[w.heap.size + 1]? = some (.cells #[.int .i64 (z0 : Int), .int .i64 (or : Int), .int .i64 (2 + (q0 : Int)), .int .i64 (1 + (c0 : Int)), .int .i64 nx, .int .i64 (s0 : Int), .slice Ao k co] THd (0, 0)) := by
              rw [hW]
              first
                | exact B42
                | exact blk_far B42 (fun e => hne1 e.symm) _
                | exact blk_far (blk_far B42 (fun e => hne1 e.symm) _) (fun e => hne1 e.symm) _
            have gxW : Ext w W := by
              rw [hW]
              first
                | exact gx8
                | exact gx8.sets hg8w _
                | exact (gx8.sets hg8w _).sets hg8w _
            have hownW : OwnL TMk 4 mkR W (w.heap.size + 2) Ao k co ms := by
              rw [hW]
              first
                | exact hown2
                | exact hown2.farM hrn _
                | exact (hown2.farM hrn _).farM hrn _
            have hcW : W.heap.size = wm.heap.size := by
              first
                | (rw [hW]; done)
                | (rw [hW]; simp)
            have x6 := blk_cell B4W 6
            have ss0 := blk_cell bW 0
            have ss1 := blk_cell bW 1
            have ss2 := blk_cell bW 2
            have ss3 := blk_cell bW 3
            have lit := (mk_lit W ⟨nx, N, sz, true⟩).lst
            rw [hcW] at lit
            have B2H := Lib.hid (blk_ext B2W (Ext.alloc W (.cells #[.int .i64 nx, .string N, .int .i64 sz, .bool true] TMk)))
            have B4H := Lib.hid (blk_ext B4W (Ext.alloc W (.cells #[.int .i64 nx, .string N, .int .i64 sz, .bool true] TMk)))
            have LIT := Lib.hid lit
            have HOWN := Lib.hid hownW
            have HSZ : Hid (w.heap.size + 2 ≤ W.heap.size) := by unfold Hid; rw [hcW]; exact hsz8
            have GXW := Lib.hid gxW
            clear B2W B4W lit hownW gxW hcW bW HSX hown2 B22 B42 hb9 gx8
            subst hW
            go_wp2_with (
              at_builtin
              refine wpList_append_flatB mk_rep (fun x cs w h => mk_nop h) rfl _ _ _ _ rfl (w.heap.size + 2) (by have := HSZ.out; rw [World.size_alloc]; omega) TMk TMk im _ 40 under_mks under_mks him hm0 hm1 hm2 rfl Ao k co ms rfl (HOWN.out.ext mk_rep (Ext.alloc _ _)) _ 1 1 [⟨nx, N, sz, true⟩] rfl LIT.out (k + 1) rfl _ rfl (by simp only [maxLen]; omega) (by omega) ?_
              intro A3 c3 w5 hb3 hkeep hext hsz5
              have B25 := Lib.hid (hkeep _ _ (by omega) B2H.out)
              have B45 := Lib.hid (hkeep _ _ (by omega) B4H.out)
              have q6 := blk_cell B45.out 6
              have r6 := blk_frozen B45.out 6)
            obtain ⟨w6, hw6⟩ : ∃ q, q = w5.setCell ⟨w.heap.size + 1, 6, none⟩ (.slice A3 (k + 1) c3) := ⟨_, rfl⟩
            have gx6 : Ext w w6 := by rw [hw6]; exact (hext w (GXW.out.allocs _) (by omega)).sets (p := ⟨w.heap.size + 1, 6, none⟩) (by simp) (.slice A3 (k + 1) c3)
            have B26 : Hid (w6.heap[w.heap.size]? = some (.cells zeroH THd (0, 0))) := by unfold Hid; rw [hw6]; exact blk_far B25.out (by simp) _
            have B46 : Hid (w6.heap[w.heap.size + 1]? = some (.cells #[.int .i64 (z0 : Int), .int .i64 (or : Int), .int .i64 (2 + (q0 : Int)), .int .i64 (1 + (c0 : Int)), .int .i64 nx, .int .i64 (s0 : Int), .slice A3 (k + 1) c3] THd (0, 0))) := by
              unfold Hid
              rw [hw6]
              have := blk_set B45.out 6 (.slice A3 (k + 1) c3)
              simpa using this
            have hown6 : OwnL TMk 4 mkR w6 (w.heap.size + 2) A3 (k + 1) c3 (ms ++ [⟨nx, N, sz, true⟩]) := by
              rw [hw6]
              exact hb3.farM (p := ⟨w.heap.size + 1, 6, none⟩) (fun g hg => by have := (hb3.row_lt g hg).1; simp only; omega) _
            have hsz6 : w.heap.size + 2 ≤ w6.heap.size := by rw [hw6]; simp; omega
            have v6 := gx6.cell E0.out
            have n6 := blk_cell B46.out 4
            go_wp2_with fail
            rw [← hw6]
            clear hw6 q6 r6 B25 B45 hext hkeep B2H B4H LIT HOWN HSZ hb3 GXW x6 hsz5
            refine wp_region_typed2 (R := But w6.heap.size (fun q => q = w.heap.size + 1)) Ext.steady (But.steady _ _) (fun _ _ => But.of_ext) rfl 111 rfl [0, 1, 3, 0, 0, 24, 56, 120, 248, 511, 1023, 2047] 2048 (by kernel_rfl) ?_
            -- 0: Op.fieldAddr 43 t11 2
            apply Stage2.step (Is _) true [] true false (Is.keeps _) (fun _ => Is.keeps _) (by kernel_rfl)
            · intro w1 h1
              have h1 : Ext _ w1 := h1
              simp only [List.nil_append, List.cons_append, List.map_cons, List.map_nil, Given]
              go_wp2_with fail
              exact Post.isv (Ext.refl _) rfl rfl rfl
            -- 1: Op.load 3 t99
            apply Stage2.step (Is (.int .i64 nx)) true [true] true false (Is.keeps _) (fun _ => Is.keeps _) (by kernel_rfl)
            · intro w1 h1
              have h1 : Ext _ w1 := h1
              simp only [List.nil_append, List.cons_append, List.map_cons, List.map_nil, Sp.pr, Given]
              rintro _ rfl
              have q0 := h1.cell n6
              go_wp2_with fail
              exact Post.isv (Ext.refl _) rfl rfl rfl
            -- 2: Op.binOp BinOp.add 3 t100 (const (1:i64)) 3
            apply Stage2.step (Is _) true [false, true] true false (Is.keeps _) (fun _ => Is.keeps _) (by kernel_rfl)
            · intro w1 h1
              have h1 : Ext _ w1 := h1
              simp only [List.nil_append, List.cons_append, List.map_cons, List.map_nil, Sp.pr, Given]
              rintro _ rfl
              go_wp2_with fail
              exact Post.isv (Ext.refl _) rfl rfl rfl
            -- 3: Op.move t4
            apply Stage2.step (Is _) true [] true false (Is.keeps _) (fun _ => Is.keeps _) (by kernel_rfl)
            · intro w1 h1
              have h1 : Ext _ w1 := h1
              simp only [List.nil_append, List.cons_append, List.map_cons, List.map_nil, Given]
              go_wp2_with fail
              exact Post.isv (Ext.refl _) rfl rfl rfl
            -- 4: Op.move t14
            apply Stage2.step (Is _) true [] true false (Is.keeps _) (fun _ => Is.keeps _) (by kernel_rfl)
            · intro w1 h1
              have h1 : Ext _ w1 := h1
              simp only [List.nil_append, List.cons_append, List.map_cons, List.map_nil, Given]
              go_wp2_with fail
              exact Post.isv (Ext.refl _) rfl rfl rfl
            -- 5: Op.indexAddr 22 t102 t103
            apply Stage2.step (Is _) true [false, false, false, true, true] true false (Is.keeps _) (fun _ => Is.keeps _) (by kernel_rfl)
            · intro w1 h1
              have h1 : Ext _ w1 := h1
              simp only [List.nil_append, List.cons_append, List.map_cons, List.map_nil, Sp.pr, Given]
              rintro _ rfl
              rintro _ rfl
              go_wp2_with fail
              exact Post.isv (Ext.refl _) rfl rfl rfl
            -- 6: Op.load 3 t104
            apply Stage2.step (Is (.int .i64 v)) true [false, false, false, false, false, true] true false (Is.keeps _) (fun _ => Is.keeps _) (by kernel_rfl)
            · intro w1 h1
              have h1 : Ext _ w1 := h1
              simp only [List.nil_append, List.cons_append, List.map_cons, List.map_nil, Sp.pr, Given]
              rintro _ rfl
              have q0 := h1.cell v6
              go_wp2_with fail
              exact Post.isv (Ext.refl _) rfl rfl rfl
            -- 7: Op.binOp BinOp.shr 3 t105 (const (14:u64)) 46
            apply Stage2.step (Is _) true [false, false, false, false, false, false, true] true false (Is.keeps _) (fun _ => Is.keeps _) (by kernel_rfl)
            · intro w1 h1
              have h1 : Ext _ w1 := h1
              simp only [List.nil_append, List.cons_append, List.map_cons, List.map_nil, Sp.pr, Given]
              rintro _ rfl
              go_wp2_with fail
              exact Post.isv (Ext.refl _) rfl rfl rfl
            -- 8: Op.binOp BinOp.and 3 t106 (const (1:i64)) 3
            apply Stage2.step (Is (.int .i64 tn)) true [false, false, false, false, false, false, false, true] true false (Is.keeps _) (fun _ => Is.keeps _) (by kernel_rfl)
            · intro w1 h1
              have h1 : Ext _ w1 := h1
              simp only [List.nil_append, List.cons_append, List.map_cons, List.map_nil, Sp.pr, Given]
              rintro _ rfl
              go_wp2_with fail
              exact Post.isv (Ext.refl _) rfl rfl rfl
            -- 9: Op.binOp BinOp.add 3 t101 t107 3
            apply Stage2.step (Is (.int .i64 (nx + 1 + tn))) true [false, false, true, false, false, false, false, false, true] true false (Is.keeps _) (fun _ => Is.keeps _) (by kernel_rfl)
            · intro w1 h1
              have h1 : Ext _ w1 := h1
              simp only [List.nil_append, List.cons_append, List.map_cons, List.map_nil, Sp.pr, Given]
              rintro _ rfl
              rintro _ rfl
              go_wp2_with fail
              exact Post.isv (Ext.refl _) rfl rfl rfl
            -- 10: Op.fieldAddr 43 t11 2
            apply Stage2.step (Is _) true [] true false (Is.keeps _) (fun _ => Is.keeps _) (by kernel_rfl)
            · intro w1 h1
              have h1 : Ext _ w1 := h1
              simp only [List.nil_append, List.cons_append, List.map_cons, List.map_nil, Given]
              go_wp2_with fail
              exact Post.isv (Ext.refl _) rfl rfl rfl
            -- 11: Op.store 3 t109 t108
            apply Stage2.step (AftT w.heap.size zeroH #[.int .i64 (z0 : Int), .int .i64 (or : Int), .int .i64 (2 + (q0 : Int)), .int .i64 (1 + (c0 : Int)), .int .i64 (nx + 1 + tn), .int .i64 (s0 : Int), .slice A3 (k + 1) c3] (w.heap.size + 2) A3 (k + 1) c3 (ms ++ [⟨nx, N, sz, true⟩])) false [false, false, false, false, false, false, false, false, false, true, true] true true (AftT.keeps _ _ _ _ _ _ _ _) (no_keeps) (by kernel_rfl)
            · intro w1 h1
              have h1 : Ext _ w1 := h1
              simp only [List.nil_append, List.cons_append, List.map_cons, List.map_nil, Sp.pr, Given]
              rintro _ rfl
              rintro _ rfl
              have y2 := blk_ext B26.out h1
              have y4 := blk_ext B46.out h1
              have q4 := blk_cell y4 4
              have r4 := blk_frozen y4 4
              have hs1 := h1.size
              have Y2 := Lib.hid y2
              have Y4 := Lib.hid y4
              clear y2 y4
              go_wp2_with fail
              refine ⟨rfl, rfl, But.setCell (S := fun q => q = w.heap.size + 1) (But.refl w6.heap.size (fun q => q = w.heap.size + 1) w1) (p := ⟨w.heap.size + 1, 4, none⟩) (.inl rfl) _, blk_far Y2.out (by simp) _, ?_, (hown6.ext mk_rep h1).farM (p := ⟨w.heap.size + 1, 4, none⟩) (fun g hg => by have := (hown6.row_lt g hg).1; simp only; omega) _, by simp; omega⟩
              have := blk_set Y4.out 4 (.int .i64 (nx + 1 + tn))
              simpa using this
            apply Stage2.nil [true, true, true, true, true, true, true, true, true, true, true, true] (by kernel_rfl)
            intro w1 h1
            have h1 : (But w6.heap.size (fun q => q = w.heap.size + 1)) _ w1 := h1
            simp only [List.nil_append, List.cons_append, List.map_cons, List.map_nil, Sp.pr]
            refine Fin2.is_ ?_
            refine Fin2.is_ ?_
            refine Fin2.is_ ?_
            refine Fin2.is_ ?_
            refine Fin2.is_ ?_
            refine Fin2.is_ ?_
            refine Fin2.is_ ?_
            refine Fin2.is_ ?_
            refine Fin2.is_ ?_
            refine Fin2.is_ ?_
            refine Fin2.is_ ?_
            refine Fin2.step_ ?_
            rintro _ ⟨a26, a46, aown, asz⟩
            refine Fin2.nil_ ?_
            go_simp
            have A26 := Lib.hid a26
            have A46 := Lib.hid a46
            clear a26 a46
            go_wp2_with fail
            go_roundw
            case rel => exact ⟨k + 1, _, nx + 1 + tn, sn, true, A3, c3, by omega, by omega, by omega, by omega, by omega, by go_num, rfl, by go_num, A26, A46, aown, HMS, gx6.but h1 (by omega) (fun g hg => by omega), asz⟩
            case measure => simp [intOf]; omega
          | false =>
            by_cases h8 : sn = 8
            · subst h8
              have HMS : Hid (mkF (l.take (k + 1)) 0 st0 = ⟨ms ++ [⟨nx, N, sz, true⟩], nx + 1 + tn, 8, true⟩) := by
                unfold Hid
                rw [HSX.out]
                first
                  | rfl
                  | (simp; done)
                  | (simp [rfl]; done)
              obtain ⟨W, hW⟩ : ∃ W, W = wm.setCell ⟨g8, 3, none⟩ (.bool true) := ⟨_, rfl⟩
              have bW : W.heap[g8]? = some (.cells #[.int .i64 nx, .string N, .int .i64 sz, .bool true] TMk (0, 0)) := by
                rw [hW]
                first
                  | exact hb9
                  | (have := blk_set hb9 3 (.bool true); simpa using this)
                  | (have := blk_set (blk_set hb9 1 (.string N)) 3 (.bool true); simpa using this)
              have B2W : W.heap[w.heap.size]? = some (.cells zeroH THd (0, 0)) := by
                rw [hW]
                first
                  | exact B22
                  | exact blk_far B22 (fun e => hne0 e.symm) _
                  | exact blk_far (blk_far B22 (fun e => hne0 e.symm) _) (fun e => hne0 e.symm) _
              have B4W : W.heap[w.heap.size + 1]? = some (.cells #[.int .i64 (z0 : Int), .int .i64 (or : Int), .int .i64 (2 + (q0 : Int)), .int .i64 (1 + (c0 : Int)), .int .i64 nx, .int .i64 (s0 : Int), .slice Ao k co] THd (0, 0)) := by
                rw [hW]
                first
                  | exact B42
                  | exact blk_far B42 (fun e => hne1 e.symm) _
                  | exact blk_far (blk_far B42 (fun e => hne1 e.symm) _) (fun e => hne1 e.symm) _
              have gxW : Ext w W := by
                rw [hW]
                first
                  | exact gx8
                  | exact gx8.sets hg8w _
                  | exact (gx8.sets hg8w _).sets hg8w _
              have hownW : OwnL TMk 4 mkR W (w.heap.size + 2) Ao k co ms := by
                rw [hW]
                first
                  | exact hown2
                  | exact hown2.farM hrn _
                  | exact (hown2.farM hrn _).farM hrn _
              have hcW : W.heap.size = wm.heap.size := by
                first
                  | (rw [hW]; done)
                  | (rw [hW]; simp)
              have x6 := blk_cell B4W 6
              have ss0 := blk_cell bW 0
              have ss1 := blk_cell bW 1
              have ss2 := blk_cell bW 2
              have ss3 := blk_cell bW 3
              have lit := (mk_lit W ⟨nx, N, sz, true⟩).lst
              rw [hcW] at lit
              have B2H := Lib.hid (blk_ext B2W (Ext.alloc W (.cells #[.int .i64 nx, .string N, .int .i64 sz, .bool true] TMk)))
              have B4H := Lib.hid (blk_ext B4W (Ext.alloc W (.cells #[.int .i64 nx, .string N, .int .i64 sz, .bool true] TMk)))
              have LIT := Lib.hid lit
              have HOWN := Lib.hid hownW
              have HSZ : Hid (w.heap.size + 2 ≤ W.heap.size) := by unfold Hid; rw [hcW]; exact hsz8
              have GXW := Lib.hid gxW
              clear B2W B4W lit hownW gxW hcW bW HSX hown2 B22 B42 hb9 gx8
              subst hW
              go_wp2_with (
                at_builtin
                refine wpList_append_flatB mk_rep (fun x cs w h => mk_nop h) rfl _ _ _ _ rfl (w.heap.size + 2) (by have := HSZ.out; rw [World.size_alloc]; omega) TMk TMk im _ 40 under_mks under_mks him hm0 hm1 hm2 rfl Ao k co ms rfl (HOWN.out.ext mk_rep (Ext.alloc _ _)) _ 1 1 [⟨nx, N, sz, true⟩] rfl LIT.out (k + 1) rfl _ rfl (by simp only [maxLen]; omega) (by omega) ?_
                intro A3 c3 w5 hb3 hkeep hext hsz5
                have B25 := Lib.hid (hkeep _ _ (by omega) B2H.out)
                have B45 := Lib.hid (hkeep _ _ (by omega) B4H.out)
                have q6 := blk_cell B45.out 6
                have r6 := blk_frozen B45.out 6)
              obtain ⟨w6, hw6⟩ : ∃ q, q = w5.setCell ⟨w.heap.size + 1, 6, none⟩ (.slice A3 (k + 1) c3) := ⟨_, rfl⟩
              have gx6 : Ext w w6 := by rw [hw6]; exact (hext w (GXW.out.allocs _) (by omega)).sets (p := ⟨w.heap.size + 1, 6, none⟩) (by simp) (.slice A3 (k + 1) c3)
              have B26 : Hid (w6.heap[w.heap.size]? = some (.cells zeroH THd (0, 0))) := by unfold Hid; rw [hw6]; exact blk_far B25.out (by simp) _
              have B46 : Hid (w6.heap[w.heap.size + 1]? = some (.cells #[.int .i64 (z0 : Int), .int .i64 (or : Int), .int .i64 (2 + (q0 : Int)), .int .i64 (1 + (c0 : Int)), .int .i64 nx, .int .i64 (s0 : Int), .slice A3 (k + 1) c3] THd (0, 0))) := by
                unfold Hid
                rw [hw6]
                have := blk_set B45.out 6 (.slice A3 (k + 1) c3)
                simpa using this
              have hown6 : OwnL TMk 4 mkR w6 (w.heap.size + 2) A3 (k + 1) c3 (ms ++ [⟨nx, N, sz, true⟩]) := by
                rw [hw6]
                exact hb3.farM (p := ⟨w.heap.size + 1, 6, none⟩) (fun g hg => by have := (hb3.row_lt g hg).1; simp only; omega) _
              have hsz6 : w.heap.size + 2 ≤ w6.heap.size := by rw [hw6]; simp; omega
              have v6 := gx6.cell E0.out
              have n6 := blk_cell B46.out 4
              go_wp2_with fail
              rw [← hw6]
              clear hw6 q6 r6 B25 B45 hext hkeep B2H B4H LIT HOWN HSZ hb3 GXW x6 hsz5
              refine wp_region_typed2 (R := But w6.heap.size (fun q => q = w.heap.size + 1)) Ext.steady (But.steady _ _) (fun _ _ => But.of_ext) rfl 111 rfl [0, 1, 3, 0, 0, 24, 56, 120, 248, 511, 1023, 2047] 2048 (by kernel_rfl) ?_
              -- 0: Op.fieldAddr 43 t11 2
              apply Stage2.step (Is _) true [] true false (Is.keeps _) (fun _ => Is.keeps _) (by kernel_rfl)
              · intro w1 h1
                have h1 : Ext _ w1 := h1
                simp only [List.nil_append, List.cons_append, List.map_cons, List.map_nil, Given]
                go_wp2_with fail
                exact Post.isv (Ext.refl _) rfl rfl rfl
              -- 1: Op.load 3 t99
              apply Stage2.step (Is (.int .i64 nx)) true [true] true false (Is.keeps _) (fun _ => Is.keeps _) (by kernel_rfl)
              · intro w1 h1
                have h1 : Ext _ w1 := h1
                simp only [List.nil_append, List.cons_append, List.map_cons, List.map_nil, Sp.pr, Given]
                rintro _ rfl
                have q0 := h1.cell n6
                go_wp2_with fail
                exact Post.isv (Ext.refl _) rfl rfl rfl
              -- 2: Op.binOp BinOp.add 3 t100 (const (1:i64)) 3
              apply Stage2.step (Is _) true [false, true] true false (Is.keeps _) (fun _ => Is.keeps _) (by kernel_rfl)
              · intro w1 h1
                have h1 : Ext _ w1 := h1
                simp only [List.nil_append, List.cons_append, List.map_cons, List.map_nil, Sp.pr, Given]
                rintro _ rfl
                go_wp2_with fail
                exact Post.isv (Ext.refl _) rfl rfl rfl
              -- 3: Op.move t4
              apply Stage2.step (Is _) true [] true false (Is.keeps _) (fun _ => Is.keeps _) (by kernel_rfl)
              · intro w1 h1
                have h1 : Ext _ w1 := h1
                simp only [List.nil_append, List.cons_append, List.map_cons, List.map_nil, Given]
                go_wp2_with fail
                exact Post.isv (Ext.refl _) rfl rfl rfl
              -- 4: Op.move t14
              apply Stage2.step (Is _) true [] true false (Is.keeps _) (fun _ => Is.keeps _) (by kernel_rfl)
              · intro w1 h1
                have h1 : Ext _ w1 := h1
                simp only [List.nil_append, List.cons_append, List.map_cons, List.map_nil, Given]
                go_wp2_with fail
                exact Post.isv (Ext.refl _) rfl rfl rfl
              -- 5: Op.indexAddr 22 t102 t103
              apply Stage2.step (Is _) true [false, false, false, true, true] true false (Is.keeps _) (fun _ => Is.keeps _) (by kernel_rfl)
              · intro w1 h1
                have h1 : Ext _ w1 := h1
                simp only [List.nil_append, List.cons_append, List.map_cons, List.map_nil, Sp.pr, Given]
                rintro _ rfl
                rintro _ rfl
                go_wp2_with fail
                exact Post.isv (Ext.refl _) rfl rfl rfl
              -- 6: Op.load 3 t104
              apply Stage2.step (Is (.int .i64 v)) true [false, false, false, false, false, true] true false (Is.keeps _) (fun _ => Is.keeps _) (by kernel_rfl)
              · intro w1 h1
                have h1 : Ext _ w1 := h1
                simp only [List.nil_append, List.cons_append, List.map_cons, List.map_nil, Sp.pr, Given]
                rintro _ rfl
                have q0 := h1.cell v6
                go_wp2_with fail
                exact Post.isv (Ext.refl _) rfl rfl rfl
              -- 7: Op.binOp BinOp.shr 3 t105 (const (14:u64)) 46
              apply Stage2.step (Is _) true [false, false, false, false, false, false, true] true false (Is.keeps _) (fun _ => Is.keeps _) (by kernel_rfl)
              · intro w1 h1
                have h1 : Ext _ w1 := h1
                simp only [List.nil_append, List.cons_append, List.map_cons, List.map_nil, Sp.pr, Given]
                rintro _ rfl
                go_wp2_with fail
                exact Post.isv (Ext.refl _) rfl rfl rfl
              -- 8: Op.binOp BinOp.and 3 t106 (const (1:i64)) 3
              apply Stage2.step (Is (.int .i64 tn)) true [false, false, false, false, false, false, false, true] true false (Is.keeps _) (fun _ => Is.keeps _) (by kernel_rfl)
              · intro w1 h1
                have h1 : Ext _ w1 := h1
                simp only [List.nil_append, List.cons_append, List.map_cons, List.map_nil, Sp.pr, Given]
                rintro _ rfl
                go_wp2_with fail
                exact Post.isv (Ext.refl _) rfl rfl rfl
              -- 9: Op.binOp BinOp.add 3 t101 t107 3
              apply Stage2.step (Is (.int .i64 (nx + 1 + tn))) true [false, false, true, false, false, false, false, false, true] true false (Is.keeps _) (fun _ => Is.keeps _) (by kernel_rfl)
              · intro w1 h1
                have h1 : Ext _ w1 := h1
                simp only [List.nil_append, List.cons_append, List.map_cons, List.map_nil, Sp.pr, Given]
                rintro _ rfl
                rintro _ rfl
                go_wp2_with fail
                exact Post.isv (Ext.refl _) rfl rfl rfl
              -- 10: Op.fieldAddr 43 t11 2
              apply Stage2.step (Is _) true [] true false (Is.keeps _) (fun _ => Is.keeps _) (by kernel_rfl)
              · intro w1 h1
                have h1 : Ext _ w1 := h1
                simp only [List.nil_append, List.cons_append, List.map_cons, List.map_nil, Given]
                go_wp2_with fail
                exact Post.isv (Ext.refl _) rfl rfl rfl
              -- 11: Op.store 3 t109 t108
              apply Stage2.step (AftT w.heap.size zeroH #[.int .i64 (z0 : Int), .int .i64 (or : Int), .int .i64 (2 + (q0 : Int)), .int .i64 (1 + (c0 : Int)), .int .i64 (nx + 1 + tn), .int .i64 (s0 : Int), .slice A3 (k + 1) c3] (w.heap.size + 2) A3 (k + 1) c3 (ms ++ [⟨nx, N, sz, true⟩])) false [false, false, false, false, false, false, false, false, false, true, true] true true (AftT.keeps _ _ _ _ _ _ _ _) (no_keeps) (by kernel_rfl)
              · intro w1 h1
                have h1 : Ext _ w1 := h1
                simp only [List.nil_append, List.cons_append, List.map_cons, List.map_nil, Sp.pr, Given]
                rintro _ rfl
                rintro _ rfl
                have y2 := blk_ext B26.out h1
                have y4 := blk_ext B46.out h1
                have q4 := blk_cell y4 4
                have r4 := blk_frozen y4 4
                have hs1 := h1.size
                have Y2 := Lib.hid y2
                have Y4 := Lib.hid y4
                clear y2 y4
                go_wp2_with fail
                refine ⟨rfl, rfl, But.setCell (S := fun q => q = w.heap.size + 1) (But.refl w6.heap.size (fun q => q = w.heap.size + 1) w1) (p := ⟨w.heap.size + 1, 4, none⟩) (.inl rfl) _, blk_far Y2.out (by simp) _, ?_, (hown6.ext mk_rep h1).farM (p := ⟨w.heap.size + 1, 4, none⟩) (fun g hg => by have := (hown6.row_lt g hg).1; simp only; omega) _, by simp; omega⟩
                have := blk_set Y4.out 4 (.int .i64 (nx + 1 + tn))
                simpa using this
              apply Stage2.nil [true, true, true, true, true, true, true, true, true, true, true, true] (by kernel_rfl)
              intro w1 h1
              have h1 : (But w6.heap.size (fun q => q = w.heap.size + 1)) _ w1 := h1
              simp only [List.nil_append, List.cons_append, List.map_cons, List.map_nil, Sp.pr]
              refine Fin2.is_ ?_
              refine Fin2.is_ ?_
              refine Fin2.is_ ?_
              refine Fin2.is_ ?_
              refine Fin2.is_ ?_
              refine Fin2.is_ ?_
              refine Fin2.is_ ?_
              refine Fin2.is_ ?_
              refine Fin2.is_ ?_
              refine Fin2.is_ ?_
              refine Fin2.is_ ?_
              refine Fin2.step_ ?_
              rintro _ ⟨a26, a46, aown, asz⟩
              refine Fin2.nil_ ?_
              go_simp
              have A26 := Lib.hid a26
              have A46 := Lib.hid a46
              clear a26 a46
              go_wp2_with fail
              go_roundw
              case rel => exact ⟨k + 1, _, nx + 1 + tn, 8, true, A3, c3, by omega, by omega, by omega, by omega, by omega, by go_num, rfl, by go_num, A26, A46, aown, HMS, gx6.but h1 (by omega) (fun g hg => by omega), asz⟩
              case measure => simp [intOf]; omega
            · have h8b : ((sn : Int) == 8) = false := by simp; omega
              have HMS : Hid (mkF (l.take (k + 1)) 0 st0 = ⟨ms ++ [⟨nx, N, sz, false⟩], nx + 1 + tn, (sn + 1), true⟩) := by
                unfold Hid
                rw [HSX.out]
                first
                  | rfl
                  | (simp; done)
                  | (simp [h8]; done)
              obtain ⟨W, hW⟩ : ∃ W, W = wm := ⟨_, rfl⟩
              have bW : W.heap[g8]? = some (.cells #[.int .i64 nx, .string N, .int .i64 sz, .bool false] TMk (0, 0)) := by
                rw [hW]
                first
                  | exact hb9
                  | (have := blk_set hb9 3 (.bool false); simpa using this)
                  | (have := blk_set (blk_set hb9 1 (.string N)) 3 (.bool false); simpa using this)
              have B2W : W.heap[w.heap.size]? = some (.cells zeroH THd (0, 0)) := by
                rw [hW]
                first
                  | exact B22
                  | exact blk_far B22 (fun e => hne0 e.symm) _
                  | exact blk_far (blk_far B22 (fun e => hne0 e.symm) _) (fun e => hne0 e.symm) _
              have B4W : W.heap[w.heap.size + 1]? = some (.cells #[.int .i64 (z0 : Int), .int .i64 (or : Int), .int .i64 (2 + (q0 : Int)), .int .i64 (1 + (c0 : Int)), .int .i64 nx, .int .i64 (s0 : Int), .slice Ao k co] THd (0, 0)) := by
                rw [hW]
                first
                  | exact B42
                  | exact blk_far B42 (fun e => hne1 e.symm) _
                  | exact blk_far (blk_far B42 (fun e => hne1 e.symm) _) (fun e => hne1 e.symm) _
              have gxW : Ext w W := by
                rw [hW]
                first
                  | exact gx8
                  | exact gx8.sets hg8w _
                  | exact (gx8.sets hg8w _).sets hg8w _
              have hownW : OwnL TMk 4 mkR W (w.heap.size + 2) Ao k co ms := by
                rw [hW]
                first
                  | exact hown2
                  | exact hown2.farM hrn _
                  | exact (hown2.farM hrn _).farM hrn _
              have hcW : W.heap.size = wm.heap.size := by
                first
                  | (rw [hW]; done)
                  | (rw [hW]; simp)
              have x6 := blk_cell B4W 6
              have ss0 := blk_cell bW 0
              have ss1 := blk_cell bW 1
              have ss2 := blk_cell bW 2
              have ss3 := blk_cell bW 3
              have lit := (mk_lit W ⟨nx, N, sz, false⟩).lst
              rw [hcW] at lit
              have B2H := Lib.hid (blk_ext B2W (Ext.alloc W (.cells #[.int .i64 nx, .string N, .int .i64 sz, .bool false] TMk)))
              have B4H := Lib.hid (blk_ext B4W (Ext.alloc W (.cells #[.int .i64 nx, .string N, .int .i64 sz, .bool false] TMk)))
              have LIT := Lib.hid lit
              have HOWN := Lib.hid hownW
              have HSZ : Hid (w.heap.size + 2 ≤ W.heap.size) := by unfold Hid; rw [hcW]; exact hsz8
              have GXW := Lib.hid gxW
              clear B2W B4W lit hownW gxW hcW bW HSX hown2 B22 B42 hb9 gx8
              subst hW
              go_wp2_with (
                at_builtin
                refine wpList_append_flatB mk_rep (fun x cs w h => mk_nop h) rfl _ _ _ _ rfl (w.heap.size + 2) (by have := HSZ.out; rw [World.size_alloc]; omega) TMk TMk im _ 40 under_mks under_mks him hm0 hm1 hm2 rfl Ao k co ms rfl (HOWN.out.ext mk_rep (Ext.alloc _ _)) _ 1 1 [⟨nx, N, sz, false⟩] rfl LIT.out (k + 1) rfl _ rfl (by simp only [maxLen]; omega) (by omega) ?_
                intro A3 c3 w5 hb3 hkeep hext hsz5
                have B25 := Lib.hid (hkeep _ _ (by omega) B2H.out)
                have B45 := Lib.hid (hkeep _ _ (by omega) B4H.out)
                have q6 := blk_cell B45.out 6
                have r6 := blk_frozen B45.out 6)
              obtain ⟨w6, hw6⟩ : ∃ q, q = w5.setCell ⟨w.heap.size + 1, 6, none⟩ (.slice A3 (k + 1) c3) := ⟨_, rfl⟩
              have gx6 : Ext w w6 := by rw [hw6]; exact (hext w (GXW.out.allocs _) (by omega)).sets (p := ⟨w.heap.size + 1, 6, none⟩) (by simp) (.slice A3 (k + 1) c3)
              have B26 : Hid (w6.heap[w.heap.size]? = some (.cells zeroH THd (0, 0))) := by unfold Hid; rw [hw6]; exact blk_far B25.out (by simp) _
              have B46 : Hid (w6.heap[w.heap.size + 1]? = some (.cells #[.int .i64 (z0 : Int), .int .i64 (or : Int), .int .i64 (2 + (q0 : Int)), .int .i64 (1 + (c0 : Int)), .int .i64 nx, .int .i64 (s0 : Int), .slice A3 (k + 1) c3] THd (0, 0))) := by
                unfold Hid
                rw [hw6]
                have := blk_set B45.out 6 (.slice A3 (k + 1) c3)
                simpa using this
              have hown6 : OwnL TMk 4 mkR w6 (w.heap.size + 2) A3 (k + 1) c3 (ms ++ [⟨nx, N, sz, false⟩]) := by
                rw [hw6]
                exact hb3.farM (p := ⟨w.heap.size + 1, 6, none⟩) (fun g hg => by have := (hb3.row_lt g hg).1; simp only; omega) _
              have hsz6 : w.heap.size + 2 ≤ w6.heap.size := by rw [hw6]; simp; omega
              have v6 := gx6.cell E0.out
              have n6 := blk_cell B46.out 4
              go_wp2_with fail
              rw [← hw6]
              clear hw6 q6 r6 B25 B45 hext hkeep B2H B4H LIT HOWN HSZ hb3 GXW x6 hsz5
              refine wp_region_typed2 (R := But w6.heap.size (fun q => q = w.heap.size + 1)) Ext.steady (But.steady _ _) (fun _ _ => But.of_ext) rfl 111 rfl [0, 1, 3, 0, 0, 24, 56, 120, 248, 511, 1023, 2047] 2048 (by kernel_rfl) ?_
              -- 0: Op.fieldAddr 43 t11 2
              apply Stage2.step (Is _) true [] true false (Is.keeps _) (fun _ => Is.keeps _) (by kernel_rfl)
              · intro w1 h1
                have h1 : Ext _ w1 := h1
                simp only [List.nil_append, List.cons_append, List.map_cons, List.map_nil, Given]
                go_wp2_with fail
                exact Post.isv (Ext.refl _) rfl rfl rfl
              -- 1: Op.load 3 t99
              apply Stage2.step (Is (.int .i64 nx)) true [true] true false (Is.keeps _) (fun _ => Is.keeps _) (by kernel_rfl)
              · intro w1 h1
                have h1 : Ext _ w1 := h1
                simp only [List.nil_append, List.cons_append, List.map_cons, List.map_nil, Sp.pr, Given]
                rintro _ rfl
                have q0 := h1.cell n6
                go_wp2_with fail
                exact Post.isv (Ext.refl _) rfl rfl rfl
              -- 2: Op.binOp BinOp.add 3 t100 (const (1:i64)) 3
              apply Stage2.step (Is _) true [false, true] true false (Is.keeps _) (fun _ => Is.keeps _) (by kernel_rfl)
              · intro w1 h1
                have h1 : Ext _ w1 := h1
                simp only [List.nil_append, List.cons_append, List.map_cons, List.map_nil, Sp.pr, Given]
                rintro _ rfl
                go_wp2_with fail
                exact Post.isv (Ext.refl _) rfl rfl rfl
              -- 3: Op.move t4
              apply Stage2.step (Is _) true [] true false (Is.keeps _) (fun _ => Is.keeps _) (by kernel_rfl)
              · intro w1 h1
                have h1 : Ext _ w1 := h1
                simp only [List.nil_append, List.cons_append, List.map_cons, List.map_nil, Given]
                go_wp2_with fail
                exact Post.isv (Ext.refl _) rfl rfl rfl
              -- 4: Op.move t14
              apply Stage2.step (Is _) true [] true false (Is.keeps _) (fun _ => Is.keeps _) (by kernel_rfl)
              · intro w1 h1
                have h1 : Ext _ w1 := h1
                simp only [List.nil_append, List.cons_append, List.map_cons, List.map_nil, Given]
                go_wp2_with fail
                exact Post.isv (Ext.refl _) rfl rfl rfl
              -- 5: Op.indexAddr 22 t102 t103
              apply Stage2.step (Is _) true [false, false, false, true, true] true false (Is.keeps _) (fun _ => Is.keeps _) (by kernel_rfl)
              · intro w1 h1
                have h1 : Ext _ w1 := h1
                simp only [List.nil_append, List.cons_append, List.map_cons, List.map_nil, Sp.pr, Given]
                rintro _ rfl
                rintro _ rfl
                go_wp2_with fail
                exact Post.isv (Ext.refl _) rfl rfl rfl
              -- 6: Op.load 3 t104
              apply Stage2.step (Is (.int .i64 v)) true [false, false, false, false, false, true] true false (Is.keeps _) (fun _ => Is.keeps _) (by kernel_rfl)
              · intro w1 h1
                have h1 : Ext _ w1 := h1
                simp only [List.nil_append, List.cons_append, List.map_cons, List.map_nil, Sp.pr, Given]
                rintro _ rfl
                have q0 := h1.cell v6
                go_wp2_with fail
                exact Post.isv (Ext.refl _) rfl rfl rfl
              -- 7: Op.binOp BinOp.shr 3 t105 (const (14:u64)) 46
              apply Stage2.step (Is _) true [false, false, false, false, false, false, true] true false (Is.keeps _) (fun _ => Is.keeps _) (by kernel_rfl)
              · intro w1 h1
                have h1 : Ext _ w1 := h1
                simp only [List.nil_append, List.cons_append, List.map_cons, List.map_nil, Sp.pr, Given]
                rintro _ rfl
                go_wp2_with fail
                exact Post.isv (Ext.refl _) rfl rfl rfl
              -- 8: Op.binOp BinOp.and 3 t106 (const (1:i64)) 3
              apply Stage2.step (Is (.int .i64 tn)) true [false, false, false, false, false, false, false, true] true false (Is.keeps _) (fun _ => Is.keeps _) (by kernel_rfl)
              · intro w1 h1
                have h1 : Ext _ w1 := h1
                simp only [List.nil_append, List.cons_append, List.map_cons, List.map_nil, Sp.pr, Given]
                rintro _ rfl
                go_wp2_with fail
                exact Post.isv (Ext.refl _) rfl rfl rfl
              -- 9: Op.binOp BinOp.add 3 t101 t107 3
              apply Stage2.step (Is (.int .i64 (nx + 1 + tn))) true [false, false, true, false, false, false, false, false, true] true false (Is.keeps _) (fun _ => Is.keeps _) (by kernel_rfl)
              · intro w1 h1
                have h1 : Ext _ w1 := h1
                simp only [List.nil_append, List.cons_append, List.map_cons, List.map_nil, Sp.pr, Given]
                rintro _ rfl
                rintro _ rfl
                go_wp2_with fail
                exact Post.isv (Ext.refl _) rfl rfl rfl
              -- 10: Op.fieldAddr 43 t11 2
              apply Stage2.step (Is _) true [] true false (Is.keeps _) (fun _ => Is.keeps _) (by kernel_rfl)
              · intro w1 h1
                have h1 : Ext _ w1 := h1
                simp only [List.nil_append, List.cons_append, List.map_cons, List.map_nil, Given]
                go_wp2_with fail
                exact Post.isv (Ext.refl _) rfl rfl rfl
              -- 11: Op.store 3 t109 t108
              apply Stage2.step (AftT w.heap.size zeroH #[.int .i64 (z0 : Int), .int .i64 (or : Int), .int .i64 (2 + (q0 : Int)), .int .i64 (1 + (c0 : Int)), .int .i64 (nx + 1 + tn), .int .i64 (s0 : Int), .slice A3 (k + 1) c3] (w.heap.size + 2) A3 (k + 1) c3 (ms ++ [⟨nx, N, sz, false⟩])) false [false, false, false, false, false, false, false, false, false, true, true] true true (AftT.keeps _ _ _ _ _ _ _ _) (no_keeps) (by kernel_rfl)
              · intro w1 h1
                have h1 : Ext _ w1 := h1
                simp only [List.nil_append, List.cons_append, List.map_cons, List.map_nil, Sp.pr, Given]
                rintro _ rfl
                rintro _ rfl
                have y2 := blk_ext B26.out h1
                have y4 := blk_ext B46.out h1
                have q4 := blk_cell y4 4
                have r4 := blk_frozen y4 4
                have hs1 := h1.size
                have Y2 := Lib.hid y2
                have Y4 := Lib.hid y4
                clear y2 y4
                go_wp2_with fail
                refine ⟨rfl, rfl, But.setCell (S := fun q => q = w.heap.size + 1) (But.refl w6.heap.size (fun q => q = w.heap.size + 1) w1) (p := ⟨w.heap.size + 1, 4, none⟩) (.inl rfl) _, blk_far Y2.out (by simp) _, ?_, (hown6.ext mk_rep h1).farM (p := ⟨w.heap.size + 1, 4, none⟩) (fun g hg => by have := (hown6.row_lt g hg).1; simp only; omega) _, by simp; omega⟩
                have := blk_set Y4.out 4 (.int .i64 (nx + 1 + tn))
                simpa using this
              apply Stage2.nil [true, true, true, true, true, true, true, true, true, true, true, true] (by kernel_rfl)
              intro w1 h1
              have h1 : (But w6.heap.size (fun q => q = w.heap.size + 1)) _ w1 := h1
              simp only [List.nil_append, List.cons_append, List.map_cons, List.map_nil, Sp.pr]
              refine Fin2.is_ ?_
              refine Fin2.is_ ?_
              refine Fin2.is_ ?_
              refine Fin2.is_ ?_
              refine Fin2.is_ ?_
              refine Fin2.is_ ?_
              refine Fin2.is_ ?_
              refine Fin2.is_ ?_
              refine Fin2.is_ ?_
              refine Fin2.is_ ?_
              refine Fin2.is_ ?_
              refine Fin2.step_ ?_
              rintro _ ⟨a26, a46, aown, asz⟩
              refine Fin2.nil_ ?_
              go_simp
              have A26 := Lib.hid a26
              have A46 := Lib.hid a46
              clear a26 a46
              go_wp2_with fail
              go_roundw
              case rel => exact ⟨k + 1, _, nx + 1 + tn, (sn + 1), true, A3, c3, by omega, by omega, by omega, by omega, by omega, by go_num, rfl, by go_num, A26, A46, aown, HMS, gx6.but h1 (by omega) (fun g hg => by omega), asz⟩
              case measure => simp [intOf]; omega
        | false =>
          have HMS : Hid (mkF (l.take (k + 1)) 0 st0 = ⟨ms ++ [⟨nx, ⟨#[126, 110]⟩, sz, false⟩], nx + 1 + tn, sn, true⟩) := by
            unfold Hid
            rw [HSX.out]
            first
              | rfl
              | (simp; done)
              | (simp [rfl]; done)
          obtain ⟨W, hW⟩ : ∃ W, W = ((wm.setCell ⟨g8, 1, none⟩ (.string ⟨#[126, 110]⟩)).setCell ⟨g8, 3, none⟩ (.bool false)) := ⟨_, rfl⟩
          have bW : W.heap[g8]? = some (.cells #[.int .i64 nx, .string ⟨#[126, 110]⟩, .int .i64 sz, .bool false] TMk (0, 0)) := by
            rw [hW]
            first
              | exact hb9
              | (have := blk_set hb9 3 (.bool false); simpa using this)
              | (have := blk_set (blk_set hb9 1 (.string ⟨#[126, 110]⟩)) 3 (.bool false); simpa using this)
          have B2W : W.heap[w.heap.size]? = some (.cells zeroH THd (0, 0)) := by
            rw [hW]
            first
              | exact B22
              | exact blk_far B22 (fun e => hne0 e.symm) _
              | exact blk_far (blk_far B22 (fun e => hne0 e.symm) _) (fun e => hne0 e.symm) _
          have B4W : W.heap[w.heap.size + 1]? = some (.cells #[.int .i64 (z0 : Int), .int .i64 (or : Int), .int .i64 (2 + (q0 : Int)), .int .i64 (1 + (c0 : Int)), .int .i64 nx, .int .i64 (s0 : Int), .slice Ao k co] THd (0, 0)) := by
            rw [hW]
            first
              | exact B42
              | exact blk_far B42 (fun e => hne1 e.symm) _
              | exact blk_far (blk_far B42 (fun e => hne1 e.symm) _) (fun e => hne1 e.symm) _
          have gxW : Ext w W := by
            rw [hW]
            first
              | exact gx8
              | exact gx8.sets hg8w _
              | exact (gx8.sets hg8w _).sets hg8w _
          have hownW : OwnL TMk 4 mkR W (w.heap.size + 2) Ao k co ms := by
            rw [hW]
            first
              | exact hown2
              | exact hown2.farM hrn _
              | exact (hown2.farM hrn _).farM hrn _
          have hcW : W.heap.size = wm.heap.size := by
            first
              | (rw [hW]; done)
              | (rw [hW]; simp)
          have x6 := blk_cell B4W 6
          have ss0 := blk_cell bW 0
          have ss1 := blk_cell bW 1
          have ss2 := blk_cell bW 2
          have ss3 := blk_cell bW 3
          have lit := (mk_lit W ⟨nx, ⟨#[126, 110]⟩, sz, false⟩).lst
          rw [hcW] at lit
          have B2H := Lib.hid (blk_ext B2W (Ext.alloc W (.cells #[.int .i64 nx, .string ⟨#[126, 110]⟩, .int .i64 sz, .bool false] TMk)))
          have B4H := Lib.hid (blk_ext B4W (Ext.alloc W (.cells #[.int .i64 nx, .string ⟨#[126, 110]⟩, .int .i64 sz, .bool false] TMk)))
          have LIT := Lib.hid lit
          have HOWN := Lib.hid hownW
          have HSZ : Hid (w.heap.size + 2 ≤ W.heap.size) := by unfold Hid; rw [hcW]; exact hsz8
          have GXW := Lib.hid gxW
          clear B2W B4W lit hownW gxW hcW bW HSX hown2 B22 B42 hb9 gx8
          subst hW
          go_wp2_with (
            at_builtin
            refine wpList_append_flatB mk_rep (fun x cs w h => mk_nop h) rfl _ _ _ _ rfl (w.heap.size + 2) (by have := HSZ.out; rw [World.size_alloc]; omega) TMk TMk im _ 40 under_mks under_mks him hm0 hm1 hm2 rfl Ao k co ms rfl (HOWN.out.ext mk_rep (Ext.alloc _ _)) _ 1 1 [⟨nx, ⟨#[126, 110]⟩, sz, false⟩] rfl LIT.out (k + 1) rfl _ rfl (by simp only [maxLen]; omega) (by omega) ?_
            intro A3 c3 w5 hb3 hkeep hext hsz5
            have B25 := Lib.hid (hkeep _ _ (by omega) B2H.out)
            have B45 := Lib.hid (hkeep _ _ (by omega) B4H.out)
            have q6 := blk_cell B45.out 6
            have r6 := blk_frozen B45.out 6)
          obtain ⟨w6, hw6⟩ : ∃ q, q = w5.setCell ⟨w.heap.size + 1, 6, none⟩ (.slice A3 (k + 1) c3) := ⟨_, rfl⟩
          have gx6 : Ext w w6 := by rw [hw6]; exact (hext w (GXW.out.allocs _) (by omega)).sets (p := ⟨w.heap.size + 1, 6, none⟩) (by simp) (.slice A3 (k + 1) c3)
          have B26 : Hid (w6.heap[w.heap.size]? = some (.cells zeroH THd (0, 0))) := by unfold Hid; rw [hw6]; exact blk_far B25.out (by simp) _
          have B46 : Hid (w6.heap[w.heap.size + 1]? = some (.cells #[.int .i64 (z0 : Int), .int .i64 (or : Int), .int .i64 (2 + (q0 : Int)), .int .i64 (1 + (c0 : Int)), .int .i64 nx, .int .i64 (s0 : Int), .slice A3 (k + 1) c3] THd (0, 0))) := by
            unfold Hid
            rw [hw6]
            have := blk_set B45.out 6 (.slice A3 (k + 1) c3)
            simpa using this
          have hown6 : OwnL TMk 4 mkR w6 (w.heap.size + 2) A3 (k + 1) c3 (ms ++ [⟨nx, ⟨#[126, 110]⟩, sz, false⟩]) := by
            rw [hw6]
            exact hb3.farM (p := ⟨w.heap.size + 1, 6, none⟩) (fun g hg => by have := (hb3.row_lt g hg).1; simp only; omega) _
          have hsz6 : w.heap.size + 2 ≤ w6.heap.size := by rw [hw6]; simp; omega
          have v6 := gx6.cell E0.out
          have n6 := blk_cell B46.out 4
          go_wp2_with fail
          rw [← hw6]
          clear hw6 q6 r6 B25 B45 hext hkeep B2H B4H LIT HOWN HSZ hb3 GXW x6 hsz5
          refine wp_region_typed2 (R := But w6.heap.size (fun q => q = w.heap.size + 1)) Ext.steady (But.steady _ _) (fun _ _ => But.of_ext) rfl 111 rfl [0, 1, 3, 0, 0, 24, 56, 120, 248, 511, 1023, 2047] 2048 (by kernel_rfl) ?_
          -- 0: Op.fieldAddr 43 t11 2
          apply Stage2.step (Is _) true [] true false (Is.keeps _) (fun _ => Is.keeps _) (by kernel_rfl)
          · intro w1 h1
            have h1 : Ext _ w1 := h1
            simp only [List.nil_append, List.cons_append, List.map_cons, List.map_nil, Given]
            go_wp2_with fail
            exact Post.isv (Ext.refl _) rfl rfl rfl
          -- 1: Op.load 3 t99
          apply Stage2.step (Is (.int .i64 nx)) true [true] true false (Is.keeps _) (fun _ => Is.keeps _) (by kernel_rfl)
          · intro w1 h1
            have h1 : Ext _ w1 := h1
            simp only [List.nil_append, List.cons_append, List.map_cons, List.map_nil, Sp.pr, Given]
            rintro _ rfl
            have q0 := h1.cell n6
            go_wp2_with fail
            exact Post.isv (Ext.refl _) rfl rfl rfl
          -- 2: Op.binOp BinOp.add 3 t100 (const (1:i64)) 3
          apply Stage2.step (Is _) true [false, true] true false (Is.keeps _) (fun _ => Is.keeps _) (by kernel_rfl)
          · intro w1 h1
            have h1 : Ext _ w1 := h1
            simp only [List.nil_append, List.cons_append, List.map_cons, List.map_nil, Sp.pr, Given]
            rintro _ rfl
            go_wp2_with fail
            exact Post.isv (Ext.refl _) rfl rfl rfl
          -- 3: Op.move t4
          apply Stage2.step (Is _) true [] true false (Is.keeps _) (fun _ => Is.keeps _) (by kernel_rfl)
          · intro w1 h1
            have h1 : Ext _ w1 := h1
            simp only [List.nil_append, List.cons_append, List.map_cons, List.map_nil, Given]
            go_wp2_with fail
            exact Post.isv (Ext.refl _) rfl rfl rfl
          -- 4: Op.move t14
          apply Stage2.step (Is _) true [] true false (Is.keeps _) (fun _ => Is.keeps _) (by kernel_rfl)
          · intro w1 h1
            have h1 : Ext _ w1 := h1
            simp only [List.nil_append, List.cons_append, List.map_cons, List.map_nil, Given]
            go_wp2_with fail
            exact Post.isv (Ext.refl _) rfl rfl rfl
          -- 5: Op.indexAddr 22 t102 t103
          apply Stage2.step (Is _) true [false, false, false, true, true] true false (Is.keeps _) (fun _ => Is.keeps _) (by kernel_rfl)
          · intro w1 h1
            have h1 : Ext _ w1 := h1
            simp only [List.nil_append, List.cons_append, List.map_cons, List.map_nil, Sp.pr, Given]
            rintro _ rfl
            rintro _ rfl
            go_wp2_with fail
            exact Post.isv (Ext.refl _) rfl rfl rfl
          -- 6: Op.load 3 t104
          apply Stage2.step (Is (.int .i64 v)) true [false, false, false, false, false, true] true false (Is.keeps _) (fun _ => Is.keeps _) (by kernel_rfl)
          · intro w1 h1
            have h1 : Ext _ w1 := h1
            simp only [List.nil_append, List.cons_append, List.map_cons, List.map_nil, Sp.pr, Given]
            rintro _ rfl
            have q0 := h1.cell v6
            go_wp2_with fail
            exact Post.isv (Ext.refl _) rfl rfl rfl
          -- 7: Op.binOp BinOp.shr 3 t105 (const (14:u64)) 46
          apply Stage2.step (Is _) true [false, false, false, false, false, false, true] true false (Is.keeps _) (fun _ => Is.keeps _) (by kernel_rfl)
          · intro w1 h1
            have h1 : Ext _ w1 := h1
            simp only [List.nil_append, List.cons_append, List.map_cons, List.map_nil, Sp.pr, Given]
            rintro _ rfl
            go_wp2_with fail
            exact Post.isv (Ext.refl _) rfl rfl rfl
          -- 8: Op.binOp BinOp.and 3 t106 (const (1:i64)) 3
          apply Stage2.step (Is (.int .i64 tn)) true [false, false, false, false, false, false, false, true] true false (Is.keeps _) (fun _ => Is.keeps _) (by kernel_rfl)
          · intro w1 h1
            have h1 : Ext _ w1 := h1
            simp only [List.nil_append, List.cons_append, List.map_cons, List.map_nil, Sp.pr, Given]
            rintro _ rfl
            go_wp2_with fail
            exact Post.isv (Ext.refl _) rfl rfl rfl
          -- 9: Op.binOp BinOp.add 3 t101 t107 3
          apply Stage2.step (Is (.int .i64 (nx + 1 + tn))) true [false, false, true, false, false, false, false, false, true] true false (Is.keeps _) (fun _ => Is.keeps _) (by kernel_rfl)
          · intro w1 h1
            have h1 : Ext _ w1 := h1
            simp only [List.nil_append, List.cons_append, List.map_cons, List.map_nil, Sp.pr, Given]
            rintro _ rfl
            rintro _ rfl
            go_wp2_with fail
            exact Post.isv (Ext.refl _) rfl rfl rfl
          -- 10: Op.fieldAddr 43 t11 2
          apply Stage2.step (Is _) true [] true false (Is.keeps _) (fun _ => Is.keeps _) (by kernel_rfl)
          · intro w1 h1
            have h1 : Ext _ w1 := h1
            simp only [List.nil_append, List.cons_append, List.map_cons, List.map_nil, Given]
            go_wp2_with fail
            exact Post.isv (Ext.refl _) rfl rfl rfl
          -- 11: Op.store 3 t109 t108
          apply Stage2.step (AftT w.heap.size zeroH #[.int .i64 (z0 : Int), .int .i64 (or : Int), .int .i64 (2 + (q0 : Int)), .int .i64 (1 + (c0 : Int)), .int .i64 (nx + 1 + tn), .int .i64 (s0 : Int), .slice A3 (k + 1) c3] (w.heap.size + 2) A3 (k + 1) c3 (ms ++ [⟨nx, ⟨#[126, 110]⟩, sz, false⟩])) false [false, false, false, false, false, false, false, false, false, true, true] true true (AftT.keeps _ _ _ _ _ _ _ _) (no_keeps) (by kernel_rfl)
          · intro w1 h1
            have h1 : Ext _ w1 := h1
            simp only [List.nil_append, List.cons_append, List.map_cons, List.map_nil, Sp.pr, Given]
            rintro _ rfl
            rintro _ rfl
            have y2 := blk_ext B26.out h1
            have y4 := blk_ext B46.out h1
            have q4 := blk_cell y4 4
            have r4 := blk_frozen y4 4
            have hs1 := h1.size
            have Y2 := Lib.hid y2
            have Y4 := Lib.hid y4
            clear y2 y4
            go_wp2_with fail
            refine ⟨rfl, rfl, But.setCell (S := fun q => q = w.heap.size + 1) (But.refl w6.heap.size (fun q => q = w.heap.size + 1) w1) (p := ⟨w.heap.size + 1, 4, none⟩) (.inl rfl) _, blk_far Y2.out (by simp) _, ?_, (hown6.ext mk_rep h1).farM (p := ⟨w.heap.size + 1, 4, none⟩) (fun g hg => by have := (hown6.row_lt g hg).1; simp only; omega) _, by simp; omega⟩
            have := blk_set Y4.out 4 (.int .i64 (nx + 1 + tn))
            simpa using this
          apply Stage2.nil [true, true, true, true, true, true, true, true, true, true, true, true] (by kernel_rfl)
          intro w1 h1
          have h1 : (But w6.heap.size (fun q => q = w.heap.size + 1)) _ w1 := h1
          simp only [List.nil_append, List.cons_append, List.map_cons, List.map_nil, Sp.pr]
          refine Fin2.is_ ?_
          refine Fin2.is_ ?_
          refine Fin2.is_ ?_
          refine Fin2.is_ ?_
          refine Fin2.is_ ?_
          refine Fin2.is_ ?_
          refine Fin2.is_ ?_
          refine Fin2.is_ ?_
          refine Fin2.is_ ?_
          refine Fin2.is_ ?_
          refine Fin2.is_ ?_
          refine Fin2.step_ ?_
          rintro _ ⟨a26, a46, aown, asz⟩
          refine Fin2.nil_ ?_
          go_simp
          have A26 := Lib.hid a26
          have A46 := Lib.hid a46
          clear a26 a46
          go_wp2_with fail
          go_roundw
          case rel => exact ⟨k + 1, _, nx + 1 + tn, sn, true, A3, c3, by omega, by omega, by omega, by omega, by omega, by go_num, rfl, by go_num, A26, A46, aown, HMS, gx6.but h1 (by omega) (fun g hg => by omega), asz⟩
          case measure => simp [intOf]; omega
    · have hkm : k = makeN l := by unfold makeN; omega
      have hM2 := HM.out
      rw [← hkm, hst.out] at hM2
      clear HM hkm hst
      subst hM2
      have k0 : wr.cell? ⟨w.heap.size, 0, none⟩ = some (.int .i64 0) := blk_cell B2.out 0
      have l0 : wr.frozen? ⟨w.heap.size, 0, none⟩ = false := blk_frozen B2.out 0
      have x0 : wr.cell? ⟨w.heap.size + 1, 0, none⟩ = some (.int .i64 (z0 : Int)) := blk_cell B4.out 0
      have k1 : wr.cell? ⟨w.heap.size, 1, none⟩ = some (.int .i64 0) := blk_cell B2.out 1
      have l1 : wr.frozen? ⟨w.heap.size, 1, none⟩ = false := blk_frozen B2.out 1
      have x1 : wr.cell? ⟨w.heap.size + 1, 1, none⟩ = some (.int .i64 (or : Int)) := blk_cell B4.out 1
      have k2 : wr.cell? ⟨w.heap.size, 2, none⟩ = some (.int .i64 0) := blk_cell B2.out 2
      have l2 : wr.frozen? ⟨w.heap.size, 2, none⟩ = false := blk_frozen B2.out 2
      have x2 : wr.cell? ⟨w.heap.size + 1, 2, none⟩ = some (.int .i64 (2 + (q0 : Int))) := blk_cell B4.out 2
      have k3 : wr.cell? ⟨w.heap.size, 3, none⟩ = some (.int .i64 0) := blk_cell B2.out 3
      have l3 : wr.frozen? ⟨w.heap.size, 3, none⟩ = false := blk_frozen B2.out 3
      have x3 : wr.cell? ⟨w.heap.size + 1, 3, none⟩ = some (.int .i64 (1 + (c0 : Int))) := blk_cell B4.out 3
      have k4 : wr.cell? ⟨w.heap.size, 4, none⟩ = some (.int .i64 0) := blk_cell B2.out 4
      have l4 : wr.frozen? ⟨w.heap.size, 4, none⟩ = false := blk_frozen B2.out 4
      have x4 : wr.cell? ⟨w.heap.size + 1, 4, none⟩ = some (.int .i64 nx) := blk_cell B4.out 4
      have k5 : wr.cell? ⟨w.heap.size, 5, none⟩ = some (.int .i64 0) := blk_cell B2.out 5
      have l5 : wr.frozen? ⟨w.heap.size, 5, none⟩ = false := blk_frozen B2.out 5
      have x5 : wr.cell? ⟨w.heap.size + 1, 5, none⟩ = some (.int .i64 (s0 : Int)) := blk_cell B4.out 5
      have k6 : wr.cell? ⟨w.heap.size, 6, none⟩ = some (.slice none 0 0) := blk_cell B2.out 6
      have l6 : wr.frozen? ⟨w.heap.size, 6, none⟩ = false := blk_frozen B2.out 6
      have x6 : wr.cell? ⟨w.heap.size + 1, 6, none⟩ = some (.slice Ao k co) := blk_cell B4.out 6
      have hrow : ∀ g, rowOf Ao co = some g → g ≠ w.heap.size := fun g hg e => by have := (hown.row_lt g hg).1; omega
      by_cases hl1 : k < n
      · have hl2 : decide ((k : Int) < 16) = false := by simp; omega
        have hl3 : decide ((k : Int) < (n : Int)) = true := by simp; omega
        go_wp2_with fail
        refine bodyPost_ret (v := hdV ⟨(z0 : Int), (or : Int), 2 + (q0 : Int), 1 + (c0 : Int), nx, (s0 : Int), ms⟩ Ao k co) ?hres rfl ⟨_, _, _, rfl, ?hown, ?hxx⟩
        case hres => simp [results, Try.results18, go_sem, k0, k1, k2, k3, k4, k5, k6]
        case hown => exact (((((((hown.farM hrow _).farM hrow _).farM hrow _).farM hrow _).farM hrow _).farM hrow _).farM hrow _).low (by omega)
        case hxx => (repeat (first | (with_reducible exact Ext.refl _) | (with_reducible assumption) | (with_reducible refine Ext.draws ?_) | (with_reducible refine Ext.allocs ?_ _) | (with_reducible refine Ext.sets ?_ ?_ _) | (with_reducible exact Nat.le_refl _) | (exact (by simp)) | (exact (by simp; omega))))
      · have hl3 : decide ((k : Int) < (n : Int)) = false := by simp; omega
        go_wp2_with fail
        refine bodyPost_ret (v := hdV ⟨(z0 : Int), (or : Int), 2 + (q0 : Int), 1 + (c0 : Int), nx, (s0 : Int), ms⟩ Ao k co) ?hres rfl ⟨_, _, _, rfl, ?hown, ?hxx⟩
        case hres => simp [results, Try.results18, go_sem, k0, k1, k2, k3, k4, k5, k6]
        case hown => exact (((((((hown.farM hrow _).farM hrow _).farM hrow _).farM hrow _).farM hrow _).farM hrow _).farM hrow _).low (by omega)
        case hxx => (repeat (first | (with_reducible exact Ext.refl _) | (with_reducible assumption) | (with_reducible refine Ext.draws ?_) | (with_reducible refine Ext.allocs ?_ _) | (with_reducible refine Ext.sets ?_ ?_ _) | (with_reducible exact Nat.le_refl _) | (exact (by simp)) | (exact (by simp; omega))))
end Go.Proofs.Ytoeknbogaclfdaa
