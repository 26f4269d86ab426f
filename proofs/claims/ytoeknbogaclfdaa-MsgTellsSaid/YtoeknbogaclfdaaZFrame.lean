/-
  Frames: contracts of the program's and of the reference's small functions: may, Right, Size.
-/
import Derived.Test.YtoeknbogaclfdaaZFromSumToFrameRt
import Derived.Test.YtoeknbogaclfdaaZCore
namespace Go.Proofs.Ytoeknbogaclfdaa
open Go.RowKit
set_option linter.unusedVariables false
set_option linter.unusedSimpArgs false
set_option linter.unnecessarySimpa false
set_option maxRecDepth 100000
theorem cell_newF (w : World) (cs : Array Value) (e : TypeId) (j : Nat) {u : Value} (hu : cs[j]? = some u := by rfl) : (w.alloc (.cells cs e)).cell? ⟨w.heap.size, j, none⟩ = some u :=
  (cell_of_row _ _ j cs e (0, 0) (heap_alloc_new w _)).trans hu
theorem bits_Get_h {A : Option Addr} {n c : Nat} {l : List UInt8} {a wd : Nat} {w : World} (hs : Sl w A n c l) (x y : Int) (hx : x = (a : Int)) (hy : y = (wd : Int)) (h1 : 1 ≤ wd) (h8 : wd ≤ 8) (hn : a + wd ≤ n) {q : Nat} (hq : Hid (unle ((l.drop a).take wd) = q)) :
    Calls Try.prog 110 #[.slice A n c, .int .i64 x, .int .i64 y] w fun e w' => e = .returned (.tuple #[.int .u64 q, .bool true]) ∧ w = w' := by
  subst hx hy
  have := bits_Get_yes A n c l a wd w hs h1 h8 hn
  rwa [hq.out] at this
theorem ref_Get_h {A : Option Addr} {n c : Nat} {l : List UInt8} {a wd : Nat} {w : World} (hs : Sl w A n c l) (x y : Int) (hx : x = (a : Int)) (hy : y = (wd : Int)) (h1 : 1 ≤ wd) (h8 : wd ≤ 8) (hn : a + wd ≤ n) {q : Nat} (hq : Hid (unle ((l.drop a).take wd) = q)) :
    Calls Try.prog 95 #[.slice A n c, .int .i64 x, .int .i64 y] w fun e w' => e = .returned (.tuple #[.int .u64 q, .bool true]) ∧ w = w' := by
  subst hx hy
  have := ref_Get_yes A n c l a wd w hs h1 h8 hn
  rwa [hq.out] at this
def sizeI (n : Int) : Int := 22 + max 0 (min n 90)
theorem frame_Size (n : Int) (w : World) :
    Calls Try.prog 111 #[.int .i64 n] w fun e w' => e = .returned (.int .i64 (sizeI n)) ∧ w = w' := by
  go_enter Try.func111, Try.ntmps111
  go_wp2
  all_goals (go_ret; exact ⟨ret_intF (by unfold sizeI; omega), rfl⟩)
def layL (t s : Int) (n : Nat) (l : List UInt8) : List UInt8 := if rightN t s n then layE t.toNat s.toNat l else []
set_option maxHeartbeats 1000000 in
theorem frame_Lay {t s : Int} {A : Option Addr} {n c : Nat} {l : List UInt8} {w : World} (hsl : Sl w A n c l) (ht : t ≤ 9223372036854775807) (hs : s ≤ 9223372036854775807) {r : Bool} (hr : Hid (rightN t s n = r)) {L : List UInt8} (hL : Hid (layL t s n l = L)) :
    Calls Try.prog 45 #[enV t s A n c] w fun e w' => ∃ A' n' c', e = .returned (.tuple #[.slice A' n' c', .int .i64 (if r then 0 else 1)]) ∧ Byt U8 w' w.heap.size A' n' c' L ∧ Ext w w' := by
  have h63 := hsl.n63
  have HRC := frame_Right t s A n c (w.alloc (.cells #[.int .i64 t, .int .i64 s, .slice A n c] 71)) h63.1 ht hs
  rw [hr.out] at HRC
  have HR := Lib.hid HRC
  clear HRC
  cases r with
  | false =>
    obtain rfl : L = [] := by rw [← hL.out]; unfold layL; rw [hr.out]; rfl
    go_enter Try.func45, Try.ntmps45
    go_wp2_with fail
    refine HR.out.mono ?_
    rintro e w1 ⟨rfl, hx1⟩
    go_wp2_with fail
    go_ret2
    exact ⟨_, _, _, rfl, Byt.nil _ _ _ _, (Ext.alloc _ _).trans hx1⟩
  | true =>
    have hrn := rightN_iff.1 hr.out
    obtain ⟨t, rfl⟩ := Int.eq_ofNat_of_zero_le (by omega : 0 ≤ t)
    obtain ⟨s, rfl⟩ := Int.eq_ofNat_of_zero_le (by omega : 0 ≤ s)
    have hLe : L = layE t s l := by rw [← hL.out]; unfold layL; rw [hr.out]; rfl
    obtain ⟨l1, hl1⟩ : ∃ q, put magicL t 4 = q := ⟨_, rfl⟩
    obtain ⟨l2, hl2⟩ : ∃ q, put l1 s 8 = q := ⟨_, rfl⟩
    obtain ⟨l3, hl3⟩ : ∃ q, put l2 n 2 = q := ⟨_, rfl⟩
    obtain ⟨l4, hl4⟩ : ∃ q, l3 ++ l = q := ⟨_, rfl⟩
    obtain ⟨cr, hcr⟩ : ∃ q, crcOf l4 = q := ⟨_, rfl⟩
    have hcrl : cr < 4294967296 := by rw [← hcr]; exact crcOf_lt _
    have hLL : put l4 cr 4 = L := by
      rw [hLe]
      unfold layE headE
      rw [hsl.len, hl1, hl2, hl3, hl4, hcr]
    have H1 := Lib.hid hl1
    have H2 := Lib.hid hl2
    have H3 := Lib.hid hl3
    have H4 := Lib.hid hl4
    have H5 := Lib.hid hcr
    have H6 := Lib.hid hLL
    have hn90 : n ≤ 90 := hrn.2.2.2.2.2
    have ht30 : t ≤ 1073741824 := by omega
    have hs40 : s ≤ 1099511627776 := by omega
    obtain ⟨i0, hi0, hz0, hz1, hz2⟩ := info_parts info_u8
    clear hl1 hl2 hl3 hl4 hcr hLL hr hL hLe hrn
    go_enter Try.func45, Try.ntmps45
    go_wp2_with fail
    refine HR.out.mono ?_
    rintro e w1 ⟨rfl, hx1⟩
    have hc0 : w1.cell? ⟨w.heap.size, 0, none⟩ = some (.int .i64 t) := hx1.cell (cell_newF _ _ _ _)
    have hc1 : w1.cell? ⟨w.heap.size, 1, none⟩ = some (.int .i64 s) := hx1.cell (cell_newF _ _ _ _)
    have hc2 : w1.cell? ⟨w.heap.size, 2, none⟩ = some (.slice A n c) := hx1.cell (cell_newF _ _ _ _)
    have hlt : w.heap.size < w1.heap.size := World.block_lt_of_cell? _ _ hc0
    have hx2 : Ext w w1 := (Ext.alloc w _).trans hx1
    clear hx1 HR
    have kc := run_conv_bytes w1 #[.int .u8 72, .int .u8 71, .int .u8 74, .int .u8 69] 4 4
    go_wp2_with fail
    refine (bits_Put_loop (some ⟨w1.heap.size, 0, none⟩) 4 4 magicL t 4 _ (sl_new w1 _ _ _ magicL rfl (by simp [maxLen, magicL])) (by omega) (by omega) (by omega) (by omega)).mono ?_
    rintro e w2 ⟨A2, c2, rfl, hb2, hx3⟩
    rw [H1.out] at hb2
    replace hx3 : Ext w1 w2 := (Ext.alloc w1 _).trans hx3
    replace hc0 := hx3.cell hc0
    replace hc1 := hx3.cell hc1
    replace hc2 := hx3.cell hc2
    replace hx2 := hx2.trans hx3
    replace hlt := World.block_lt_of_cell? _ _ hc0
    clear hx3 kc
    go_wp2_with fail
    refine (bits_Put_loop A2 8 c2 l1 s 8 _ hb2.sl (by omega) (by omega) (by omega) (by omega)).mono ?_
    rintro e w3 ⟨A3, c3, rfl, hb3, hx3⟩
    rw [H2.out] at hb3
    replace hc0 := hx3.cell hc0
    replace hc1 := hx3.cell hc1
    replace hc2 := hx3.cell hc2
    replace hx2 := hx2.trans hx3
    replace hlt := World.block_lt_of_cell? _ _ hc0
    clear hx3
    go_wp2_with fail
    refine (bits_Put_loop A3 16 c3 l2 n 2 _ hb3.sl (by omega) (by omega) (by omega) (by omega)).mono ?_
    rintro e w4 ⟨A4, c4, rfl, hb4, hx3⟩
    rw [H3.out] at hb4
    replace hc0 := hx3.cell hc0
    replace hc2 := hx3.cell hc2
    have hb4 := hb4.low hx2.size
    replace hx2 := hx2.trans hx3
    replace hlt := World.block_lt_of_cell? _ _ hc0
    have hsl4 := hsl.ext hx2
    clear hx3 hb2 hb3
    go_wp2_with (at_builtin; refine wpList_append_mine _ rfl _ _ _ _ rfl w.heap.size U8 i0 _ 1 1 under_bytes hi0 hz0 hz1 hz2 rfl A4 18 c4 _ rfl hb4.own _ rfl n (l.map bv) (hsl4.src under_bytes) (by simp only [maxLen]; omega) (by omega) hx2.size ?_; intro A5 c5 w5 hown hg _)
    have hb5 : Byt U8 w5 w.heap.size A5 (18 + n) c5 l4 := by
      have := Byt.more hb4.len hsl.len hown rfl
      rwa [H4.out] at this
    have hx5 : Ext w w5 := below_grown hx2 hb4.own hg hx2.size
    clear hown hg hb4 hx2
    refine (crc_Of' hb5.sl H5).mono ?_
    rintro e w6 ⟨rfl, rfl⟩
    go_wp2_with fail
    refine (bits_Put_loop A5 (18 + n) c5 l4 cr 4 _ hb5.sl (by omega) (by omega) (by omega) (by omega)).mono ?_
    rintro e w7 ⟨A7, c7, rfl, hb7, hx7⟩
    rw [H6.out] at hb7
    go_wp2_with fail
    go_ret2
    exact ⟨_, _, _, rfl, hb7.low hx5.size, hx5.trans hx7⟩
set_option maxHeartbeats 1000000 in
theorem ref_Lay {t s : Int} {A : Option Addr} {n c : Nat} {l : List UInt8} {w : World} (hsl : Sl w A n c l) {r : Bool} (hr : Hid (rightN t s n = r)) {L : List UInt8} (hL : Hid (layL t s n l = L)) :
    Calls Try.prog 67 #[enV t s A n c] w fun e w' => ∃ A' n' c', e = .returned (.tuple #[.slice A' n' c', .int .i64 (if r then 0 else 1)]) ∧ Byt U8 w' w.heap.size A' n' c' L ∧ Ext w w' := by
  have h63 := hsl.n63
  have HRC := ref_RightEntry t s A n c (w.alloc (.cells #[.int .i64 t, .int .i64 s, .slice A n c] 71)) h63.1
  rw [hr.out] at HRC
  have HR := Lib.hid HRC
  clear HRC
  cases r with
  | false =>
    obtain rfl : L = [] := by rw [← hL.out]; unfold layL; rw [hr.out]; rfl
    go_enter Try.func67, Try.ntmps67
    go_wp2_with fail
    refine HR.out.mono ?_
    rintro e w1 ⟨rfl, hx1⟩
    go_wp2_with fail
    go_ret2
    exact ⟨_, _, _, rfl, Byt.nil _ _ _ _, (Ext.alloc _ _).trans hx1⟩
  | true =>
    have hrn := rightN_iff.1 hr.out
    obtain ⟨t, rfl⟩ := Int.eq_ofNat_of_zero_le (by omega : 0 ≤ t)
    obtain ⟨s, rfl⟩ := Int.eq_ofNat_of_zero_le (by omega : 0 ≤ s)
    have hLe : L = layE t s l := by rw [← hL.out]; unfold layL; rw [hr.out]; rfl
    obtain ⟨l1, hl1⟩ : ∃ q, put magicL t 4 = q := ⟨_, rfl⟩
    obtain ⟨l2, hl2⟩ : ∃ q, put l1 s 8 = q := ⟨_, rfl⟩
    obtain ⟨l3, hl3⟩ : ∃ q, put l2 n 2 = q := ⟨_, rfl⟩
    obtain ⟨l4, hl4⟩ : ∃ q, l3 ++ l = q := ⟨_, rfl⟩
    have hLL : put l4 (crcOf l4) 4 = L := by
      rw [hLe]
      unfold layE headE
      rw [hsl.len, hl1, hl2, hl3, hl4]
    have hm4 : magicL.length = 4 := rfl
    have z1 : l1.length = 8 := by rw [← hl1, put, List.length_append, le_length]; rfl
    have z2 : l2.length = 16 := by rw [← hl2, put, List.length_append, le_length, z1]
    have z3 : l3.length = 18 := by rw [← hl3, put, List.length_append, le_length, z2]
    have Z := Lib.hid (And.intro z1 (And.intro z2 z3))
    have H1 : Hid (putI magicL t 4 = l1) := by unfold Hid; rw [← hl1]; rfl
    have H2 : Hid (putI l1 s 8 = l2) := by unfold Hid; rw [← hl2]; rfl
    have H3 : Hid (putI l2 n 2 = l3) := by unfold Hid; rw [← hl3]; rfl
    have H4 := Lib.hid hl4
    have H6 := Lib.hid hLL
    have hn90 : n ≤ 90 := hrn.2.2.2.2.2
    have ht30 : t ≤ 1073741824 := by omega
    have hs40 : s ≤ 1099511627776 := by omega
    obtain ⟨i0, hi0, hz0, hz1, hz2⟩ := info_parts info_u8
    clear hl1 hl2 hl3 hl4 hLL hr hL hLe hrn z1 z2 z3 hm4
    go_enter Try.func67, Try.ntmps67
    go_wp2_with fail
    refine HR.out.mono ?_
    rintro e w1 ⟨rfl, hx1⟩
    have hc0 : w1.cell? ⟨w.heap.size, 0, none⟩ = some (.int .i64 t) := hx1.cell (cell_newF _ _ _ _)
    have hc1 : w1.cell? ⟨w.heap.size, 1, none⟩ = some (.int .i64 s) := hx1.cell (cell_newF _ _ _ _)
    have hc2 : w1.cell? ⟨w.heap.size, 2, none⟩ = some (.slice A n c) := hx1.cell (cell_newF _ _ _ _)
    have hlt : w.heap.size < w1.heap.size := World.block_lt_of_cell? _ _ hc0
    have hx2 : Ext w w1 := (Ext.alloc w _).trans hx1
    clear hx1 HR
    go_wp2_with (at_builtin; refine wpList_append_mine _ rfl _ _ _ _ rfl w.heap.size U8 i0 _ 1 1 under_bytes hi0 hz0 hz1 hz2 rfl _ 0 0 _ rfl (Own.nil _ _ _ _ _) _ rfl 4 _ (Src.ofString _ under_str ⟨#[72, 71, 74, 69]⟩) (by simp only [maxLen]; omega) (by omega) (by simp; omega) ?_; intro A2 c2 w2 hown hg _)
    have hb2 : Byt U8 w2 w.heap.size A2 4 c2 magicL := ⟨rfl, hown⟩
    replace hg := grown_nil hg
    replace hg : Ext w1 w2 := (Ext.alloc w1 _).trans hg
    replace hc0 := hg.cell hc0
    replace hc1 := hg.cell hc1
    replace hc2 := hg.cell hc2
    replace hx2 := hx2.trans hg
    clear hg hown
    refine wp_region_typed2 (R := But w2.heap.size (fun _ => False)) Ext.steady (But.steady _ _) (fun _ _ => But.of_ext) rfl 29 rfl [0, 0, 2, 6, 15, 0, 32, 96, 255, 0, 512, 1536, 3584, 8191, 16383] 0 (by kernel_rfl) ?_
    apply Stage2.step (Is _) true [] true false (Is.keeps _) (fun _ => Is.keeps _) (by kernel_rfl)
    · intro w1 h1
      have h1 : Ext _ w1 := h1
      simp only [List.nil_append, List.cons_append, List.map_cons, List.map_nil, Given]
      go_wp2_with fail
      exact Post.isv (Ext.refl _) rfl rfl rfl
    apply Stage2.step (Is _) true [] true false (Is.keeps _) (fun _ => Is.keeps _) (by kernel_rfl)
    · intro w1 h1
      have h1 : Ext _ w1 := h1
      simp only [List.nil_append, List.cons_append, List.map_cons, List.map_nil, Given]
      go_wp2_with fail
      exact Post.isv (Ext.refl _) rfl rfl rfl
    apply Stage2.step (Is (.int .i64 t)) true [false, true] true false (Is.keeps _) (fun _ => Is.keeps _) (by kernel_rfl)
    · intro w1 h1
      have h1 : Ext _ w1 := h1
      simp only [List.nil_append, List.cons_append, List.map_cons, List.map_nil, Sp.pr, Given]
      rintro _ rfl
      have hq := h1.cell hc0
      go_wp2_with fail
      exact Post.isv (Ext.refl _) rfl rfl rfl
    apply Stage2.step (Is _) true [false, false, true] true false (Is.keeps _) (fun _ => Is.keeps _) (by kernel_rfl)
    · intro w1 h1
      have h1 : Ext _ w1 := h1
      simp only [List.nil_append, List.cons_append, List.map_cons, List.map_nil, Sp.pr, Given]
      rintro _ rfl
      go_wp2_with fail
      exact Post.isv (Ext.refl _) rfl rfl rfl
    apply Stage2.step (BytT U8 w2.heap.size l1) false [true, false, false, true] true false (BytT.keeps _ _ _) (no_keeps) (by kernel_rfl)
    · intro w1 h1
      have h1 : Ext _ w1 := h1
      simp only [List.nil_append, List.cons_append, List.map_cons, List.map_nil, Sp.pr, Given]
      rintro _ rfl
      rintro _ rfl
      go_wp2_with fail
      refine (ref_Put _ 4 _ magicL t 4 _ (hb2.sl.ext h1) (by omega) (by omega)).mono ?_
      rintro e w2 ⟨A3, n3, c3, rfl, h3, hx3⟩
      rw [H1.out] at h3
      go_wp2_with fail
      exact ⟨rfl, rfl, hx3, _, _, _, rfl, h3.low h1.size⟩
    apply Stage2.step (Is _) true [] true false (Is.keeps _) (fun _ => Is.keeps _) (by kernel_rfl)
    · intro w1 h1
      have h1 : Ext _ w1 := h1
      simp only [List.nil_append, List.cons_append, List.map_cons, List.map_nil, Given]
      go_wp2_with fail
      exact Post.isv (Ext.refl _) rfl rfl rfl
    apply Stage2.step (Is (.int .i64 s)) true [false, false, false, false, false, true] true false (Is.keeps _) (fun _ => Is.keeps _) (by kernel_rfl)
    · intro w1 h1
      have h1 : Ext _ w1 := h1
      simp only [List.nil_append, List.cons_append, List.map_cons, List.map_nil, Sp.pr, Given]
      rintro _ rfl
      have hq := h1.cell hc1
      go_wp2_with fail
      exact Post.isv (Ext.refl _) rfl rfl rfl
    apply Stage2.step (Is _) true [false, false, false, false, false, false, true] true false (Is.keeps _) (fun _ => Is.keeps _) (by kernel_rfl)
    · intro w1 h1
      have h1 : Ext _ w1 := h1
      simp only [List.nil_append, List.cons_append, List.map_cons, List.map_nil, Sp.pr, Given]
      rintro _ rfl
      go_wp2_with fail
      exact Post.isv (Ext.refl _) rfl rfl rfl
    apply Stage2.step (BytT U8 w2.heap.size l2) false [false, false, false, false, true, false, false, true] true false (BytT.keeps _ _ _) (no_keeps) (by kernel_rfl)
    · intro w1 h1
      have h1 : Ext _ w1 := h1
      simp only [List.nil_append, List.cons_append, List.map_cons, List.map_nil, Sp.pr, Given]
      rintro _ ⟨A3, n3, c3, rfl, h3⟩
      rintro _ rfl
      obtain rfl : n3 = 8 := by rw [← h3.len]; exact Z.out.1
      go_wp2_with fail
      refine (ref_Put _ _ _ l1 s 8 _ h3.sl (by omega) (by omega)).mono ?_
      rintro e w2 ⟨A4, n4, c4, rfl, h4, hx4⟩
      rw [H2.out] at h4
      go_wp2_with fail
      exact ⟨rfl, rfl, hx4, _, _, _, rfl, h4.low h1.size⟩
    apply Stage2.step (Is _) true [] true false (Is.keeps _) (fun _ => Is.keeps _) (by kernel_rfl)
    · intro w1 h1
      have h1 : Ext _ w1 := h1
      simp only [List.nil_append, List.cons_append, List.map_cons, List.map_nil, Given]
      go_wp2_with fail
      exact Post.isv (Ext.refl _) rfl rfl rfl
    apply Stage2.step (Is (.slice A n c)) true [false, false, false, false, false, false, false, false, false, true] true false (Is.keeps _) (fun _ => Is.keeps _) (by kernel_rfl)
    · intro w1 h1
      have h1 : Ext _ w1 := h1
      simp only [List.nil_append, List.cons_append, List.map_cons, List.map_nil, Sp.pr, Given]
      rintro _ rfl
      have hq := h1.cell hc2
      go_wp2_with fail
      exact Post.isv (Ext.refl _) rfl rfl rfl
    apply Stage2.step (Is _) true [false, false, false, false, false, false, false, false, false, false, true] true false (Is.keeps _) (fun _ => Is.keeps _) (by kernel_rfl)
    · intro w1 h1
      have h1 : Ext _ w1 := h1
      simp only [List.nil_append, List.cons_append, List.map_cons, List.map_nil, Sp.pr, Given]
      rintro _ rfl
      go_wp2_with fail
      exact Post.isv (Ext.refl _) rfl rfl rfl
    apply Stage2.step (Is _) true [false, false, false, false, false, false, false, false, false, false, false, true] true false (Is.keeps _) (fun _ => Is.keeps _) (by kernel_rfl)
    · intro w1 h1
      have h1 : Ext _ w1 := h1
      simp only [List.nil_append, List.cons_append, List.map_cons, List.map_nil, Sp.pr, Given]
      rintro _ rfl
      go_wp2_with fail
      exact Post.isv (Ext.refl _) rfl rfl rfl
    apply Stage2.step (BytT U8 w2.heap.size l3) false [false, false, false, false, false, false, false, false, true, false, false, false, true] true false (BytT.keeps _ _ _) (no_keeps) (by kernel_rfl)
    · intro w1 h1
      have h1 : Ext _ w1 := h1
      simp only [List.nil_append, List.cons_append, List.map_cons, List.map_nil, Sp.pr, Given]
      rintro _ ⟨A4, n4, c4, rfl, h4⟩
      rintro _ rfl
      obtain rfl : n4 = 16 := by rw [← h4.len]; exact Z.out.2.1
      go_wp2_with fail
      refine (ref_Put _ _ _ l2 n 2 _ h4.sl (by omega) (by omega)).mono ?_
      rintro e w2 ⟨A5, n5, c5, rfl, h5, hx5⟩
      rw [H3.out] at h5
      go_wp2_with fail
      exact ⟨rfl, rfl, hx5, _, _, _, rfl, h5.low h1.size⟩
    apply Stage2.step (BytT U8 w2.heap.size l3) false [false, false, false, false, false, false, false, false, false, false, false, false, false, true] true false (BytT.keeps _ _ _) (no_keeps) (by kernel_rfl)
    · intro w1 h1
      have h1 : Ext _ w1 := h1
      simp only [List.nil_append, List.cons_append, List.map_cons, List.map_nil, Sp.pr, Given]
      rintro v hcp
      go_wp2_with fail
      exact ⟨rfl, rfl, Ext.refl _, hcp⟩
    apply Stage2.nil [true, true, true, true, true, true, true, true, true, true, true, true, true, true, true] (by kernel_rfl)
    intro w1 h1
    have h1 : (Ext) _ w1 := h1
    simp only [List.nil_append, List.cons_append, List.map_cons, List.map_nil, Sp.pr]
    refine Fin2.is_ ?_
    refine Fin2.is_ ?_
    refine Fin2.is_ ?_
    refine Fin2.is_ ?_
    refine Fin2.step_ ?_
    rintro _ ⟨A3, n3, c3, rfl, h3⟩
    refine Fin2.is_ ?_
    refine Fin2.is_ ?_
    refine Fin2.is_ ?_
    refine Fin2.step_ ?_
    rintro _ ⟨A4, n4, c4, rfl, h4⟩
    refine Fin2.is_ ?_
    refine Fin2.is_ ?_
    refine Fin2.is_ ?_
    refine Fin2.is_ ?_
    refine Fin2.step_ ?_
    rintro _ ⟨A5, n5, c5, rfl, h5⟩
    refine Fin2.step_ ?_
    rintro _ ⟨A5, n5, c5, rfl, h5⟩
    refine Fin2.nil_ ?_
    go_simp
    obtain rfl : n5 = 18 := by rw [← h5.len]; exact Z.out.2.2
    replace hc0 := h1.cell hc0
    replace hc2 := h1.cell hc2
    have hlt2 := World.block_lt_of_cell? _ _ hc0
    have h6 := h5.low hx2.size
    have hx3 := hx2.trans h1
    have hsl4 := hsl.ext hx3
    clear h1 h5 hb2 hx2
    go_wp2_with (at_builtin; refine wpList_append_mine _ rfl _ _ _ _ rfl w.heap.size U8 i0 _ 1 1 under_bytes hi0 hz0 hz1 hz2 rfl A5 18 c5 _ rfl h6.own _ rfl n (l.map bv) (hsl4.src under_bytes) (by simp only [maxLen]; omega) (by omega) hx3.size ?_; intro A6 c6 w6 hown hg _)
    have hb6 : Byt U8 w6 w.heap.size A6 (18 + n) c6 l4 := by
      have := Byt.more h6.len hsl.len hown rfl
      rwa [H4.out] at this
    have hx6 : Ext w w6 := below_grown hx3 h6.own hg hx3.size
    clear hown hg h6 hx3
    refine (ref_Seal _ _ _ _ _ hb6.sl (by omega)).mono ?_
    rintro e w7 ⟨A7, n7, c7, rfl, hb7, hx7⟩
    rw [H6.out] at hb7
    go_wp2_with fail
    go_ret2
    exact ⟨_, _, _, rfl, hb7.low hx6.size, hx6.trans hx7⟩
end Go.Proofs.Ytoeknbogaclfdaa
