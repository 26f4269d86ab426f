/-
  Images with snapshots: contracts of Check of both texts.
-/
import Derived.Test.YtcklkjklepmabaaZSt
import Derived.Test.YtcklkjklepmabaaZEvPlain
namespace Go.Proofs.Ytcklkjklepmabaa
open Go.RowKit
set_option linter.unusedVariables false
set_option linter.unusedSimpArgs false
set_option linter.unnecessarySimpa false
set_option maxRecDepth 100000

def checkN (st : St) (k o m : Int) (n : Nat) (s : ByteArray) : Nat :=
  if rightE k o m n s = false then 1
  else if k = 1 ∨ k = 2 ∨ k = 3 then (if (st.d.length : Int) < spanO k o m n s + spanN k o m n s then 3 else 0)
  else if k = 5 then (if 0 ≤ findI st.sn s then 5 else if 8 ≤ st.sn.length then 6 else 0)
  else if k = 6 ∨ k = 7 then (if findI st.sn s < 0 then 4 else 0) else 0
theorem span_bounds {k o m : Int} {n : Nat} {s : ByteArray} : 0 ≤ spanO k o m n s ∧ spanO k o m n s ≤ 512 ∧ 0 ≤ spanN k o m n s ∧ spanN k o m n s ≤ 512 := by
  unfold spanO spanN
  by_cases hp : plainE k o m n s = true
  · rw [if_pos hp, if_pos hp]
    unfold plainE at hp
    rw [Bool.and_eq_true] at hp
    rcases right_cases hp.1 with ⟨rfl, h1, h2, _⟩ | ⟨h1, h2, h3, _⟩ | ⟨rfl, _⟩ | ⟨h1, _⟩ | ⟨rfl, _⟩
    · rw [if_pos rfl]; omega
    · rw [if_neg (by omega)]; omega
    · simp at hp
    · have := hp.2; simp at this; omega
    · simp at hp
  · rw [if_neg hp, if_neg hp]; omega
theorem findF_ge : ∀ (xs : List Ol) (s : ByteArray) (k : Nat), -1 ≤ findF xs s k ∧ findF xs s k < k + xs.length + 1
  | [], s, k => by simp [findF]; omega
  | x :: xs, s, k => by
    rw [findF]
    have := findF_ge xs s (k + 1)
    simp only [List.length_cons]
    split <;> omega
theorem check_wrong {st : St} {k o m : Int} {n : Nat} {s : ByteArray} (h : rightE k o m n s = false) : checkN st k o m n s = 1 := by unfold checkN; rw [if_pos h]
theorem check_span {st : St} {k o m : Int} {n : Nat} {s : ByteArray} (h : rightE k o m n s = true) (hk : k = 1 ∨ k = 2 ∨ k = 3) : checkN st k o m n s = if (st.d.length : Int) < spanO k o m n s + spanN k o m n s then 3 else 0 := by
  unfold checkN; rw [if_neg (by rw [h]; simp), if_pos hk]
theorem check_snap {st : St} {o m : Int} {n : Nat} {s : ByteArray} (h : rightE 5 o m n s = true) : checkN st 5 o m n s = if 0 ≤ findI st.sn s then 5 else if 8 ≤ st.sn.length then 6 else 0 := by
  unfold checkN; rw [if_neg (by rw [h]; simp), if_neg (by omega), if_pos rfl]
theorem check_gone {st : St} {k o m : Int} {n : Nat} {s : ByteArray} (h : rightE k o m n s = true) (hk : k = 6 ∨ k = 7) : checkN st k o m n s = if findI st.sn s < 0 then 4 else 0 := by
  unfold checkN; rw [if_neg (by rw [h]; simp), if_neg (by omega), if_neg (by omega), if_pos hk]
theorem check_none {st : St} {k o m : Int} {n : Nat} {s : ByteArray} (h : rightE k o m n s = true) (hk : k = 4 ∨ k = 8) : checkN st k o m n s = 0 := by
  unfold checkN; rw [if_neg (by rw [h]; simp), if_neg (by omega), if_neg (by omega), if_neg (by omega)]
theorem right_kind {k o m : Int} {n : Nat} {s : ByteArray} (h : rightE k o m n s = true) : k = 1 ∨ k = 2 ∨ k = 3 ∨ k = 4 ∨ k = 5 ∨ k = 6 ∨ k = 7 ∨ k = 8 := by
  rcases right_cases h with ⟨h, _⟩ | ⟨h, _⟩ | ⟨h, _⟩ | ⟨h, _⟩ | ⟨h, _⟩ <;> omega
set_option maxHeartbeats 4000000 in
theorem ref_Check {A : Option Addr} {n c : Nat} {A2 : Option Addr} {n2 c2 : Nat} {st : St} {k o m : Int} {Ae : Option Addr} {ne ce : Nat} {l : List UInt8} {s : ByteArray} {w : World} (hst : StR w A n c A2 n2 c2 st) (hsl : Sl w Ae ne ce l) (hs : s.size ≤ maxLen) {r : Nat} (hr : Hid (checkN st k o m ne s = r)) :
    Calls Try.prog 54 #[stV A n c A2 n2 c2, evV k o m Ae ne ce s] w fun e w' => e = .returned (.int .i64 r) ∧ Ext w w' := by
  have h63 := hst.1.n63
  have h632 := hst.2.n63
  have hdl := hst.1.len
  have hsn := hst.2.len
  have s0 := (Ext.alloc _ (.cells #[.int .i64 k, .int .i64 o, .int .i64 m, .slice Ae ne ce, .string s] 28)).cell (cell_new w #[.slice A n c, .slice A2 n2 c2] 35 0)
  have s1 := (Ext.alloc _ (.cells #[.int .i64 k, .int .i64 o, .int .i64 m, .slice Ae ne ce, .string s] 28)).cell (cell_new w #[.slice A n c, .slice A2 n2 c2] 35 1)
  have v0 : ((w.alloc (.cells #[.slice A n c, .slice A2 n2 c2] 35)).alloc (.cells #[.int .i64 k, .int .i64 o, .int .i64 m, .slice Ae ne ce, .string s] 28)).cell? ⟨w.heap.size + 1, 0, none⟩ = some (.int .i64 k) := by
    have := cell_new (w.alloc (.cells #[.slice A n c, .slice A2 n2 c2] 35)) #[.int .i64 k, .int .i64 o, .int .i64 m, .slice Ae ne ce, .string s] 28 0
    simpa using this
  have v1 : ((w.alloc (.cells #[.slice A n c, .slice A2 n2 c2] 35)).alloc (.cells #[.int .i64 k, .int .i64 o, .int .i64 m, .slice Ae ne ce, .string s] 28)).cell? ⟨w.heap.size + 1, 1, none⟩ = some (.int .i64 o) := by
    have := cell_new (w.alloc (.cells #[.slice A n c, .slice A2 n2 c2] 35)) #[.int .i64 k, .int .i64 o, .int .i64 m, .slice Ae ne ce, .string s] 28 1
    simpa using this
  have v2 : ((w.alloc (.cells #[.slice A n c, .slice A2 n2 c2] 35)).alloc (.cells #[.int .i64 k, .int .i64 o, .int .i64 m, .slice Ae ne ce, .string s] 28)).cell? ⟨w.heap.size + 1, 2, none⟩ = some (.int .i64 m) := by
    have := cell_new (w.alloc (.cells #[.slice A n c, .slice A2 n2 c2] 35)) #[.int .i64 k, .int .i64 o, .int .i64 m, .slice Ae ne ce, .string s] 28 2
    simpa using this
  have v3 : ((w.alloc (.cells #[.slice A n c, .slice A2 n2 c2] 35)).alloc (.cells #[.int .i64 k, .int .i64 o, .int .i64 m, .slice Ae ne ce, .string s] 28)).cell? ⟨w.heap.size + 1, 3, none⟩ = some (.slice Ae ne ce) := by
    have := cell_new (w.alloc (.cells #[.slice A n c, .slice A2 n2 c2] 35)) #[.int .i64 k, .int .i64 o, .int .i64 m, .slice Ae ne ce, .string s] 28 3
    simpa using this
  have v4 : ((w.alloc (.cells #[.slice A n c, .slice A2 n2 c2] 35)).alloc (.cells #[.int .i64 k, .int .i64 o, .int .i64 m, .slice Ae ne ce, .string s] 28)).cell? ⟨w.heap.size + 1, 4, none⟩ = some (.string s) := by
    have := cell_new (w.alloc (.cells #[.slice A n c, .slice A2 n2 c2] 35)) #[.int .i64 k, .int .i64 o, .int .i64 m, .slice Ae ne ce, .string s] 28 4
    simpa using this
  have g0 : Ext w ((w.alloc (.cells #[.slice A n c, .slice A2 n2 c2] 35)).alloc (.cells #[.int .i64 k, .int .i64 o, .int .i64 m, .slice Ae ne ce, .string s] 28)) := (Ext.alloc _ _).trans (Ext.alloc _ _)
  obtain ⟨z, hz⟩ : ∃ z, rightE k o m ne s = z := ⟨_, rfl⟩
  obtain ⟨f, hf⟩ : ∃ f, findI st.sn s = f := ⟨_, rfl⟩
  obtain ⟨so, hso⟩ : ∃ q, spanO k o m ne s = q := ⟨_, rfl⟩
  obtain ⟨sn, hsn2⟩ : ∃ q, spanN k o m ne s = q := ⟨_, rfl⟩
  have hb := span_bounds (k := k) (o := o) (m := m) (n := ne) (s := s)
  rw [hso, hsn2] at hb
  obtain ⟨hb1, hb2, hb3, hb4⟩ := hb
  have HR := Lib.hid hz
  have HF := Lib.hid hf
  have hr2 := hr.out
  cases z with
  | false =>
    rw [check_wrong hz] at hr2
    subst hr2
    clear hr hz hf hso hsn2
    go_enter Try.func54, Try.ntmps54
    go_wp2_with fail
    refine (ref_RightEvent k o m Ae ne ce s _ hsl.n63.1 hs).mono ?_
    rintro e w1 ⟨rfl, h1⟩
    rw [HR.out]
    replace s0 := h1.cell s0
    replace s1 := h1.cell s1
    replace v0 := h1.cell v0
    replace v1 := h1.cell v1
    replace v2 := h1.cell v2
    replace v3 := h1.cell v3
    replace v4 := h1.cell v4
    replace g0 := g0.trans h1
    clear h1
    go_wp2_with fail
    go_ret
    exact ⟨rfl, g0⟩
  | true =>
    have hkk := right_kind hz
    have HSO := Lib.hid hso
    have HSN := Lib.hid hsn2
    clear hr
    rcases hkk with rfl | rfl | rfl | rfl | rfl | rfl | rfl | rfl
    · rw [check_span hz (by omega), hso, hsn2, hdl] at hr2
      clear hz hf hso hsn2
      by_cases hd : (n : Int) < so + sn
      · rw [if_pos hd] at hr2
        subst hr2
        have q1 : decide ((n : Int) < so + sn) = true := by simpa using hd
        clear hd
        go_enter Try.func54, Try.ntmps54
        go_wp2_with fail
        refine (ref_RightEvent 1 o m Ae ne ce s _ hsl.n63.1 hs).mono ?_
        rintro e w1 ⟨rfl, h1⟩
        rw [HR.out]
        replace s0 := h1.cell s0
        replace s1 := h1.cell s1
        replace v0 := h1.cell v0
        replace v1 := h1.cell v1
        replace v2 := h1.cell v2
        replace v3 := h1.cell v3
        replace v4 := h1.cell v4
        replace g0 := g0.trans h1
        clear h1
        go_wp2_with fail
        refine (ref_Span 1 o m Ae ne ce s _ hsl.n63.1 hs).mono ?_
        rintro e w1 ⟨rfl, h1⟩
        rw [HSO.out, HSN.out]
        replace s0 := h1.cell s0
        replace s1 := h1.cell s1
        replace v0 := h1.cell v0
        replace v1 := h1.cell v1
        replace v2 := h1.cell v2
        replace v3 := h1.cell v3
        replace v4 := h1.cell v4
        replace g0 := g0.trans h1
        clear h1
        go_wp2_with fail
        go_ret
        exact ⟨rfl, g0⟩
      · rw [if_neg hd] at hr2
        subst hr2
        have q1 : decide ((n : Int) < so + sn) = false := by simpa using hd
        clear hd
        go_enter Try.func54, Try.ntmps54
        go_wp2_with fail
        refine (ref_RightEvent 1 o m Ae ne ce s _ hsl.n63.1 hs).mono ?_
        rintro e w1 ⟨rfl, h1⟩
        rw [HR.out]
        replace s0 := h1.cell s0
        replace s1 := h1.cell s1
        replace v0 := h1.cell v0
        replace v1 := h1.cell v1
        replace v2 := h1.cell v2
        replace v3 := h1.cell v3
        replace v4 := h1.cell v4
        replace g0 := g0.trans h1
        clear h1
        go_wp2_with fail
        refine (ref_Span 1 o m Ae ne ce s _ hsl.n63.1 hs).mono ?_
        rintro e w1 ⟨rfl, h1⟩
        rw [HSO.out, HSN.out]
        replace s0 := h1.cell s0
        replace s1 := h1.cell s1
        replace v0 := h1.cell v0
        replace v1 := h1.cell v1
        replace v2 := h1.cell v2
        replace v3 := h1.cell v3
        replace v4 := h1.cell v4
        replace g0 := g0.trans h1
        clear h1
        go_wp2_with fail
        go_ret
        exact ⟨rfl, g0⟩
    · rw [check_span hz (by omega), hso, hsn2, hdl] at hr2
      clear hz hf hso hsn2
      by_cases hd : (n : Int) < so + sn
      · rw [if_pos hd] at hr2
        subst hr2
        have q1 : decide ((n : Int) < so + sn) = true := by simpa using hd
        clear hd
        go_enter Try.func54, Try.ntmps54
        go_wp2_with fail
        refine (ref_RightEvent 2 o m Ae ne ce s _ hsl.n63.1 hs).mono ?_
        rintro e w1 ⟨rfl, h1⟩
        rw [HR.out]
        replace s0 := h1.cell s0
        replace s1 := h1.cell s1
        replace v0 := h1.cell v0
        replace v1 := h1.cell v1
        replace v2 := h1.cell v2
        replace v3 := h1.cell v3
        replace v4 := h1.cell v4
        replace g0 := g0.trans h1
        clear h1
        go_wp2_with fail
        refine (ref_Span 2 o m Ae ne ce s _ hsl.n63.1 hs).mono ?_
        rintro e w1 ⟨rfl, h1⟩
        rw [HSO.out, HSN.out]
        replace s0 := h1.cell s0
        replace s1 := h1.cell s1
        replace v0 := h1.cell v0
        replace v1 := h1.cell v1
        replace v2 := h1.cell v2
        replace v3 := h1.cell v3
        replace v4 := h1.cell v4
        replace g0 := g0.trans h1
        clear h1
        go_wp2_with fail
        go_ret
        exact ⟨rfl, g0⟩
      · rw [if_neg hd] at hr2
        subst hr2
        have q1 : decide ((n : Int) < so + sn) = false := by simpa using hd
        clear hd
        go_enter Try.func54, Try.ntmps54
        go_wp2_with fail
        refine (ref_RightEvent 2 o m Ae ne ce s _ hsl.n63.1 hs).mono ?_
        rintro e w1 ⟨rfl, h1⟩
        rw [HR.out]
        replace s0 := h1.cell s0
        replace s1 := h1.cell s1
        replace v0 := h1.cell v0
        replace v1 := h1.cell v1
        replace v2 := h1.cell v2
        replace v3 := h1.cell v3
        replace v4 := h1.cell v4
        replace g0 := g0.trans h1
        clear h1
        go_wp2_with fail
        refine (ref_Span 2 o m Ae ne ce s _ hsl.n63.1 hs).mono ?_
        rintro e w1 ⟨rfl, h1⟩
        rw [HSO.out, HSN.out]
        replace s0 := h1.cell s0
        replace s1 := h1.cell s1
        replace v0 := h1.cell v0
        replace v1 := h1.cell v1
        replace v2 := h1.cell v2
        replace v3 := h1.cell v3
        replace v4 := h1.cell v4
        replace g0 := g0.trans h1
        clear h1
        go_wp2_with fail
        go_ret
        exact ⟨rfl, g0⟩
    · rw [check_span hz (by omega), hso, hsn2, hdl] at hr2
      clear hz hf hso hsn2
      by_cases hd : (n : Int) < so + sn
      · rw [if_pos hd] at hr2
        subst hr2
        have q1 : decide ((n : Int) < so + sn) = true := by simpa using hd
        clear hd
        go_enter Try.func54, Try.ntmps54
        go_wp2_with fail
        refine (ref_RightEvent 3 o m Ae ne ce s _ hsl.n63.1 hs).mono ?_
        rintro e w1 ⟨rfl, h1⟩
        rw [HR.out]
        replace s0 := h1.cell s0
        replace s1 := h1.cell s1
        replace v0 := h1.cell v0
        replace v1 := h1.cell v1
        replace v2 := h1.cell v2
        replace v3 := h1.cell v3
        replace v4 := h1.cell v4
        replace g0 := g0.trans h1
        clear h1
        go_wp2_with fail
        refine (ref_Span 3 o m Ae ne ce s _ hsl.n63.1 hs).mono ?_
        rintro e w1 ⟨rfl, h1⟩
        rw [HSO.out, HSN.out]
        replace s0 := h1.cell s0
        replace s1 := h1.cell s1
        replace v0 := h1.cell v0
        replace v1 := h1.cell v1
        replace v2 := h1.cell v2
        replace v3 := h1.cell v3
        replace v4 := h1.cell v4
        replace g0 := g0.trans h1
        clear h1
        go_wp2_with fail
        go_ret
        exact ⟨rfl, g0⟩
      · rw [if_neg hd] at hr2
        subst hr2
        have q1 : decide ((n : Int) < so + sn) = false := by simpa using hd
        clear hd
        go_enter Try.func54, Try.ntmps54
        go_wp2_with fail
        refine (ref_RightEvent 3 o m Ae ne ce s _ hsl.n63.1 hs).mono ?_
        rintro e w1 ⟨rfl, h1⟩
        rw [HR.out]
        replace s0 := h1.cell s0
        replace s1 := h1.cell s1
        replace v0 := h1.cell v0
        replace v1 := h1.cell v1
        replace v2 := h1.cell v2
        replace v3 := h1.cell v3
        replace v4 := h1.cell v4
        replace g0 := g0.trans h1
        clear h1
        go_wp2_with fail
        refine (ref_Span 3 o m Ae ne ce s _ hsl.n63.1 hs).mono ?_
        rintro e w1 ⟨rfl, h1⟩
        rw [HSO.out, HSN.out]
        replace s0 := h1.cell s0
        replace s1 := h1.cell s1
        replace v0 := h1.cell v0
        replace v1 := h1.cell v1
        replace v2 := h1.cell v2
        replace v3 := h1.cell v3
        replace v4 := h1.cell v4
        replace g0 := g0.trans h1
        clear h1
        go_wp2_with fail
        go_ret
        exact ⟨rfl, g0⟩
    · rw [check_none hz (by omega)] at hr2
      subst hr2
      clear hz hf hso hsn2
      go_enter Try.func54, Try.ntmps54
      go_wp2_with fail
      refine (ref_RightEvent 4 o m Ae ne ce s _ hsl.n63.1 hs).mono ?_
      rintro e w1 ⟨rfl, h1⟩
      rw [HR.out]
      replace s0 := h1.cell s0
      replace s1 := h1.cell s1
      replace v0 := h1.cell v0
      replace v1 := h1.cell v1
      replace v2 := h1.cell v2
      replace v3 := h1.cell v3
      replace v4 := h1.cell v4
      replace g0 := g0.trans h1
      clear h1
      go_wp2_with fail
      go_ret
      exact ⟨rfl, g0⟩
    · rw [check_snap hz, hf, hsn] at hr2
      clear hz hf hso hsn2
      by_cases hd : 0 ≤ f
      · rw [if_pos hd] at hr2
        subst hr2
        have q1 : decide (0 ≤ f) = true := by simpa using hd
        clear hd
        go_enter Try.func54, Try.ntmps54
        go_wp2_with fail
        refine (ref_RightEvent 5 o m Ae ne ce s _ hsl.n63.1 hs).mono ?_
        rintro e w1 ⟨rfl, h1⟩
        rw [HR.out]
        replace s0 := h1.cell s0
        replace s1 := h1.cell s1
        replace v0 := h1.cell v0
        replace v1 := h1.cell v1
        replace v2 := h1.cell v2
        replace v3 := h1.cell v3
        replace v4 := h1.cell v4
        replace g0 := g0.trans h1
        clear h1
        go_wp2_with fail
        refine (ref_Find (hst.ext g0) HF).mono ?_
        rintro e w1 ⟨rfl, h1⟩
        replace s0 := h1.cell s0
        replace s1 := h1.cell s1
        replace v0 := h1.cell v0
        replace v1 := h1.cell v1
        replace v2 := h1.cell v2
        replace v3 := h1.cell v3
        replace v4 := h1.cell v4
        replace g0 := g0.trans h1
        clear h1
        go_wp2_with fail
        go_ret
        exact ⟨rfl, g0⟩
      · rw [if_neg hd] at hr2
        have q1 : decide (0 ≤ f) = false := by simpa using hd
        clear hd
        by_cases hd : 8 ≤ n2
        · rw [if_pos hd] at hr2
          subst hr2
          have q2 : decide ((8 : Int) ≤ (n2 : Int)) = true := by simp; omega
          have q2' : decide (8 ≤ n2) = true := by simpa using hd
          clear hd
          go_enter Try.func54, Try.ntmps54
          go_wp2_with fail
          refine (ref_RightEvent 5 o m Ae ne ce s _ hsl.n63.1 hs).mono ?_
          rintro e w1 ⟨rfl, h1⟩
          rw [HR.out]
          replace s0 := h1.cell s0
          replace s1 := h1.cell s1
          replace v0 := h1.cell v0
          replace v1 := h1.cell v1
          replace v2 := h1.cell v2
          replace v3 := h1.cell v3
          replace v4 := h1.cell v4
          replace g0 := g0.trans h1
          clear h1
          go_wp2_with fail
          refine (ref_Find (hst.ext g0) HF).mono ?_
          rintro e w1 ⟨rfl, h1⟩
          replace s0 := h1.cell s0
          replace s1 := h1.cell s1
          replace v0 := h1.cell v0
          replace v1 := h1.cell v1
          replace v2 := h1.cell v2
          replace v3 := h1.cell v3
          replace v4 := h1.cell v4
          replace g0 := g0.trans h1
          clear h1
          go_wp2_with fail
          go_ret
          exact ⟨rfl, g0⟩
        · rw [if_neg hd] at hr2
          subst hr2
          have q2 : decide ((8 : Int) ≤ (n2 : Int)) = false := by simp; omega
          have q2' : decide (8 ≤ n2) = false := by simpa using hd
          clear hd
          go_enter Try.func54, Try.ntmps54
          go_wp2_with fail
          refine (ref_RightEvent 5 o m Ae ne ce s _ hsl.n63.1 hs).mono ?_
          rintro e w1 ⟨rfl, h1⟩
          rw [HR.out]
          replace s0 := h1.cell s0
          replace s1 := h1.cell s1
          replace v0 := h1.cell v0
          replace v1 := h1.cell v1
          replace v2 := h1.cell v2
          replace v3 := h1.cell v3
          replace v4 := h1.cell v4
          replace g0 := g0.trans h1
          clear h1
          go_wp2_with fail
          refine (ref_Find (hst.ext g0) HF).mono ?_
          rintro e w1 ⟨rfl, h1⟩
          replace s0 := h1.cell s0
          replace s1 := h1.cell s1
          replace v0 := h1.cell v0
          replace v1 := h1.cell v1
          replace v2 := h1.cell v2
          replace v3 := h1.cell v3
          replace v4 := h1.cell v4
          replace g0 := g0.trans h1
          clear h1
          go_wp2_with fail
          go_ret
          exact ⟨rfl, g0⟩
    · rw [check_gone hz (by omega), hf] at hr2
      clear hz hf hso hsn2
      by_cases hd : f < 0
      · rw [if_pos hd] at hr2
        subst hr2
        have q1 : decide (f < 0) = true := by simpa using hd
        clear hd
        go_enter Try.func54, Try.ntmps54
        go_wp2_with fail
        refine (ref_RightEvent 6 o m Ae ne ce s _ hsl.n63.1 hs).mono ?_
        rintro e w1 ⟨rfl, h1⟩
        rw [HR.out]
        replace s0 := h1.cell s0
        replace s1 := h1.cell s1
        replace v0 := h1.cell v0
        replace v1 := h1.cell v1
        replace v2 := h1.cell v2
        replace v3 := h1.cell v3
        replace v4 := h1.cell v4
        replace g0 := g0.trans h1
        clear h1
        go_wp2_with fail
        refine (ref_Find (hst.ext g0) HF).mono ?_
        rintro e w1 ⟨rfl, h1⟩
        replace s0 := h1.cell s0
        replace s1 := h1.cell s1
        replace v0 := h1.cell v0
        replace v1 := h1.cell v1
        replace v2 := h1.cell v2
        replace v3 := h1.cell v3
        replace v4 := h1.cell v4
        replace g0 := g0.trans h1
        clear h1
        go_wp2_with fail
        go_ret
        exact ⟨rfl, g0⟩
      · rw [if_neg hd] at hr2
        subst hr2
        have q1 : decide (f < 0) = false := by simpa using hd
        clear hd
        go_enter Try.func54, Try.ntmps54
        go_wp2_with fail
        refine (ref_RightEvent 6 o m Ae ne ce s _ hsl.n63.1 hs).mono ?_
        rintro e w1 ⟨rfl, h1⟩
        rw [HR.out]
        replace s0 := h1.cell s0
        replace s1 := h1.cell s1
        replace v0 := h1.cell v0
        replace v1 := h1.cell v1
        replace v2 := h1.cell v2
        replace v3 := h1.cell v3
        replace v4 := h1.cell v4
        replace g0 := g0.trans h1
        clear h1
        go_wp2_with fail
        refine (ref_Find (hst.ext g0) HF).mono ?_
        rintro e w1 ⟨rfl, h1⟩
        replace s0 := h1.cell s0
        replace s1 := h1.cell s1
        replace v0 := h1.cell v0
        replace v1 := h1.cell v1
        replace v2 := h1.cell v2
        replace v3 := h1.cell v3
        replace v4 := h1.cell v4
        replace g0 := g0.trans h1
        clear h1
        go_wp2_with fail
        go_ret
        exact ⟨rfl, g0⟩
    · rw [check_gone hz (by omega), hf] at hr2
      clear hz hf hso hsn2
      by_cases hd : f < 0
      · rw [if_pos hd] at hr2
        subst hr2
        have q1 : decide (f < 0) = true := by simpa using hd
        clear hd
        go_enter Try.func54, Try.ntmps54
        go_wp2_with fail
        refine (ref_RightEvent 7 o m Ae ne ce s _ hsl.n63.1 hs).mono ?_
        rintro e w1 ⟨rfl, h1⟩
        rw [HR.out]
        replace s0 := h1.cell s0
        replace s1 := h1.cell s1
        replace v0 := h1.cell v0
        replace v1 := h1.cell v1
        replace v2 := h1.cell v2
        replace v3 := h1.cell v3
        replace v4 := h1.cell v4
        replace g0 := g0.trans h1
        clear h1
        go_wp2_with fail
        refine (ref_Find (hst.ext g0) HF).mono ?_
        rintro e w1 ⟨rfl, h1⟩
        replace s0 := h1.cell s0
        replace s1 := h1.cell s1
        replace v0 := h1.cell v0
        replace v1 := h1.cell v1
        replace v2 := h1.cell v2
        replace v3 := h1.cell v3
        replace v4 := h1.cell v4
        replace g0 := g0.trans h1
        clear h1
        go_wp2_with fail
        go_ret
        exact ⟨rfl, g0⟩
      · rw [if_neg hd] at hr2
        subst hr2
        have q1 : decide (f < 0) = false := by simpa using hd
        clear hd
        go_enter Try.func54, Try.ntmps54
        go_wp2_with fail
        refine (ref_RightEvent 7 o m Ae ne ce s _ hsl.n63.1 hs).mono ?_
        rintro e w1 ⟨rfl, h1⟩
        rw [HR.out]
        replace s0 := h1.cell s0
        replace s1 := h1.cell s1
        replace v0 := h1.cell v0
        replace v1 := h1.cell v1
        replace v2 := h1.cell v2
        replace v3 := h1.cell v3
        replace v4 := h1.cell v4
        replace g0 := g0.trans h1
        clear h1
        go_wp2_with fail
        refine (ref_Find (hst.ext g0) HF).mono ?_
        rintro e w1 ⟨rfl, h1⟩
        replace s0 := h1.cell s0
        replace s1 := h1.cell s1
        replace v0 := h1.cell v0
        replace v1 := h1.cell v1
        replace v2 := h1.cell v2
        replace v3 := h1.cell v3
        replace v4 := h1.cell v4
        replace g0 := g0.trans h1
        clear h1
        go_wp2_with fail
        go_ret
        exact ⟨rfl, g0⟩
    · rw [check_none hz (by omega)] at hr2
      subst hr2
      clear hz hf hso hsn2
      go_enter Try.func54, Try.ntmps54
      go_wp2_with fail
      refine (ref_RightEvent 8 o m Ae ne ce s _ hsl.n63.1 hs).mono ?_
      rintro e w1 ⟨rfl, h1⟩
      rw [HR.out]
      replace s0 := h1.cell s0
      replace s1 := h1.cell s1
      replace v0 := h1.cell v0
      replace v1 := h1.cell v1
      replace v2 := h1.cell v2
      replace v3 := h1.cell v3
      replace v4 := h1.cell v4
      replace g0 := g0.trans h1
      clear h1
      go_wp2_with fail
      go_ret
      exact ⟨rfl, g0⟩
end Go.Proofs.Ytcklkjklepmabaa
