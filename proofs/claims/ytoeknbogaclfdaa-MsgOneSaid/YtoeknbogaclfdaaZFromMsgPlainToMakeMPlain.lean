/-
  Messages: what may be, their bytes, what bytes are. Plain lists, no program in sight.
-/
/-
  Chapter 8: records that are made of numbers: they may be. No program in sight.
-/
/-
  Chapter 9: messages that are made of numbers: they may be; how long their bytes are. No program in sight.
-/
import Derived.Test.YtoeknbogaclfdaaZFromMkPlainToGet
import Derived.Test.YtoeknbogaclfdaaZFrameTake
import Derived.Test.YtoeknbogaclfdaaZFromLePlainToMask2
namespace Go.Proofs.Ytoeknbogaclfdaa
set_option linter.unusedVariables false
set_option linter.unusedSimpArgs false

structure Ms where
  kind : Int
  nonce : Int
  pos : Int
  en : Int
  stage : Int
  num : Int
  chain : List Tg
  ents : List En
  marks : List Mk
  data : List UInt8
  deriving DecidableEq
/-- what of a message its kind names -/
def bareM (m : Ms) : Ms :=
  ⟨m.kind, m.nonce, if m.kind = 1 ∨ m.kind = 2 ∨ m.kind = 4 then m.pos else 0, if m.kind = 1 ∨ m.kind = 2 then m.en else 0, if m.kind = 5 ∨ m.kind = 6 then m.stage else 0,
   if m.kind = 5 ∨ m.kind = 6 ∨ m.kind = 9 then m.num else 0, if m.kind = 2 ∨ m.kind = 4 then m.chain else [], if m.kind = 2 then m.ents else [], if m.kind = 4 then m.marks else [], if m.kind = 6 then m.data else []⟩
def entsF : Int → List En → Bool
  | _, [] => true
  | p, x :: xs => (rightN x.t x.s x.d.length && decide (x.s = p + 1)) && entsF (p + 1) xs
def entsB (p : Int) (l : List En) : Bool := decide (l.length ≤ 4) && entsF p l
def markT (x : Mk) : Bool := decide (1 ≤ x.id ∧ x.id ≤ 1073741824 ∧ 0 ≤ x.sz ∧ x.sz ≤ 512) && nameM x.nm
def marksT (l : List Mk) : Bool := decide (1 ≤ l.length ∧ l.length ≤ 17) && l.all markT
def numsM (m : Ms) : Bool := decide ((1 ≤ m.nonce ∧ m.nonce ≤ 1099511627776) ∧ (0 ≤ m.pos ∧ m.pos ≤ 1099511627776) ∧ (0 ≤ m.en ∧ m.en ≤ 1099511627776) ∧ (0 ≤ m.stage ∧ m.stage ≤ 16) ∧ (0 ≤ m.num ∧ m.num ≤ 512))
def tailM (m : Ms) : Bool := if m.kind = 2 then rightL m.chain && entsB m.pos m.ents else if m.kind = 4 then rightL m.chain && marksT m.marks else if m.kind = 9 then decide (1 ≤ m.num ∧ m.num ≤ 13) else true
def headM (m : Ms) : Bool := decide (1 ≤ m.kind ∧ m.kind ≤ 9) && (decide (bareM m = m) && (numsM m && decide (m.data.length ≤ 64)))
def rightM (m : Ms) : Bool := headM m && tailM m

/-! bytes -/
def enBs (l : List En) : List UInt8 := (l.map fun x => layE x.t.toNat x.s.toNat x.d).flatten
def msNs (m : Ms) : List Int := [m.nonce, m.pos, m.en, m.stage, m.num]
def chainBs (m : Ms) : List UInt8 := if m.kind = 2 ∨ m.kind = 4 then varl (putL m.chain).length ++ putL m.chain else []
def restBs (m : Ms) : List UInt8 := if m.kind = 2 then varl m.ents.length ++ enBs m.ents else if m.kind = 4 then varl m.marks.length ++ mksBs m.marks else if m.kind = 6 then m.data else []
def bodyM (m : Ms) : List UInt8 := UInt8.ofNat m.kind.toNat :: (varsL (msNs m) ++ (chainBs m ++ restBs m))
def putM (m : Ms) : List UInt8 := put (bodyM m) (crcOf (bodyM m)) 4

/-! what bytes are: the document's own reading (true), the program's (false) -/
def entsG : Nat → List UInt8 → Int → Option (List En)
  | 0, _, _ => some []
  | f + 1, b, a => if (tkA b a).2.2.2.2 = 0 then (entsG f b (tkA b a).2.2.2.1).map fun l => ⟨(tkA b a).1, (tkA b a).2.1, (tkA b a).2.2.1⟩ :: l else none
def entsO (b : List UInt8) (a : Int) : Option (List En) := if gvC b a = true ∧ gvA b a ≤ 4 then entsG (gvA b a).toNat b (gvB b a) else none
def tagsO (b : List UInt8) (a : Int) : Option (List Tg × Int) := (gtO b a b.length).bind fun q => (getL q.1).map fun l => (l, q.2)
def chainO (k : Int) (b : List UInt8) (a : Int) : Option (List Tg × Int) := if k = 2 ∨ k = 4 then tagsO b a else some ([], a)
def restO (rf : Bool) (k : Int) (b : List UInt8) (a : Int) : Option (List En × List Mk × List UInt8) :=
  if k = 2 then (entsO b a).map fun l => (l, [], []) else if k = 4 then (mksO rf b a).map fun q => ([], q.1, []) else if k = 6 then some ([], [], b.drop a.toNat) else some ([], [], [])
def msOf (k : Int) (l : List Int) (c : List Tg) (r : List En × List Mk × List UInt8) : Ms := ⟨k, l.getD 0 0, l.getD 1 0, l.getD 2 0, l.getD 3 0, l.getD 4 0, c, r.1, r.2.1, r.2.2⟩
def kindOf (b : List UInt8) : Int := ((b.getD 0 0).toNat : Int)
def parseM (rf : Bool) (b : List UInt8) : Option Ms := if b.length < 1 then none else (numsF 5 b 1).bind fun p => (chainO (kindOf b) b p.2).bind fun q => (restO rf (kindOf b) b q.2).map fun r => msOf (kindOf b) p.1 q.1 r
def getM (rf : Bool) (b : List UInt8) : Option Ms := (crcOpen b).bind fun c => (parseM rf c).bind fun m => if rightM m = true ∧ putM m = b then some m else none

theorem headM_iff {m : Ms} : headM m = true ↔ (1 ≤ m.kind ∧ m.kind ≤ 9) ∧ bareM m = m ∧ ((1 ≤ m.nonce ∧ m.nonce ≤ 1099511627776) ∧ (0 ≤ m.pos ∧ m.pos ≤ 1099511627776) ∧ (0 ≤ m.en ∧ m.en ≤ 1099511627776) ∧ (0 ≤ m.stage ∧ m.stage ≤ 16) ∧ (0 ≤ m.num ∧ m.num ≤ 512)) ∧ m.data.length ≤ 64 := by
  unfold headM numsM
  simp only [Bool.and_eq_true, decide_eq_true_eq]
theorem entsF_mem : ∀ {l : List En} {p : Int}, entsF p l = true → ∀ x ∈ l, rightN x.t x.s x.d.length = true
  | [], _, _, x, hx => by simp at hx
  | y :: ys, p, h, x, hx => by
    rw [entsF, Bool.and_eq_true, Bool.and_eq_true] at h
    rcases List.mem_cons.1 hx with rfl | hx
    · exact h.1.1
    · exact entsF_mem h.2 x hx
theorem enBs_next {xs : List En} {k : Nat} {x : En} (hx : xs[k]? = some x) : enBs (xs.take (k + 1)) = enBs (xs.take k) ++ layE x.t.toNat x.s.toNat x.d := by
  unfold enBs
  rw [List.take_add_one, hx]
  simp
theorem tkA_lay {x : En} {b pre r : List UInt8} {a : Int} (hx : rightN x.t x.s x.d.length = true) (hb : b = pre ++ layE x.t.toNat x.s.toNat x.d ++ r) (ha : a = (pre.length : Int)) : tkA b a = (x.t.toNat, x.s.toNat, x.d, a + ((layE x.t.toNat x.s.toNat x.d).length : Int), 0) := by
  have h := rightN_iff.1 hx
  have h' : rightN x.t.toNat x.s.toNat x.d.length = true := rightN_iff.2 (by omega)
  obtain ⟨t1, t2, t3, t4, t5⟩ := take_lay x.t.toNat x.s.toNat x.d r h'
  have hd : b.drop a.toNat = layE x.t.toNat x.s.toNat x.d ++ r := by
    rw [hb, ha, Int.toNat_natCast, List.append_assoc, List.drop_left]
  have hl : b.length = pre.length + (layE x.t.toNat x.s.toNat x.d).length + r.length := by rw [hb]; simp only [List.length_append]
  have hll := layE_length x.t.toNat x.s.toNat x.d
  unfold tkA
  rw [if_neg (by omega), hd, if_pos t1, t2, t3, t4, t5, hll]
  simp only [Prod.mk.injEq, true_and, and_true]
  omega
theorem ents_there : ∀ (l : List En) (b pre r : List UInt8) (a : Int), (∀ x ∈ l, rightN x.t x.s x.d.length = true) → b = pre ++ enBs l ++ r → a = (pre.length : Int) → entsG l.length b a = some l
  | [], b, pre, r, a, _, hb, ha => rfl
  | x :: xs, b, pre, r, a, hf, hb, ha => by
    have h1 := tkA_lay (b := b) (pre := pre) (r := enBs xs ++ r) (a := a) (hf x (by simp)) (by rw [hb]; unfold enBs; simp) ha
    have h2 := ents_there xs b (pre ++ layE x.t.toNat x.s.toNat x.d) r (a + ((layE x.t.toNat x.s.toNat x.d).length : Int)) (fun y hy => hf y (by simp [hy])) (by rw [hb]; unfold enBs; simp) (by rw [ha, List.length_append]; omega)
    have h3 := rightN_iff.1 (hf x (by simp))
    rw [List.length_cons, entsG, h1, if_pos rfl]
    simp only
    rw [h2, Option.map_some]
    have e1 : ((x.t.toNat : Nat) : Int) = x.t := by omega
    have e2 : ((x.s.toNat : Nat) : Int) = x.s := by omega
    rw [e1, e2]
theorem ents_thereO {l : List En} {b pre r : List UInt8} {a : Int} (hf : ∀ x ∈ l, rightN x.t x.s x.d.length = true) (hl : l.length ≤ 4) (hb : b = pre ++ (varl l.length ++ enBs l) ++ r) (ha : a = (pre.length : Int)) : entsO b a = some l := by
  have hg := gv_there' (b := b) (a := pre) (r := enBs l ++ r) (k := l.length) (i := a) (by rw [hb]; simp) ha (by omega)
  obtain ⟨e1, e2, e3⟩ := gv_vals hg
  unfold entsO
  rw [if_pos ⟨e3, by omega⟩, e1, e2, Int.toNat_natCast]
  exact ents_there l b (pre ++ varl l.length) r _ hf (by rw [hb]; simp) (by rw [List.length_append]; omega)
theorem mks_thereO {rf : Bool} {l : List Mk} {b pre r : List UInt8} {a : Int} (hf : ∀ x ∈ l, fitM x) (hl : l.length ≤ 17) (hb : b = pre ++ (varl l.length ++ mksBs l) ++ r) (ha : a = (pre.length : Int)) : ∃ d, mksO rf b a = some (l, d) := by
  have hg := gv_there' (b := b) (a := pre) (r := mksBs l ++ r) (k := l.length) (i := a) (by rw [hb]; simp) ha (by omega)
  obtain ⟨e1, e2, e3⟩ := gv_vals hg
  have h3 := mks_there (rf := rf) l b (pre ++ varl l.length) r (a + ((varl l.length).length : Int)) hf (by rw [hb]; simp) (by rw [List.length_append]; omega)
  unfold mksO
  rw [if_pos ⟨e3, by omega⟩, e1, e2, Int.toNat_natCast]
  exact ⟨_, h3⟩
theorem tags_thereO {l : List Tg} {b pre r : List UInt8} {a : Int} (hl : rightL l = true) (hb : b = pre ++ (varl (putL l).length ++ putL l) ++ r) (ha : a = (pre.length : Int)) : tagsO b a = some (l, a + (((varl (putL l).length).length + (putL l).length : Nat) : Int)) := by
  have hR := rightL_iff.1 hl
  have hp := putL_len l
  have h32 := hR.2.1
  have hs : (putL l).length = (⟨(putL l).toArray⟩ : ByteArray).size := by simp [ByteArray.size]
  have hg := gt_there (b := b) (pre := pre) (r := r) (s := ⟨(putL l).toArray⟩) (i := a) (most := b.length) (by rw [hb, ← hs]) ha (by rw [← hs, hb]; simp only [List.length_append]; omega) (by rw [← hs]; omega)
  rw [← hs] at hg
  unfold tagsO
  rw [hg, Option.bind_some]
  simp only
  rw [get_put hR, Option.map_some]
theorem markT_fit {x : Mk} (h : markT x = true) : fitM x := by
  unfold markT at h
  simp only [Bool.and_eq_true, decide_eq_true_eq] at h
  have := nameM_size h.2
  unfold fitM
  omega
theorem marksT_iff {l : List Mk} : marksT l = true ↔ (1 ≤ l.length ∧ l.length ≤ 17) ∧ ∀ x ∈ l, markT x = true := by
  unfold marksT
  simp
/-- fields that a kind doesn't name are nought -/
theorem bare_fields {m : Ms} (h : bareM m = m) : (¬ (m.kind = 2 ∨ m.kind = 4) → m.chain = []) ∧ (m.kind ≠ 2 → m.ents = []) ∧ (m.kind ≠ 4 → m.marks = []) ∧ (m.kind ≠ 6 → m.data = []) := by
  unfold bareM at h
  obtain ⟨k, n, p, e, s, q, c, en, mk, d⟩ := m
  simp only [Ms.mk.injEq, true_and] at h ⊢
  obtain ⟨_, _, _, _, h1, h2, h3, h4⟩ := h
  refine ⟨fun hk => ?_, fun hk => ?_, fun hk => ?_, fun hk => ?_⟩
  · rw [if_neg hk] at h1; exact h1.symm
  · rw [if_neg hk] at h2; exact h2.symm
  · rw [if_neg hk] at h3; exact h3.symm
  · rw [if_neg hk] at h4; exact h4.symm
theorem parse_putM {rf : Bool} {m : Ms} (hr : rightM m = true) : parseM rf (bodyM m) = some m := by
  unfold rightM at hr
  rw [Bool.and_eq_true, headM_iff] at hr
  obtain ⟨⟨hk, hbare, hn, hd⟩, ht⟩ := hr
  obtain ⟨f1, f2, f3, f4⟩ := bare_fields hbare
  have hko : kindOf (bodyM m) = m.kind := by
    unfold kindOf bodyM
    simp
    omega
  have hlen : ¬ (bodyM m).length < 1 := by unfold bodyM; simp
  have h1 := nums_there (msNs m) (bodyM m) [UInt8.ofNat m.kind.toNat] (chainBs m ++ restBs m) 1 (fun k hk => by
    simp only [msNs, List.mem_cons, List.not_mem_nil, or_false] at hk
    rcases hk with rfl | rfl | rfl | rfl | rfl <;> omega) (by unfold bodyM; simp) rfl
  unfold parseM
  rw [if_neg hlen, show numsF 5 (bodyM m) 1 = _ from h1, Option.bind_some, hko]
  simp only
  obtain ⟨a2, pre2, hc, hb2, ha2⟩ : ∃ (a2 : Int) (pre : List UInt8), chainO m.kind (bodyM m) (1 + ((varsL (msNs m)).length : Int)) = some (m.chain, a2) ∧ bodyM m = pre ++ restBs m ∧ a2 = (pre.length : Int) := by
    unfold chainO
    by_cases h24 : m.kind = 2 ∨ m.kind = 4
    · rw [if_pos h24]
      have hcr : rightL m.chain = true := by
        unfold tailM at ht
        rcases h24 with h | h
        · rw [if_pos h, Bool.and_eq_true] at ht; exact ht.1
        · rw [if_neg (by omega), if_pos h, Bool.and_eq_true] at ht; exact ht.1
      have e : chainBs m = varl (putL m.chain).length ++ putL m.chain := by unfold chainBs; rw [if_pos h24]
      refine ⟨_, UInt8.ofNat m.kind.toNat :: (varsL (msNs m) ++ chainBs m), tags_thereO (pre := UInt8.ofNat m.kind.toNat :: varsL (msNs m)) (r := restBs m) hcr (by unfold bodyM; rw [e]; simp) (by simp; omega), by unfold bodyM; simp, ?_⟩
      rw [e]
      simp
      omega
    · rw [if_neg h24]
      refine ⟨_, UInt8.ofNat m.kind.toNat :: varsL (msNs m), by rw [f1 h24], by unfold bodyM chainBs; rw [if_neg h24]; simp, by simp; omega⟩
  rw [hc, Option.bind_some]
  simp only
  have hrest : restO rf m.kind (bodyM m) a2 = some (m.ents, m.marks, m.data) := by
    unfold restO
    unfold tailM at ht
    by_cases h2 : m.kind = 2
    · rw [if_pos h2]
      rw [if_pos h2, Bool.and_eq_true] at ht
      unfold entsB at ht
      simp only [Bool.and_eq_true, decide_eq_true_eq] at ht
      have e : restBs m = varl m.ents.length ++ enBs m.ents := by unfold restBs; rw [if_pos h2]
      rw [ents_thereO (l := m.ents) (pre := pre2) (r := []) (entsF_mem ht.2.2) ht.2.1 (by rw [hb2, e]; simp) ha2, Option.map_some, f3 (by omega), f4 (by omega)]
    · rw [if_neg h2]
      rw [if_neg h2] at ht
      by_cases h4 : m.kind = 4
      · rw [if_pos h4]
        rw [if_pos h4, Bool.and_eq_true, marksT_iff] at ht
        have e : restBs m = varl m.marks.length ++ mksBs m.marks := by unfold restBs; rw [if_neg h2, if_pos h4]
        obtain ⟨d, hd2⟩ := mks_thereO (rf := rf) (l := m.marks) (b := bodyM m) (pre := pre2) (r := []) (a := a2) (fun x hx => markT_fit (ht.2.2 x hx)) ht.2.1.2 (by rw [hb2, e]; simp) ha2
        rw [hd2, Option.map_some, f2 h2, f4 (by omega)]
      · rw [if_neg h4]
        by_cases h6 : m.kind = 6
        · have e : restBs m = m.data := by unfold restBs; rw [if_neg h2, if_neg h4, if_pos h6]
          rw [if_pos h6, f2 h2, f3 h4, hb2, ha2, Int.toNat_natCast, List.drop_left, e]
        · rw [if_neg h6, f2 h2, f3 h4, f4 h6]
  rw [hrest, Option.map_some]
  rfl
theorem getM_iff {rf : Bool} {b : List UInt8} {m : Ms} : getM rf b = some m ↔ rightM m = true ∧ putM m = b := by
  constructor
  · intro hg
    unfold getM at hg
    obtain ⟨c, hc, hg⟩ := Option.bind_eq_some_iff.1 hg
    obtain ⟨h', hp, hg⟩ := Option.bind_eq_some_iff.1 hg
    split at hg
    · rename_i hq
      injection hg with hg
      subst hg
      exact hq
    · cases hg
  · rintro ⟨hr, rfl⟩
    unfold getM
    rw [show crcOpen (putM m) = some (bodyM m) from crcOpen_put _, Option.bind_some, parse_putM hr, Option.bind_some, if_pos ⟨hr, rfl⟩]
theorem getM_ref (b : List UInt8) : getM true b = getM false b := by
  cases e : getM true b with
  | some h => exact ((getM_iff (rf := false)).2 (getM_iff.1 e)).symm
  | none =>
    cases e2 : getM false b with
    | none => rfl
    | some h =>
      rw [(getM_iff (rf := true)).2 (getM_iff.1 e2)] at e
      cases e
theorem putM_inj {m w : Ms} (hm : rightM m = true) (hw : rightM w = true) : putM m = putM w ↔ m = w := by
  constructor
  · intro h
    have h1 := (getM_iff (rf := true)).2 ⟨hm, rfl⟩
    have h2 := (getM_iff (rf := true)).2 ⟨hw, rfl⟩
    rw [h, h2] at h1
    injection h1 with h1
    exact h1.symm
  · rintro rfl
    rfl
end Go.Proofs.Ytoeknbogaclfdaa

namespace Go.Proofs.Ytoeknbogaclfdaa
open Go.RowKit
set_option linter.unusedVariables false
set_option linter.unusedSimpArgs false

structure Mst where
  ms : List Mk
  nx : Int
  sn : Nat
  hd : Bool
def nmI (i : Nat) : ByteArray := ⟨#[115, UInt8.ofNat (97 + i)]⟩
def nmT : ByteArray := ⟨#[126, 110]⟩
def szI (v : Int) : Int := bits BinOp.and IntKind.i64 v 511
def gnB (v : Int) : Bool := bits BinOp.and IntKind.i64 v 1024 != 0
def hlB (v : Int) : Bool := bits BinOp.and IntKind.i64 v 14336 == 0
def stI (v : Int) : Int := bits BinOp.and IntKind.i64 (v / 16384) 1
def markS (i : Nat) (v : Int) (st : Mst) : Mk := if (hlB v && !st.hd) = true then ⟨st.nx, nmT, szI v, false⟩ else if (!gnB v && decide (st.sn = 8)) = true then ⟨st.nx, nmI i, szI v, true⟩ else ⟨st.nx, nmI i, szI v, gnB v⟩
def seenS (v : Int) (st : Mst) : Nat := if (hlB v && !st.hd) = true then st.sn else if (!gnB v && decide (st.sn = 8)) = true then st.sn else if gnB v = true then st.sn else st.sn + 1
def stepM (i : Nat) (v : Int) (st : Mst) : Mst := ⟨st.ms ++ [markS i v st], st.nx + 1 + stI v, seenS v st, st.hd || hlB v⟩
def mkF : List Int → Nat → Mst → Mst
  | [], _, st => st
  | v :: vs, i, st => mkF vs (i + 1) (stepM i v st)
def st0 : Mst := ⟨[], 1, 0, false⟩
theorem mkF_snoc : ∀ (vs : List Int) (i : Nat) (v : Int) (st : Mst), mkF (vs ++ [v]) i st = stepM (i + vs.length) v (mkF vs i st)
  | [], i, v, st => rfl
  | u :: vs, i, v, st => by
    rw [List.cons_append, mkF, mkF_snoc vs (i + 1) v, mkF, List.length_cons]
    congr 1
    omega
theorem mkF_next {l : List Int} {k : Nat} {v : Int} (h : l[k]? = some v) : mkF (l.take (k + 1)) 0 st0 = stepM k v (mkF (l.take k) 0 st0) := by
  rw [List.take_add_one, h]
  show mkF (l.take k ++ [v]) 0 st0 = _
  rw [mkF_snoc, List.length_take, Nat.zero_add]
  have := (List.getElem?_eq_some_iff.1 h).1
  rw [Nat.min_eq_left (by omega)]
theorem szI_bd (v : Int) : 0 ≤ szI v ∧ szI v ≤ 511 := by unfold szI; rw [and511]; omega
theorem stI_bd (v : Int) : 0 ≤ stI v ∧ stI v ≤ 1 := by unfold stI; rw [and1]; omega
theorem tilde_nmI (i : Nat) : tildeB (nmI i) = false := by unfold tildeB nmI; rfl
theorem tilde_nmT : tildeB nmT = true := by decide
theorem name_nmI : ∀ i, i < 16 → nameB (nmI i) = true := by decide
theorem nmI_inj : ∀ i, i < 16 → ∀ j, j < 16 → nmI i = nmI j → i = j := by decide
theorem nmT_name : nameM nmT = true := by decide
theorem nmI_name {i : Nat} (h : i < 16) : nameM (nmI i) = true := by
  unfold nameM
  rw [tilde_nmI]
  exact name_nmI i h
theorem okM_mono {nx nx' : Int} {pre : List Mk} {x : Mk} (h : nx ≤ nx') (hx : okM nx pre x = true) : okM nx' pre x = true := by
  unfold okM at hx ⊢
  simp only [Bool.and_eq_true, decide_eq_true_eq] at hx ⊢
  exact ⟨by omega, hx.2⟩
theorem okF_mono {nx nx' : Int} (h : nx ≤ nx') : ∀ {l pre : List Mk}, okF nx pre l = true → okF nx' pre l = true
  | [], _, _ => rfl
  | x :: xs, pre, hx => by
    rw [okF, Bool.and_eq_true] at hx ⊢
    exact ⟨okM_mono h hx.1, okF_mono h hx.2⟩
theorem okF_snoc (nx : Int) (x : Mk) : ∀ (l pre : List Mk), okF nx pre (l ++ [x]) = (okF nx pre l && okM nx (pre ++ l) x)
  | [], pre => by simp [okF]
  | y :: ys, pre => by
    rw [List.cons_append, okF, okF_snoc nx x ys, okF, List.append_assoc, Bool.and_assoc]
    rfl
theorem distF_snoc (x : Mk) : ∀ (l pre : List Mk), distF pre (l ++ [x]) = (distF pre l && !((pre ++ l).any fun y => decide (y.nm = x.nm)))
  | [], pre => by simp [distF]
  | y :: ys, pre => by
    rw [List.cons_append, distF, distF_snoc x ys, distF, List.append_assoc, Bool.and_assoc]
    rfl
/-- what holds of the marks that were made -/
structure MInv (k : Nat) (st : Mst) : Prop where
  len : st.ms.length = k
  nx : 1 ≤ st.nx ∧ st.nx ≤ 1 + 2 * (k : Int)
  last : lastI st.ms < st.nx
  ids : okF st.nx [] st.ms = true
  holds : holdsN st.ms = if st.hd = true then 1 else 0
  seen : (seenL st.ms).length = st.sn ∧ st.sn ≤ 8
  names : ∀ (j : Nat) (x : Mk), st.ms[j]? = some x → x.nm = nmT ∨ x.nm = nmI j
  dist : distF [] (seenL st.ms) = true
theorem minv_zero : MInv 0 st0 := ⟨rfl, ⟨by simp [st0], by simp [st0]⟩, by simp [st0, lastI], rfl, rfl, ⟨rfl, by simp [st0]⟩, by intro j x h; simp [st0] at h, rfl⟩
theorem seen_nm {k : Nat} {st : Mst} (h : MInv k st) {x : Mk} (hx : x ∈ seenL st.ms) : ∃ j, j < k ∧ x.nm = nmI j := by
  obtain ⟨h1, h2⟩ := List.mem_filter.1 hx
  obtain ⟨j, hj⟩ := List.getElem?_of_mem h1
  refine ⟨j, by rw [← h.len]; exact (List.getElem?_eq_some_iff.1 hj).1, ?_⟩
  rcases h.names j x hj with e | e
  · unfold seenM at h2
    rw [e, tilde_nmT] at h2
    simp at h2
  · exact e
theorem minv_next {k : Nat} {st : Mst} (h : MInv k st) (hk : k < 16) (v : Int) : MInv (k + 1) (stepM k v st) := by
  have hz := szI_bd v
  have ht := stI_bd v
  have hb := h.nx
  -- the new mark's numbers
  have key : ∀ (m : Mk), m.id = st.nx → m.sz = szI v → (m.nm = nmT ∧ m.gone = false ∨ m.nm = nmI k) → okF (st.nx + 1 + stI v) [] (st.ms ++ [m]) = true ∧ lastI (st.ms ++ [m]) < st.nx + 1 + stI v := by
    intro m h1 h2 h3
    rw [okF_snoc, okF_mono (by omega) h.ids, Bool.true_and, List.nil_append]
    refine ⟨?_, by unfold lastI; simp; omega⟩
    unfold okM namedM
    have hl := h.last
    have e1 : decide (lastI st.ms < m.id ∧ m.id < st.nx + 1 + stI v ∧ 0 ≤ m.sz ∧ m.sz ≤ 512) = true := by simp; omega
    rw [e1, Bool.true_and]
    rcases h3 with ⟨h3, h4⟩ | h3
    · rw [h3, h4, nmT_name]; simp
    · rw [h3, nmI_name hk, tilde_nmI]; simp
  have hnm : ∀ (m : Mk), (m.nm = nmT ∨ m.nm = nmI k) → ∀ (j : Nat) (x : Mk), (st.ms ++ [m])[j]? = some x → x.nm = nmT ∨ x.nm = nmI j := by
    intro m hm j x hx
    rw [List.getElem?_append] at hx
    split at hx
    · exact h.names j x hx
    · rename_i hj
      have hl := h.len
      have hj2 : j - st.ms.length = 0 := by
        have := (List.getElem?_eq_some_iff.1 hx).1
        simp at this
        omega
      rw [hj2] at hx
      simp at hx
      subst hx
      have : j = k := by omega
      rw [this]
      exact hm
  have hld : ∀ (m : Mk), holdsN (st.ms ++ [m]) = holdsN st.ms + (if tildeB m.nm = true then 1 else 0) := by
    intro m
    unfold holdsN
    rw [List.filter_append, List.length_append]
    congr 1
    simp only [List.filter_cons, List.filter_nil]
    split <;> rfl
  have hln : ∀ (m : Mk), (st.ms ++ [m]).length = k + 1 := by intro m; rw [List.length_append, h.len]; rfl
  have hsu : ∀ (m : Mk), seenM m = false → seenL (st.ms ++ [m]) = seenL st.ms := by
    intro m hm
    rw [seenL_app]
    unfold seenL
    simp [hm]
  have hss : ∀ (m : Mk), seenM m = true → seenL (st.ms ++ [m]) = seenL st.ms ++ [m] := by
    intro m hm
    rw [seenL_app]
    unfold seenL
    simp [hm]
  unfold stepM markS seenS
  by_cases c1 : (hlB v && !st.hd) = true
  · rw [if_pos c1, if_pos c1]
    have c1' := c1
    simp only [Bool.and_eq_true, Bool.not_eq_true'] at c1'
    obtain ⟨k1, k2⟩ := key ⟨st.nx, nmT, szI v, false⟩ rfl rfl (.inl ⟨rfl, rfl⟩)
    refine ⟨hln _, ⟨by simp only; omega, by simp only; omega⟩, k2, k1, ?_, ?_, hnm _ (.inl rfl), ?_⟩
    · show holdsN (st.ms ++ [_]) = _
      rw [hld, h.holds, tilde_nmT, c1'.1, c1'.2]
      simp
    · simp only
      rw [hsu _ (by unfold seenM; rw [tilde_nmT]; rfl)]
      exact h.seen
    · simp only
      rw [hsu _ (by unfold seenM; rw [tilde_nmT]; rfl)]
      exact h.dist
  · rw [if_neg c1, if_neg c1]
    have hhd : (st.hd || hlB v) = st.hd := by
      cases e1 : st.hd
      · cases e2 : hlB v
        · rfl
        · rw [e1, e2] at c1; simp at c1
      · rfl
    rw [hhd]
    by_cases c2 : (!gnB v && decide (st.sn = 8)) = true
    · rw [if_pos c2, if_pos c2]
      obtain ⟨k1, k2⟩ := key ⟨st.nx, nmI k, szI v, true⟩ rfl rfl (.inr rfl)
      refine ⟨hln _, ⟨by simp only; omega, by simp only; omega⟩, k2, k1, ?_, ?_, hnm _ (.inr rfl), ?_⟩
      · show holdsN (st.ms ++ [_]) = _
        rw [hld, h.holds, tilde_nmI]
        simp
      · simp only
        rw [hsu _ rfl]
        exact h.seen
      · simp only
        rw [hsu _ rfl]
        exact h.dist
    · rw [if_neg c2, if_neg c2]
      obtain ⟨k1, k2⟩ := key ⟨st.nx, nmI k, szI v, gnB v⟩ rfl rfl (.inr rfl)
      have hho : holdsN (st.ms ++ [⟨st.nx, nmI k, szI v, gnB v⟩]) = if st.hd = true then 1 else 0 := by
        rw [hld, h.holds, tilde_nmI]
        simp
      cases hg : gnB v with
      | true =>
        rw [hg] at k1 k2 hho
        refine ⟨hln _, ⟨by simp only; omega, by simp only; omega⟩, k2, k1, hho, ?_, hnm _ (.inr rfl), ?_⟩
        · simp only
          rw [hsu _ rfl]
          simpa using h.seen
        · simp only
          rw [hsu _ rfl]
          exact h.dist
      | false =>
        rw [hg] at k1 k2 hho c2
        have hsn : st.sn ≠ 8 := by intro e; rw [e] at c2; simp at c2
        have hse := h.seen
        have hsm : seenM ⟨st.nx, nmI k, szI v, false⟩ = true := by unfold seenM; rw [tilde_nmI]; rfl
        refine ⟨hln _, ⟨by simp only; omega, by simp only; omega⟩, k2, k1, hho, ?_, hnm _ (.inr rfl), ?_⟩
        · simp only
          rw [hss _ hsm]
          simp
          omega
        · simp only
          rw [hss _ hsm, distF_snoc, h.dist, Bool.true_and, List.nil_append, Bool.not_eq_true', List.any_eq_false]
          intro x hx
          obtain ⟨j, hj, e⟩ := seen_nm h hx
          simp only [decide_eq_true_eq]
          rw [e]
          intro e2
          have := nmI_inj j (by omega) k hk e2
          omega
theorem minv_all (l : List Int) : ∀ k, k ≤ l.length → k ≤ 16 → MInv k (mkF (l.take k) 0 st0)
  | 0, _, _ => by rw [List.take_zero]; exact minv_zero
  | k + 1, h1, h2 => by
    rw [mkF_next (List.getElem?_eq_getElem (by omega))]
    exact minv_next (minv_all l k (by omega) (by omega)) (by omega) _
/-- a record made of numbers -/
def makeN (l : List Int) : Nat := min l.length 16
def makeH (size order unit count : Int) (l : List Int) : Hd :=
  ⟨bits BinOp.and IntKind.i64 size 511, 3 + bits BinOp.and IntKind.i64 order 3, 2 + bits BinOp.and IntKind.i64 unit 7 % (3 + bits BinOp.and IntKind.i64 order 3 - 1), 1 + bits BinOp.and IntKind.i64 count 3, (mkF (l.take (makeN l)) 0 st0).nx, bits BinOp.and IntKind.i64 size 255, (mkF (l.take (makeN l)) 0 st0).ms⟩
theorem and7 (n : Int) : bits .and .i64 n 7 = n % 8 := i64_low n 7 3 (by omega) (by decide)
theorem make_inv (l : List Int) : MInv (makeN l) (mkF (l.take (makeN l)) 0 st0) := minv_all l _ (by unfold makeN; omega) (by unfold makeN; omega)
theorem make_right (size order unit count : Int) (l : List Int) : rightH (makeH size order unit count l) = true := by
  have h := make_inv l
  have hn : makeN l ≤ 16 := by unfold makeN; omega
  unfold rightH
  rw [Bool.and_eq_true, numsB_iff]
  unfold makeH
  simp only
  rw [and511, and3, and7, and3, and255]
  have hb := h.nx
  refine ⟨⟨by omega, ⟨by omega, by omega, ?_, ?_, by omega, by omega⟩, by omega, by omega, by omega, by omega⟩, ?_⟩
  · have := Int.emod_nonneg (unit % 8) (show (3 + order % 4 - 1) ≠ 0 by omega); omega
  · have := Int.emod_lt_of_pos (unit % 8) (show (0 : Int) < 3 + order % 4 - 1 by omega); omega
  · rw [marksB_ref, h.ids, h.dist, h.holds, h.seen.1, h.len]
    have h1 : decide (makeN l ≤ 17) = true := by simp; omega
    have h2 : decide ((mkF (l.take (makeN l)) 0 st0).sn ≤ 8) = true := by simpa using h.seen.2
    rw [h1, h2]
    split <;> rfl
end Go.Proofs.Ytoeknbogaclfdaa

namespace Go.Proofs.Ytoeknbogaclfdaa
open Go.RowKit
set_option linter.unusedVariables false
set_option linter.unusedSimpArgs false

def svI (l : List Int) (i : Nat) : Int := l.getD i 0
def bnd (v m : Int) : Int := bits BinOp.and IntKind.i64 v m
def kdI (v : Int) : Int := 1 + bnd v 255 % 9
def nmA : ByteArray := ⟨#[97]⟩
def entM (p : List UInt8) (t q : Int) (i : Nat) : En := ⟨t, q + 1 + (i : Int), (p.drop i).take 40⟩
def entsM (p : List UInt8) (t q : Int) (N : Nat) : List En := (List.range N).map (entM p t q)
def makeM (kind : Int) (n : List Int) (p : List UInt8) : Ms :=
  ⟨kdI kind, 1 + bnd (svI n 0) 1048575,
   if kdI kind = 1 ∨ kdI kind = 2 ∨ kdI kind = 4 then bnd (svI n 1) 65535 else 0,
   if kdI kind = 1 ∨ kdI kind = 2 then bnd (svI n 2) 65535 else 0,
   if kdI kind = 5 ∨ kdI kind = 6 then bnd (svI n 1) 15 else 0,
   if kdI kind = 5 ∨ kdI kind = 6 then bnd (svI n 2) 511 else if kdI kind = 9 then 1 + bnd (svI n 1) 255 % 13 else 0,
   if kdI kind = 2 ∨ kdI kind = 4 then (growL n).1 else [],
   if kdI kind = 2 then entsM p (1 + bnd (svI n 4) 63) (bnd (svI n 1) 65535) (min (bnd (svI n 3) 3).toNat p.length) else [],
   if kdI kind = 4 then [⟨1 + bnd (svI n 2) 7, nmA, bnd (svI n 3) 511, false⟩, ⟨9, nmT, 0, false⟩] else [],
   if kdI kind = 6 then p.take 64 else []⟩
theorem bnd20 (n : Int) : bnd n 1048575 = n % 1048576 := i64_low n 1048575 20 (by omega) (by decide)
theorem bnd16 (n : Int) : bnd n 65535 = n % 65536 := and65535 n
theorem bnd15 (n : Int) : bnd n 15 = n % 16 := and15 n
theorem bnd511 (n : Int) : bnd n 511 = n % 512 := and511 n
theorem bnd255 (n : Int) : bnd n 255 = n % 256 := and255 n
theorem bnd63 (n : Int) : bnd n 63 = n % 64 := and63 n
theorem bnd7 (n : Int) : bnd n 7 = n % 8 := and7 n
theorem bnd3 (n : Int) : bnd n 3 = n % 4 := and3 n
theorem kdI_bd (v : Int) : 1 ≤ kdI v ∧ kdI v ≤ 9 := by unfold kdI; rw [bnd255]; omega
theorem entsF_ok (p : List UInt8) (t q : Int) (ht : 1 ≤ t ∧ t ≤ 1073741824) (hq : 0 ≤ q ∧ q ≤ 65536) : ∀ (N i : Nat), i + N ≤ p.length → i + N ≤ 100 → entsF (q + (i : Int)) ((List.range' i N).map (entM p t q)) = true
  | 0, i, _, _ => rfl
  | N + 1, i, h1, h2 => by
    rw [List.range'_succ, List.map_cons, entsF]
    have e := entsF_ok p t q ht hq N (i + 1) (by omega) (by omega)
    rw [show q + (i : Int) + 1 = q + ((i + 1 : Nat) : Int) by push_cast; omega, e, Bool.and_true, Bool.and_eq_true]
    refine ⟨rightN_iff.2 ?_, ?_⟩
    · have : (entM p t q i).d.length = min 40 (p.length - i) := by simp [entM]
      rw [this]
      have e1 : (entM p t q i).t = t := rfl
      have e2 : (entM p t q i).s = q + 1 + (i : Int) := rfl
      rw [e1, e2]
      obtain ⟨z, hz⟩ : ∃ z, min 40 (p.length - i) = z := ⟨_, rfl⟩
      have hz1 : 1 ≤ z ∧ z ≤ 40 := by rw [← hz]; omega
      rw [hz]
      clear this e1 e2 hz e
      refine ⟨ht.1, ht.2, by omega, by omega, by omega, by omega⟩
    · show decide (q + 1 + (i : Int) = _) = true
      rw [decide_eq_true_eq]
      omega
theorem entsM_right (p : List UInt8) (t q : Int) (ht : 1 ≤ t ∧ t ≤ 1073741824) (hq : 0 ≤ q ∧ q ≤ 65536) (N : Nat) (hN : N ≤ p.length) (h4 : N ≤ 4) : entsB q (entsM p t q N) = true := by
  unfold entsB entsM
  have h := entsF_ok p t q ht hq N 0 (by omega) (by omega)
  rw [show q + ((0 : Nat) : Int) = q by omega] at h
  rw [List.range_eq_range', h, Bool.and_true, decide_eq_true_eq]
  simp
  exact h4
theorem nmA_name : nameM nmA = true := by decide
theorem bare_make (kind : Int) (n : List Int) (p : List UInt8) : bareM (makeM kind n p) = makeM kind n p := by
  unfold bareM makeM
  simp only [Ms.mk.injEq, true_and]
  refine ⟨?_, ?_, ?_, ?_, ?_, ?_, ?_, ?_⟩
  · split <;> simp_all
  · split <;> simp_all
  · split <;> simp_all
  · by_cases h : kdI kind = 5 ∨ kdI kind = 6
    · rw [if_pos h, if_pos (by omega)]
    · rw [if_neg h]
      by_cases h9 : kdI kind = 9
      · rw [if_pos (by omega)]
      · rw [if_neg h9, if_neg (by omega)]
  · split <;> simp_all
  · split <;> simp_all
  · split <;> simp_all
  · split <;> simp_all
theorem make_chain (n : List Int) (hn : n.length ≤ 40) : rightL (growL n).1 = true ∧ (growL n).1.length ≤ 20 := by
  have g := grown n
  have b := growL_bounds n
  exact ⟨rightL_iff.2 (g.right (by omega)), g.size⟩
theorem make_rightM (kind : Int) (n : List Int) (p : List UInt8) (hn : n.length ≤ 40) : rightM (makeM kind n p) = true := by
  have hk := kdI_bd kind
  obtain ⟨hc, _⟩ := make_chain n hn
  unfold rightM
  rw [Bool.and_eq_true, headM_iff]
  refine ⟨⟨hk, bare_make kind n p, ?_, ?_⟩, ?_⟩
  · unfold makeM
    simp only [bnd20, bnd16, bnd15, bnd511, bnd255]
    refine ⟨by omega, ?_, ?_, ?_, ?_⟩
    · split <;> omega
    · split <;> omega
    · split <;> omega
    · split
      · omega
      · split <;> omega
  · unfold makeM
    simp only
    split
    · rw [List.length_take]; omega
    · simp
  · unfold tailM
    by_cases h2 : kdI kind = 2
    · rw [if_pos (show (makeM kind n p).kind = 2 from h2)]
      have e1 : (makeM kind n p).chain = (growL n).1 := if_pos (.inl h2)
      have e2 : (makeM kind n p).pos = bnd (svI n 1) 65535 := if_pos (.inr (.inl h2))
      have e3 : (makeM kind n p).ents = entsM p (1 + bnd (svI n 4) 63) (bnd (svI n 1) 65535) (min (bnd (svI n 3) 3).toNat p.length) := if_pos h2
      rw [e1, e2, e3, hc, Bool.true_and]
      refine entsM_right _ _ _ ?_ ?_ _ ?_ ?_
      · rw [bnd63]; omega
      · rw [bnd16]; omega
      · omega
      · rw [bnd3]; omega
    · rw [if_neg (show ¬ (makeM kind n p).kind = 2 from h2)]
      by_cases h4 : kdI kind = 4
      · rw [if_pos (show (makeM kind n p).kind = 4 from h4)]
        have e1 : (makeM kind n p).chain = (growL n).1 := if_pos (.inr h4)
        have e2 : (makeM kind n p).marks = [⟨1 + bnd (svI n 2) 7, nmA, bnd (svI n 3) 511, false⟩, ⟨9, nmT, 0, false⟩] := if_pos h4
        rw [e1, e2, hc, Bool.true_and, marksT_iff]
        refine ⟨by simp, fun x hx => ?_⟩
        simp only [List.mem_cons, List.not_mem_nil, or_false] at hx
        unfold markT
        rw [Bool.and_eq_true, decide_eq_true_eq]
        rcases hx with rfl | rfl
        · refine ⟨?_, nmA_name⟩
          simp only [bnd7, bnd511]
          omega
        · exact ⟨by simp only; omega, nmT_name⟩
      · rw [if_neg (show ¬ (makeM kind n p).kind = 4 from h4)]
        by_cases h9 : kdI kind = 9
        · rw [if_pos (show (makeM kind n p).kind = 9 from h9)]
          have e1 : (makeM kind n p).num = 1 + bnd (svI n 1) 255 % 13 := by
            show (if kdI kind = 5 ∨ kdI kind = 6 then _ else if kdI kind = 9 then _ else _) = _
            rw [if_neg (by omega), if_pos h9]
          rw [e1, bnd255, decide_eq_true_eq]
          omega
        · rw [if_neg (show ¬ (makeM kind n p).kind = 9 from h9)]
/-! lengths -/
theorem varsL_lenM : ∀ l : List Int, l.length ≤ (varsL l).length ∧ (varsL l).length ≤ 9 * l.length
  | [] => by simp [varsL]
  | x :: xs => by
    have h1 := varsL_lenM xs
    have h2 := varl_length x.toNat
    have e : varsL (x :: xs) = varl x.toNat ++ varsL xs := by simp [varsL]
    rw [e, List.length_append, List.length_cons]
    omega
theorem mksBs_lenM : ∀ (l : List Mk), (∀ x ∈ l, fitM x) → (mksBs l).length ≤ 60 * l.length
  | [], _ => by simp [mksBs]
  | x :: xs, h => by
    have h1 := mksBs_lenM xs (fun y hy => h y (List.mem_cons_of_mem _ hy))
    have h2 := (mkBs_len x).2
    have h3 := (h x (by simp)).2.2
    have e : mksBs (x :: xs) = mkBs x ++ mksBs xs := by simp [mksBs]
    rw [e, List.length_append, List.length_cons]
    omega
theorem enBs_lenM : ∀ (l : List En), (∀ x ∈ l, rightN x.t x.s x.d.length = true) → (enBs l).length ≤ 112 * l.length
  | [], _ => by simp [enBs]
  | x :: xs, h => by
    have h1 := enBs_lenM xs (fun y hy => h y (List.mem_cons_of_mem _ hy))
    have h2 := layE_length x.t.toNat x.s.toNat x.d
    have h3 := rightN_iff.1 (h x (by simp))
    have e : enBs (x :: xs) = layE x.t.toNat x.s.toNat x.d ++ enBs xs := by simp [enBs]
    rw [e, List.length_append, List.length_cons]
    omega
theorem putM_app (m : Ms) : putM m = bodyM m ++ le 4 (crcOf (bodyM m)) := rfl
/-- how long a message's bytes are -/
theorem bodyM_len {m : Ms} (hr : rightM m = true) : 6 ≤ (bodyM m).length ∧ (bodyM m).length ≤ 2900 := by
  unfold rightM at hr
  rw [Bool.and_eq_true, headM_iff] at hr
  obtain ⟨⟨hk, hb, hn, hd⟩, ht⟩ := hr
  have h1 := varsL_lenM (msNs m)
  have h2 : (msNs m).length = 5 := rfl
  have h3 : (chainBs m).length ≤ 1200 := by
    unfold chainBs
    split
    · rename_i h24
      have hcr : rightL m.chain = true := by
        unfold tailM at ht
        rcases h24 with h | h
        · rw [if_pos h, Bool.and_eq_true] at ht; exact ht.1
        · rw [if_neg (by omega), if_pos h, Bool.and_eq_true] at ht; exact ht.1
      have q1 := putL_len m.chain
      have q2 := (rightL_iff.1 hcr).2.1
      have q3 := varl_length (putL m.chain).length
      rw [List.length_append]
      omega
    · simp
  have h4 : (restBs m).length ≤ 1100 := by
    unfold restBs
    unfold tailM at ht
    split
    · rename_i h
      rw [if_pos h, Bool.and_eq_true] at ht
      unfold entsB at ht
      simp only [Bool.and_eq_true, decide_eq_true_eq] at ht
      have q1 := enBs_lenM m.ents (entsF_mem ht.2.2)
      have q2 := varl_length m.ents.length
      rw [List.length_append]
      omega
    · rename_i h
      rw [if_neg h] at ht
      split
      · rename_i h4
        rw [if_pos h4, Bool.and_eq_true, marksT_iff] at ht
        have q1 := mksBs_lenM m.marks (fun x hx => markT_fit (ht.2.2 x hx))
        have q2 := varl_length m.marks.length
        rw [List.length_append]
        omega
      · split
        · omega
        · simp
  unfold bodyM
  rw [List.length_cons, List.length_append, List.length_append]
  omega
theorem putM_len {m : Ms} (hr : rightM m = true) : 10 ≤ (putM m).length ∧ (putM m).length ≤ 3000 := by
  have := bodyM_len hr
  rw [putM_app, List.length_append, le_length]
  omega
end Go.Proofs.Ytoeknbogaclfdaa
