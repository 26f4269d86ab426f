/-
  Messages: what may be, their bytes, what bytes are. Plain lists, no program in sight.
-/
/-
  Marks: rows of them; contracts of the small functions: held, seen, named, hidden, MarkName, Shape.
-/
/-
  Slices of integers: they read as a list.
-/
/-
  Rows of elements that lead nowhere (integers, tags): append onto a row of the call's own.
-/
/-
  Records: contracts of Newest, Seen, Find of the program, and of the reference's Seen.
-/
/-
  Marks alike: contracts of the reference's SameMarks and of slices.Equal of marks.
-/
/-
  Records: contracts of the program's Find and Same, of the reference's Seen and SameHead.
-/
import Derived.Test.YtoeknbogaclfdaaZFromTextToGet
import Derived.Test.YtoeknbogaclfdaaZFrameTake
import Derived.Test.YtoeknbogaclfdaaZCore
namespace Go.Proofs.Ytoeknbogaclfdaa
set_option linter.unusedVariables false
set_option linter.unusedSimpArgs false
structure Ms where
  kind : Int
  nonce : Int
  pos : Int
  en : Int
  stage : Int
  num : Int
  chain : List Tg
  ents : List En
  marks : List Mk
  data : List UInt8
  deriving DecidableEq
def bareM (m : Ms) : Ms :=
  ⟨m.kind, m.nonce, if m.kind = 1 ∨ m.kind = 2 ∨ m.kind = 4 then m.pos else 0, if m.kind = 1 ∨ m.kind = 2 then m.en else 0, if m.kind = 5 ∨ m.kind = 6 then m.stage else 0,
   if m.kind = 5 ∨ m.kind = 6 ∨ m.kind = 9 then m.num else 0, if m.kind = 2 ∨ m.kind = 4 then m.chain else [], if m.kind = 2 then m.ents else [], if m.kind = 4 then m.marks else [], if m.kind = 6 then m.data else []⟩
def entsF : Int → List En → Bool
  | _, [] => true
  | p, x :: xs => (rightN x.t x.s x.d.length && decide (x.s = p + 1)) && entsF (p + 1) xs
def entsB (p : Int) (l : List En) : Bool := decide (l.length ≤ 4) && entsF p l
def markT (x : Mk) : Bool := decide (1 ≤ x.id ∧ x.id ≤ 1073741824 ∧ 0 ≤ x.sz ∧ x.sz ≤ 512) && nameM x.nm
def marksT (l : List Mk) : Bool := decide (1 ≤ l.length ∧ l.length ≤ 17) && l.all markT
def numsM (m : Ms) : Bool := decide ((1 ≤ m.nonce ∧ m.nonce ≤ 1099511627776) ∧ (0 ≤ m.pos ∧ m.pos ≤ 1099511627776) ∧ (0 ≤ m.en ∧ m.en ≤ 1099511627776) ∧ (0 ≤ m.stage ∧ m.stage ≤ 16) ∧ (0 ≤ m.num ∧ m.num ≤ 512))
def tailM (m : Ms) : Bool := if m.kind = 2 then rightL m.chain && entsB m.pos m.ents else if m.kind = 4 then rightL m.chain && marksT m.marks else if m.kind = 9 then decide (1 ≤ m.num ∧ m.num ≤ 13) else true
def headM (m : Ms) : Bool := decide (1 ≤ m.kind ∧ m.kind ≤ 9) && (decide (bareM m = m) && (numsM m && decide (m.data.length ≤ 64)))
def rightM (m : Ms) : Bool := headM m && tailM m
def enBs (l : List En) : List UInt8 := (l.map fun x => layE x.t.toNat x.s.toNat x.d).flatten
def msNs (m : Ms) : List Int := [m.nonce, m.pos, m.en, m.stage, m.num]
def chainBs (m : Ms) : List UInt8 := if m.kind = 2 ∨ m.kind = 4 then varl (putL m.chain).length ++ putL m.chain else []
def restBs (m : Ms) : List UInt8 := if m.kind = 2 then varl m.ents.length ++ enBs m.ents else if m.kind = 4 then varl m.marks.length ++ mksBs m.marks else if m.kind = 6 then m.data else []
def bodyM (m : Ms) : List UInt8 := UInt8.ofNat m.kind.toNat :: (varsL (msNs m) ++ (chainBs m ++ restBs m))
def putM (m : Ms) : List UInt8 := put (bodyM m) (crcOf (bodyM m)) 4
def entsG : Nat → List UInt8 → Int → Option (List En)
  | 0, _, _ => some []
  | f + 1, b, a => if (tkA b a).2.2.2.2 = 0 then (entsG f b (tkA b a).2.2.2.1).map fun l => ⟨(tkA b a).1, (tkA b a).2.1, (tkA b a).2.2.1⟩ :: l else none
def entsO (b : List UInt8) (a : Int) : Option (List En) := if gvC b a = true ∧ gvA b a ≤ 4 then entsG (gvA b a).toNat b (gvB b a) else none
def tagsO (b : List UInt8) (a : Int) : Option (List Tg × Int) := (gtO b a b.length).bind fun q => (getL q.1).map fun l => (l, q.2)
def chainO (k : Int) (b : List UInt8) (a : Int) : Option (List Tg × Int) := if k = 2 ∨ k = 4 then tagsO b a else some ([], a)
def restO (rf : Bool) (k : Int) (b : List UInt8) (a : Int) : Option (List En × List Mk × List UInt8) :=
  if k = 2 then (entsO b a).map fun l => (l, [], []) else if k = 4 then (mksO rf b a).map fun q => ([], q.1, []) else if k = 6 then some ([], [], b.drop a.toNat) else some ([], [], [])
def msOf (k : Int) (l : List Int) (c : List Tg) (r : List En × List Mk × List UInt8) : Ms := ⟨k, l.getD 0 0, l.getD 1 0, l.getD 2 0, l.getD 3 0, l.getD 4 0, c, r.1, r.2.1, r.2.2⟩
def kindOf (b : List UInt8) : Int := ((b.getD 0 0).toNat : Int)
def parseM (rf : Bool) (b : List UInt8) : Option Ms := if b.length < 1 then none else (numsF 5 b 1).bind fun p => (chainO (kindOf b) b p.2).bind fun q => (restO rf (kindOf b) b q.2).map fun r => msOf (kindOf b) p.1 q.1 r
def getM (rf : Bool) (b : List UInt8) : Option Ms := (crcOpen b).bind fun c => (parseM rf c).bind fun m => if rightM m = true ∧ putM m = b then some m else none
theorem headM_iff {m : Ms} : headM m = true ↔ (1 ≤ m.kind ∧ m.kind ≤ 9) ∧ bareM m = m ∧ ((1 ≤ m.nonce ∧ m.nonce ≤ 1099511627776) ∧ (0 ≤ m.pos ∧ m.pos ≤ 1099511627776) ∧ (0 ≤ m.en ∧ m.en ≤ 1099511627776) ∧ (0 ≤ m.stage ∧ m.stage ≤ 16) ∧ (0 ≤ m.num ∧ m.num ≤ 512)) ∧ m.data.length ≤ 64 := by
  unfold headM numsM
  simp only [Bool.and_eq_true, decide_eq_true_eq]
theorem entsF_mem : ∀ {l : List En} {p : Int}, entsF p l = true → ∀ x ∈ l, rightN x.t x.s x.d.length = true
  | [], _, _, x, hx => by simp at hx
  | y :: ys, p, h, x, hx => by
    rw [entsF, Bool.and_eq_true, Bool.and_eq_true] at h
    rcases List.mem_cons.1 hx with rfl | hx
    · exact h.1.1
    · exact entsF_mem h.2 x hx
theorem enBs_next {xs : List En} {k : Nat} {x : En} (hx : xs[k]? = some x) : enBs (xs.take (k + 1)) = enBs (xs.take k) ++ layE x.t.toNat x.s.toNat x.d := by
  unfold enBs
  rw [List.take_add_one, hx]
  simp
theorem tkA_lay {x : En} {b pre r : List UInt8} {a : Int} (hx : rightN x.t x.s x.d.length = true) (hb : b = pre ++ layE x.t.toNat x.s.toNat x.d ++ r) (ha : a = (pre.length : Int)) : tkA b a = (x.t.toNat, x.s.toNat, x.d, a + ((layE x.t.toNat x.s.toNat x.d).length : Int), 0) := by
  have h := rightN_iff.1 hx
  have h' : rightN x.t.toNat x.s.toNat x.d.length = true := rightN_iff.2 (by omega)
  obtain ⟨t1, t2, t3, t4, t5⟩ := take_lay x.t.toNat x.s.toNat x.d r h'
  have hd : b.drop a.toNat = layE x.t.toNat x.s.toNat x.d ++ r := by
    rw [hb, ha, Int.toNat_natCast, List.append_assoc, List.drop_left]
  have hl : b.length = pre.length + (layE x.t.toNat x.s.toNat x.d).length + r.length := by rw [hb]; simp only [List.length_append]
  have hll := layE_length x.t.toNat x.s.toNat x.d
  unfold tkA
  rw [if_neg (by omega), hd, if_pos t1, t2, t3, t4, t5, hll]
  simp only [Prod.mk.injEq, true_and, and_true]
  omega
theorem ents_there : ∀ (l : List En) (b pre r : List UInt8) (a : Int), (∀ x ∈ l, rightN x.t x.s x.d.length = true) → b = pre ++ enBs l ++ r → a = (pre.length : Int) → entsG l.length b a = some l
  | [], b, pre, r, a, _, hb, ha => rfl
  | x :: xs, b, pre, r, a, hf, hb, ha => by
    have h1 := tkA_lay (b := b) (pre := pre) (r := enBs xs ++ r) (a := a) (hf x (by simp)) (by rw [hb]; unfold enBs; simp) ha
    have h2 := ents_there xs b (pre ++ layE x.t.toNat x.s.toNat x.d) r (a + ((layE x.t.toNat x.s.toNat x.d).length : Int)) (fun y hy => hf y (by simp [hy])) (by rw [hb]; unfold enBs; simp) (by rw [ha, List.length_append]; omega)
    have h3 := rightN_iff.1 (hf x (by simp))
    rw [List.length_cons, entsG, h1, if_pos rfl]
    simp only
    rw [h2, Option.map_some]
    have e1 : ((x.t.toNat : Nat) : Int) = x.t := by omega
    have e2 : ((x.s.toNat : Nat) : Int) = x.s := by omega
    rw [e1, e2]
theorem ents_thereO {l : List En} {b pre r : List UInt8} {a : Int} (hf : ∀ x ∈ l, rightN x.t x.s x.d.length = true) (hl : l.length ≤ 4) (hb : b = pre ++ (varl l.length ++ enBs l) ++ r) (ha : a = (pre.length : Int)) : entsO b a = some l := by
  have hg := gv_there' (b := b) (a := pre) (r := enBs l ++ r) (k := l.length) (i := a) (by rw [hb]; simp) ha (by omega)
  obtain ⟨e1, e2, e3⟩ := gv_vals hg
  unfold entsO
  rw [if_pos ⟨e3, by omega⟩, e1, e2, Int.toNat_natCast]
  exact ents_there l b (pre ++ varl l.length) r _ hf (by rw [hb]; simp) (by rw [List.length_append]; omega)
theorem mks_thereO {rf : Bool} {l : List Mk} {b pre r : List UInt8} {a : Int} (hf : ∀ x ∈ l, fitM x) (hl : l.length ≤ 17) (hb : b = pre ++ (varl l.length ++ mksBs l) ++ r) (ha : a = (pre.length : Int)) : ∃ d, mksO rf b a = some (l, d) := by
  have hg := gv_there' (b := b) (a := pre) (r := mksBs l ++ r) (k := l.length) (i := a) (by rw [hb]; simp) ha (by omega)
  obtain ⟨e1, e2, e3⟩ := gv_vals hg
  have h3 := mks_there (rf := rf) l b (pre ++ varl l.length) r (a + ((varl l.length).length : Int)) hf (by rw [hb]; simp) (by rw [List.length_append]; omega)
  unfold mksO
  rw [if_pos ⟨e3, by omega⟩, e1, e2, Int.toNat_natCast]
  exact ⟨_, h3⟩
theorem tags_thereO {l : List Tg} {b pre r : List UInt8} {a : Int} (hl : rightL l = true) (hb : b = pre ++ (varl (putL l).length ++ putL l) ++ r) (ha : a = (pre.length : Int)) : tagsO b a = some (l, a + (((varl (putL l).length).length + (putL l).length : Nat) : Int)) := by
  have hR := rightL_iff.1 hl
  have hp := putL_len l
  have h32 := hR.2.1
  have hs : (putL l).length = (⟨(putL l).toArray⟩ : ByteArray).size := by simp [ByteArray.size]
  have hg := gt_there (b := b) (pre := pre) (r := r) (s := ⟨(putL l).toArray⟩) (i := a) (most := b.length) (by rw [hb, ← hs]) ha (by rw [← hs, hb]; simp only [List.length_append]; omega) (by rw [← hs]; omega)
  rw [← hs] at hg
  unfold tagsO
  rw [hg, Option.bind_some]
  simp only
  rw [get_put hR, Option.map_some]
theorem markT_fit {x : Mk} (h : markT x = true) : fitM x := by
  unfold markT at h
  simp only [Bool.and_eq_true, decide_eq_true_eq] at h
  have := nameM_size h.2
  unfold fitM
  omega
theorem marksT_iff {l : List Mk} : marksT l = true ↔ (1 ≤ l.length ∧ l.length ≤ 17) ∧ ∀ x ∈ l, markT x = true := by
  unfold marksT
  simp
theorem bare_fields {m : Ms} (h : bareM m = m) : (¬ (m.kind = 2 ∨ m.kind = 4) → m.chain = []) ∧ (m.kind ≠ 2 → m.ents = []) ∧ (m.kind ≠ 4 → m.marks = []) ∧ (m.kind ≠ 6 → m.data = []) := by
  unfold bareM at h
  obtain ⟨k, n, p, e, s, q, c, en, mk, d⟩ := m
  simp only [Ms.mk.injEq, true_and] at h ⊢
  obtain ⟨_, _, _, _, h1, h2, h3, h4⟩ := h
  refine ⟨fun hk => ?_, fun hk => ?_, fun hk => ?_, fun hk => ?_⟩
  · rw [if_neg hk] at h1; exact h1.symm
  · rw [if_neg hk] at h2; exact h2.symm
  · rw [if_neg hk] at h3; exact h3.symm
  · rw [if_neg hk] at h4; exact h4.symm
theorem parse_putM {rf : Bool} {m : Ms} (hr : rightM m = true) : parseM rf (bodyM m) = some m := by
  unfold rightM at hr
  rw [Bool.and_eq_true, headM_iff] at hr
  obtain ⟨⟨hk, hbare, hn, hd⟩, ht⟩ := hr
  obtain ⟨f1, f2, f3, f4⟩ := bare_fields hbare
  have hko : kindOf (bodyM m) = m.kind := by
    unfold kindOf bodyM
    simp
    omega
  have hlen : ¬ (bodyM m).length < 1 := by unfold bodyM; simp
  have h1 := nums_there (msNs m) (bodyM m) [UInt8.ofNat m.kind.toNat] (chainBs m ++ restBs m) 1 (fun k hk => by
    simp only [msNs, List.mem_cons, List.not_mem_nil, or_false] at hk
    rcases hk with rfl | rfl | rfl | rfl | rfl <;> omega) (by unfold bodyM; simp) rfl
  unfold parseM
  rw [if_neg hlen, show numsF 5 (bodyM m) 1 = _ from h1, Option.bind_some, hko]
  simp only
  obtain ⟨a2, pre2, hc, hb2, ha2⟩ : ∃ (a2 : Int) (pre : List UInt8), chainO m.kind (bodyM m) (1 + ((varsL (msNs m)).length : Int)) = some (m.chain, a2) ∧ bodyM m = pre ++ restBs m ∧ a2 = (pre.length : Int) := by
    unfold chainO
    by_cases h24 : m.kind = 2 ∨ m.kind = 4
    · rw [if_pos h24]
      have hcr : rightL m.chain = true := by
        unfold tailM at ht
        rcases h24 with h | h
        · rw [if_pos h, Bool.and_eq_true] at ht; exact ht.1
        · rw [if_neg (by omega), if_pos h, Bool.and_eq_true] at ht; exact ht.1
      have e : chainBs m = varl (putL m.chain).length ++ putL m.chain := by unfold chainBs; rw [if_pos h24]
      refine ⟨_, UInt8.ofNat m.kind.toNat :: (varsL (msNs m) ++ chainBs m), tags_thereO (pre := UInt8.ofNat m.kind.toNat :: varsL (msNs m)) (r := restBs m) hcr (by unfold bodyM; rw [e]; simp) (by simp; omega), by unfold bodyM; simp, ?_⟩
      rw [e]
      simp
      omega
    · rw [if_neg h24]
      refine ⟨_, UInt8.ofNat m.kind.toNat :: varsL (msNs m), by rw [f1 h24], by unfold bodyM chainBs; rw [if_neg h24]; simp, by simp; omega⟩
  rw [hc, Option.bind_some]
  simp only
  have hrest : restO rf m.kind (bodyM m) a2 = some (m.ents, m.marks, m.data) := by
    unfold restO
    unfold tailM at ht
    by_cases h2 : m.kind = 2
    · rw [if_pos h2]
      rw [if_pos h2, Bool.and_eq_true] at ht
      unfold entsB at ht
      simp only [Bool.and_eq_true, decide_eq_true_eq] at ht
      have e : restBs m = varl m.ents.length ++ enBs m.ents := by unfold restBs; rw [if_pos h2]
      rw [ents_thereO (l := m.ents) (pre := pre2) (r := []) (entsF_mem ht.2.2) ht.2.1 (by rw [hb2, e]; simp) ha2, Option.map_some, f3 (by omega), f4 (by omega)]
    · rw [if_neg h2]
      rw [if_neg h2] at ht
      by_cases h4 : m.kind = 4
      · rw [if_pos h4]
        rw [if_pos h4, Bool.and_eq_true, marksT_iff] at ht
        have e : restBs m = varl m.marks.length ++ mksBs m.marks := by unfold restBs; rw [if_neg h2, if_pos h4]
        obtain ⟨d, hd2⟩ := mks_thereO (rf := rf) (l := m.marks) (b := bodyM m) (pre := pre2) (r := []) (a := a2) (fun x hx => markT_fit (ht.2.2 x hx)) ht.2.1.2 (by rw [hb2, e]; simp) ha2
        rw [hd2, Option.map_some, f2 h2, f4 (by omega)]
      · rw [if_neg h4]
        by_cases h6 : m.kind = 6
        · have e : restBs m = m.data := by unfold restBs; rw [if_neg h2, if_neg h4, if_pos h6]
          rw [if_pos h6, f2 h2, f3 h4, hb2, ha2, Int.toNat_natCast, List.drop_left, e]
        · rw [if_neg h6, f2 h2, f3 h4, f4 h6]
  rw [hrest, Option.map_some]
  rfl
theorem getM_iff {rf : Bool} {b : List UInt8} {m : Ms} : getM rf b = some m ↔ rightM m = true ∧ putM m = b := by
  constructor
  · intro hg
    unfold getM at hg
    obtain ⟨c, hc, hg⟩ := Option.bind_eq_some_iff.1 hg
    obtain ⟨h', hp, hg⟩ := Option.bind_eq_some_iff.1 hg
    split at hg
    · rename_i hq
      injection hg with hg
      subst hg
      exact hq
    · cases hg
  · rintro ⟨hr, rfl⟩
    unfold getM
    rw [show crcOpen (putM m) = some (bodyM m) from crcOpen_put _, Option.bind_some, parse_putM hr, Option.bind_some, if_pos ⟨hr, rfl⟩]
theorem getM_ref (b : List UInt8) : getM true b = getM false b := by
  cases e : getM true b with
  | some h => exact ((getM_iff (rf := false)).2 (getM_iff.1 e)).symm
  | none =>
    cases e2 : getM false b with
    | none => rfl
    | some h =>
      rw [(getM_iff (rf := true)).2 (getM_iff.1 e2)] at e
      cases e
end Go.Proofs.Ytoeknbogaclfdaa

namespace Go.Proofs.Ytoeknbogaclfdaa
open Go.RowKit
set_option linter.unusedVariables false
set_option linter.unusedSimpArgs false
set_option linter.unnecessarySimpa false
set_option maxRecDepth 100000
theorem bytes_inj {a b : ByteArray} (h : a.toList = b.toList) : a = b := by
  rw [ByteArray.toList_eq, ByteArray.toList_eq] at h
  exact ByteArray.ext (Array.toList_inj.mp h)
def mkR (x : Mk) (cs : List Value) (w : World) : Prop := cs = [.int .i64 x.id, .string x.nm, .int .i64 x.sz, .bool x.gone]
theorem mk_rep : Rep 4 mkR where
  len := by rintro x cs w rfl; rfl
  one := by
    rintro x cs w rfl u hu
    simp at hu
    rcases hu with rfl | rfl | rfl | rfl <;> rfl
  keep := by
    rintro x cs w w' rfl hk
    rfl
  lt := by
    rintro x cs w rfl k ⟨ad, m, c', hm, _⟩
    simp at hm
theorem mk_nop {x : Mk} {cs : List Value} {w : World} (h : mkR x cs w) : ∀ k, ¬ Pts cs k := by
  rintro k ⟨ad, m, c', hm, _⟩
  rw [h] at hm
  simp at hm
abbrev TMk : TypeId := 48
theorem info_mk : (Try.prog.info? TMk).map (fun i => (i.zero, i.size, i.bytes)) = some (some (.agg #[.int .i64 0, .string ⟨#[]⟩, .int .i64 0, .bool false]), 4, 40) := by kernel_rfl
theorem under_mks : Try.prog.underlying 27 = some (.slice TMk) := by kernel_rfl
theorem tilde_nil {s : ByteArray} (h : ¬ 0 < s.size) : tildeB s = false := by
  unfold tildeB
  have : s.data.toList = [] := List.eq_nil_of_length_eq_zero (by rw [size_list]; omega)
  rw [this]
theorem tilde_at {s : ByteArray} (h : 0 < s.size) : tildeB s = decide ((s[0]).toNat = 126) := by
  unfold tildeB
  obtain ⟨⟨l⟩⟩ := s
  cases l with
  | nil => simp [ByteArray.size] at h
  | cons b l => rfl
theorem ref_hidden (s : ByteArray) (w : World) (hs : s.size ≤ 1000000) {t : Bool} (ht : Hid (tildeB s = t)) :
    Calls Try.prog 59 #[.string s] w fun e w' => e = .returned (.bool t) ∧ w = w' := by
  by_cases h0 : 0 < s.size
  · have h1 := tilde_at h0
    rw [ht.out] at h1
    cases t with
    | false =>
      have hb : (((s[0]).toNat : Int) == 126) = false := by
        have := h1.symm
        simp only [decide_eq_false_iff_not] at this
        simp
        omega
      clear h1 ht
      go_enter Try.func59, Try.ntmps59
      go_wp2_with fail
      go_ret
      exact ⟨rfl, rfl⟩
    | true =>
      have hb : (((s[0]).toNat : Int) == 126) = true := by
        have := h1.symm
        simp only [decide_eq_true_eq] at this
        simp
        omega
      clear h1 ht
      go_enter Try.func59, Try.ntmps59
      go_wp2_with fail
      go_ret
      exact ⟨rfl, rfl⟩
  · obtain rfl : false = t := by rw [← ht.out, tilde_nil h0]
    clear ht
    go_enter Try.func59, Try.ntmps59
    go_wp2_with fail
    go_ret
    exact ⟨rfl, rfl⟩
theorem tail_size {s : ByteArray} (hs : s.size ≤ 1000000) : (tailS s).size ≤ maxLen := by
  unfold tailS
  rw [ByteArray.size_extract]
  unfold maxLen
  omega
theorem ref_MarkName (s : ByteArray) (w : World) (hs : s.size ≤ 1000000) {t : Bool} (ht : Hid (nameM s = t)) :
    Calls Try.prog 58 #[.string s] w fun e w' => e = .returned (.bool t) ∧ w = w' := by
  obtain ⟨q, hq⟩ : ∃ q, tildeB s = q := ⟨_, rfl⟩
  have HQ := Lib.hid hq
  have h1 := ht.out
  unfold nameM at h1
  rw [hq] at h1
  have hm : s.size ≤ maxLen := by unfold maxLen; omega
  cases q with
  | false =>
    have hcl := fun w => ref_Name s w hm
    obtain ⟨b, hb⟩ : ∃ b, nameB s = b := ⟨_, rfl⟩
    rw [hb] at hcl h1
    obtain rfl : b = t := by rw [← h1]; simp
    clear h1 ht hq hb
    go_enter Try.func58, Try.ntmps58
    go_wp2_with fail
    refine (ref_hidden s _ hs HQ).mono ?_
    rintro e _ ⟨rfl, rfl⟩
    go_wp2_with fail
    refine (hcl _).mono ?_
    rintro e _ ⟨rfl, rfl⟩
    go_wp2_with fail
    go_ret
    exact ⟨rfl, rfl⟩
  | true =>
    have h0 : 0 < s.size := by
      by_cases h : 0 < s.size
      · exact h
      · rw [tilde_nil h] at hq; cases hq
    have hcl := fun w => ref_Name (tailS s) w (tail_size hs)
    unfold tailS at hcl h1
    obtain ⟨b, hb⟩ : ∃ b, nameB (s.extract 1 s.size) = b := ⟨_, rfl⟩
    rw [hb] at hcl h1
    obtain rfl : b = t := by rw [← h1]; simp
    clear h1 ht hq hb
    go_enter Try.func58, Try.ntmps58
    go_wp2_with fail
    refine (ref_hidden s _ hs HQ).mono ?_
    rintro e _ ⟨rfl, rfl⟩
    go_wp2_with fail
    refine (hcl _).mono ?_
    rintro e _ ⟨rfl, rfl⟩
    go_wp2_with fail
    go_ret
    exact ⟨rfl, rfl⟩
end Go.Proofs.Ytoeknbogaclfdaa

namespace Go.Proofs.Ytoeknbogaclfdaa
open Go.RowKit
set_option linter.unusedVariables false
set_option linter.unusedSimpArgs false
set_option linter.unnecessarySimpa false
set_option maxRecDepth 100000
abbrev INT : TypeId := 3
theorem info_int : (Try.prog.info? INT).map (fun i => (i.zero, i.size, i.bytes)) = some (some (.int .i64 0), 1, 8) := by kernel_rfl
theorem under_ints : Try.prog.underlying 22 = some (.slice INT) := by kernel_rfl
def intR (x : Int) (cs : List Value) (w : World) : Prop := cs = [.int .i64 x]
theorem int_rep : Rep 1 intR where
  len := by rintro x cs w rfl; rfl
  one := by
    rintro x cs w rfl u hu
    simp at hu
    subst hu
    rfl
  keep := by
    rintro x cs w w' rfl hk
    rfl
  lt := by
    rintro x cs w rfl k ⟨ad, m, c', hm, _⟩
    simp at hm
theorem Lst.atI {w : World} {A : Option Addr} {n c i : Nat} {xs : List Int} (h : Lst 1 intR w A n c xs) (hi : i < n) :
    ∃ (g o : Nat) (x : Int), A = some ⟨g, o, none⟩ ∧ xs[i]? = some x ∧ w.cell? ⟨g, o + i, none⟩ = some (.int .i64 x) := by
  obtain ⟨g, o, x, cs, e, hx, rfl, hc⟩ := h.at2 int_rep (by omega) hi
  refine ⟨g, o, x, e, hx, ?_⟩
  have := hc 0 _ rfl
  simpa using this
end Go.Proofs.Ytoeknbogaclfdaa

namespace Go.Proofs.Ytoeknbogaclfdaa
open Go.RowKit
set_option linter.unusedVariables false
set_option linter.unusedSimpArgs false
set_option linter.unnecessarySimpa false
set_option maxRecDepth 100000
theorem int_no_pts {x : Int} {cs : List Value} {w : World} (h : intR x cs w) : ∀ k, ¬ Pts cs k := by
  rintro k ⟨ad, m, c', hm, _⟩
  rw [h] at hm
  simp at hm
theorem All2.mem {α : Type} {R : α → List Value → World → Prop} {w : World} : ∀ {xs : List α} {css : List (List Value)}, All2 R w xs css → ∀ cs ∈ css, ∃ x, R x cs w
  | _, _, .nil, cs, h => by simp at h
  | _, _, @All2.cons _ _ _ y ds ys dss h t, cs, hm => by
    rcases List.mem_cons.1 hm with rfl | hm
    · exact ⟨_, h⟩
    · exact t.mem cs hm
theorem wpList_append_flat2 {P : Program} {α : Type} {size : Nat} {R : α → List Value → World → Prop} (hR : Rep size R) (hnp : ∀ (x : α) (cs : List Value) (w : World), R x cs w → ∀ k, ¬ Pts cs k)
    {ops : Array Oper} {rest : List Oper} {o : Oper} {a : Act} {Q : Exit → Act → World → Prop} {w w0 : World} (hgd : o.guard = none) (s y : Operand) (t tx : TypeId)
    (ho : o.op = .call { callee := .builtin .append, args := #[s, y], argTypes := #[t, tx] })
    (e e' : TypeId) (i : TypeInfo) (z : Value) (bytes : Nat) (ht : P.underlying t = some (.slice e)) (htx : P.underlying tx = some (.slice e')) (hi : P.info? e = some i) (hz : i.zero = some z)
    (hsize : i.size = size) (hby : i.bytes = bytes) (hzs : z.cells.size = size)
    (A : Option Addr) (n c : Nat) (xs : List α) (hsv : a.eval s = .slice A n c) (hown : OwnL e size R w w0.heap.size A n c xs) (A2 : Option Addr) (m c2 : Nat) (ys : List α) (hy : a.eval y = .slice A2 m c2) (hl : Lst size R w A2 m c2 ys)
    (N : Nat) (hN : n + m = N) (zs : List α) (hzs' : xs ++ ys = zs) (h63 : N ≤ maxLen) (hbytes : N * bytes ≤ 140737488355328) (hx : Ext w0 w)
    (h : ∀ A' c' w', OwnL e size R w' w0.heap.size A' N c' zs → Ext w0 w' → w.grownBy w' (rowOf A c) → wpList P ops Q rest (a.put o.dst (.slice A' N c')) w') : wpList P ops Q (o :: rest) a w := by
  subst hN hzs'
  obtain ⟨css, ha, ho1, hp⟩ := hown.own
  obtain ⟨dss, hb, hsrc⟩ := hl.src (P := P) hR htx
  refine wpList_append_mine _ hgd s y t tx ho w0.heap.size e i z size bytes ht hi hz hsize hby hzs A n c _ hsv ho1 _ hy m _ hsrc h63 hbytes hx.size ?_
  intro A3 c3 w3 hown3 hg3 hr3
  refine h A3 c3 w3 ?_ (below_grown hx ho1 hg3 hx.size) hg3
  refine OwnL.more hR hown.len hl.len ha hp hb (fun cs hcs k hk => ?_) hown3 hg3 hr3
  obtain ⟨x, hr⟩ := hb.mem cs hcs
  exact absurd hk (hnp _ _ _ hr k)
theorem wpList_append_flat {P : Program} {α : Type} {size : Nat} {R : α → List Value → World → Prop} (hR : Rep size R) (hnp : ∀ (x : α) (cs : List Value) (w : World), R x cs w → ∀ k, ¬ Pts cs k)
    {ops : Array Oper} {rest : List Oper} {o : Oper} {a : Act} {Q : Exit → Act → World → Prop} {w w0 : World} (hgd : o.guard = none) (s y : Operand) (t tx : TypeId)
    (ho : o.op = .call { callee := .builtin .append, args := #[s, y], argTypes := #[t, tx] })
    (e e' : TypeId) (i : TypeInfo) (z : Value) (bytes : Nat) (ht : P.underlying t = some (.slice e)) (htx : P.underlying tx = some (.slice e')) (hi : P.info? e = some i) (hz : i.zero = some z)
    (hsize : i.size = size) (hby : i.bytes = bytes) (hzs : z.cells.size = size)
    (A : Option Addr) (n c : Nat) (xs : List α) (hsv : a.eval s = .slice A n c) (hown : OwnL e size R w w0.heap.size A n c xs) (A2 : Option Addr) (m c2 : Nat) (ys : List α) (hy : a.eval y = .slice A2 m c2) (hl : Lst size R w A2 m c2 ys)
    (N : Nat) (hN : n + m = N) (zs : List α) (hzs' : xs ++ ys = zs) (h63 : N ≤ maxLen) (hbytes : N * bytes ≤ 140737488355328) (hx : Ext w0 w)
    (h : ∀ A' c' w', OwnL e size R w' w0.heap.size A' N c' zs → Ext w0 w' → wpList P ops Q rest (a.put o.dst (.slice A' N c')) w') : wpList P ops Q (o :: rest) a w :=
  wpList_append_flat2 hR hnp hgd s y t tx ho e e' i z bytes ht htx hi hz hsize hby hzs A n c xs hsv hown A2 m c2 ys hy hl N hN zs hzs' h63 hbytes hx fun A' c' w' h1 h2 _ => h A' c' w' h1 h2
end Go.Proofs.Ytoeknbogaclfdaa

namespace Go.Proofs.Ytoeknbogaclfdaa
open Go.RowKit
set_option linter.unusedVariables false
set_option linter.unusedSimpArgs false
set_option linter.unnecessarySimpa false
set_option maxRecDepth 100000
theorem mk_lit (w : World) (x : Mk) : OwnL TMk 4 mkR (w.alloc (.cells #[.int .i64 x.id, .string x.nm, .int .i64 x.sz, .bool x.gone] TMk)) w.heap.size (some ⟨w.heap.size, 0, none⟩) 1 1 [x] :=
  ⟨rfl, [[.int .i64 x.id, .string x.nm, .int .i64 x.sz, .bool x.gone]], .cons rfl .nil, Own.made w w.heap.size TMk 4 #[.int .i64 x.id, .string x.nm, .int .i64 x.sz, .bool x.gone] 1 1 (Nat.le_refl _) (Nat.le_refl _) (by simp [maxLen]) rfl, fun cs hcs k hk => by simp at hcs; subst hcs; exact absurd hk (mk_nop (x := x) (w := w) rfl k)⟩
def Shorts (l : List Mk) : Prop := ∀ x ∈ l, x.nm.size ≤ 1000
theorem Shorts.at_ {l : List Mk} (h : Shorts l) {k : Nat} {x : Mk} (hx : l[k]? = some x) : x.nm.size ≤ 1000 := h x (List.mem_of_getElem? hx)
end Go.Proofs.Ytoeknbogaclfdaa

namespace Go.Proofs.Ytoeknbogaclfdaa
open Go.RowKit
set_option linter.unusedVariables false
set_option linter.unusedSimpArgs false
set_option linter.unnecessarySimpa false
set_option maxRecDepth 100000
def sameMk (xs ys : List Mk) : Bool := decide (xs = ys)
theorem sameMk_no {xs ys : List Mk} {k : Nat} {x y : Mk} (hx : xs[k]? = some x) (hy : ys[k]? = some y) (e : x ≠ y) : sameMk xs ys = false := by
  unfold sameMk
  rw [decide_eq_false_iff_not]
  rintro rfl
  rw [hx] at hy
  injection hy with hy
  exact e hy
theorem takeMk_next {xs ys : List Mk} {k : Nat} {x : Mk} (h : xs.take k = ys.take k) (hx : xs[k]? = some x) (hy : ys[k]? = some x) : xs.take (k + 1) = ys.take (k + 1) := by
  rw [List.take_add_one, List.take_add_one, h, hx, hy]
set_option maxHeartbeats 1000000 in
theorem ref_SameMarks {A : Option Addr} {n c : Nat} {xs : List Mk} {A' : Option Addr} {n' c' : Nat} {ys : List Mk} {w : World} (l1 : Lst 4 mkR w A n c xs) (l2 : Lst 4 mkR w A' n' c' ys) {b : Bool} (hb : Hid (sameMk xs ys = b)) :
    Calls Try.prog 33 #[.slice A n c, .slice A' n' c'] w fun e w' => e = .returned (.bool b) ∧ Ext w w' := by
  have h63 := l1.n63
  have h63' := l2.n63
  by_cases hn : n = n'
  case neg =>
    have hne : b = false := by
      rw [← hb.out]
      unfold sameMk
      rw [decide_eq_false_iff_not]
      rintro rfl
      exact hn (l1.len.symm.trans l2.len)
    subst hne
    have hnn : ((n : Int) != (n' : Int)) = true := by simp; omega
    clear hn hb
    go_enter Try.func33, Try.ntmps33
    go_wp2_with fail
    go_ret
    exact ⟨rfl, Ext.refl _⟩
  subst hn
  go_enter Try.func33, Try.ntmps33
  go_wp2_with fail
  go_loopw [5] (fun i wr => ∃ k : Nat, k ≤ n ∧ i = .int .i64 k ∧ Hid (xs.take k = ys.take k) ∧ Ext w wr) (fun i _ => n - (intOf i).toNat)
  case atStart => exact ⟨0, by omega, rfl, rfl, Ext.refl _⟩
  case round =>
    obtain ⟨k, hk, rfl, hrk, hxr⟩ := hrel
    by_cases hlt : k < n
    · obtain ⟨ga, oa, x, cs, rfl, hx, rfl, ha⟩ := l1.at2 mk_rep (by omega) hlt
      obtain ⟨gb, ob, y, ds, rfl, hy, rfl, hd⟩ := l2.at2 mk_rep (by omega) hlt
      have a0 : wr.cell? ⟨ga, oa + k * 4, none⟩ = _ := hxr.cell (ha 0 _ rfl)
      have a1 := hxr.cell (ha 1 _ rfl)
      have a2 := hxr.cell (ha 2 _ rfl)
      have a3 := hxr.cell (ha 3 _ rfl)
      have b0 : wr.cell? ⟨gb, ob + k * 4, none⟩ = _ := hxr.cell (hd 0 _ rfl)
      have b1 := hxr.cell (hd 1 _ rfl)
      have b2 := hxr.cell (hd 2 _ rfl)
      have b3 := hxr.cell (hd 3 _ rfl)
      clear ha hd
      by_cases e : x = y
      · subst e
        have hn := Lib.hid (takeMk_next hrk.out hx hy)
        obtain ⟨x1, x2, x3, x4⟩ := x
        clear hx hy hrk
        go_wp2_with fail
        refine wp_region_typed Ext.steady rfl 26 rfl (by kernel_rfl) ?_
        apply Stage.step (Is _) [] (Is.keeps _) (by kernel_rfl)
        · intro w1 h1
          simp only [Given]
          go_wp2_with fail
          exact Post.isv (Ext.refl _) rfl rfl rfl
        apply Stage.step (Is _) [] (Is.keeps _) (by kernel_rfl)
        · intro w1 h1
          simp only [Given]
          go_wp2_with fail
          exact Post.isv (Ext.refl _) rfl rfl rfl
        apply Stage.step (Is _) [true, true] (Is.keeps _) (by kernel_rfl)
        · intro w1 h1
          simp only [List.nil_append, List.cons_append, Given]
          rintro _ rfl
          rintro _ rfl
          go_wp2_with fail
          exact Post.isv (Ext.refl _) rfl rfl rfl
        apply Stage.step (Is _) [false, false, true] (Is.keeps _) (by kernel_rfl)
        · intro w1 h1
          simp only [List.nil_append, List.cons_append, Given]
          rintro _ rfl
          have q0 := h1.cell a0
          have q1 := h1.cell a1
          have q2 := h1.cell a2
          have q3 := h1.cell a3
          go_wp2_with fail
          exact Post.isv (Ext.refl _) rfl rfl rfl
        apply Stage.step (Is _) [] (Is.keeps _) (by kernel_rfl)
        · intro w1 h1
          simp only [Given]
          go_wp2_with fail
          exact Post.isv (Ext.refl _) rfl rfl rfl
        apply Stage.step (Is _) [] (Is.keeps _) (by kernel_rfl)
        · intro w1 h1
          simp only [Given]
          go_wp2_with fail
          exact Post.isv (Ext.refl _) rfl rfl rfl
        apply Stage.step (Is _) [false, false, false, false, true, true] (Is.keeps _) (by kernel_rfl)
        · intro w1 h1
          simp only [List.nil_append, List.cons_append, Given]
          rintro _ rfl
          rintro _ rfl
          go_wp2_with fail
          exact Post.isv (Ext.refl _) rfl rfl rfl
        apply Stage.step (Is _) [false, false, false, false, false, false, true] (Is.keeps _) (by kernel_rfl)
        · intro w1 h1
          simp only [List.nil_append, List.cons_append, Given]
          rintro _ rfl
          have q0 := h1.cell b0
          have q1 := h1.cell b1
          have q2 := h1.cell b2
          have q3 := h1.cell b3
          go_wp2_with fail
          exact Post.isv (Ext.refl _) rfl rfl rfl
        apply Stage.step (Is (.bool false)) [false, false, false, true, false, false, false, true] (Is.keeps _) (by kernel_rfl)
        · intro w1 h1
          simp only [List.nil_append, List.cons_append, Given]
          rintro _ rfl
          rintro _ rfl
          go_wp2_with fail
          all_goals first | exact Post.isv (Ext.refl _) rfl rfl rfl | (exfalso; apply e; simp_all; done) | (exfalso; apply e; simp_all; exact e (bytes_inj ‹_›))
        apply Stage.nil
        intro w1 h1
        simp only [List.nil_append, List.cons_append]
        refine Fin.is_ ?_
        refine Fin.is_ ?_
        refine Fin.is_ ?_
        refine Fin.is_ ?_
        refine Fin.is_ ?_
        refine Fin.is_ ?_
        refine Fin.is_ ?_
        refine Fin.is_ ?_
        refine Fin.is_ ?_
        refine Fin.nil_ ?_
        go_simp
        go_wp2_with fail
        go_roundw
        case rel => exact ⟨k + 1, by omega, by go_num, hn, hxr.trans h1⟩
        case measure => simp [intOf]; omega
      · have hn := sameMk_no hx hy e
        rw [hb.out] at hn
        subst hn
        obtain ⟨x1, x2, x3, x4⟩ := x
        obtain ⟨y1, y2, y3, y4⟩ := y
        clear hx hy hrk hb
        go_wp2_with fail
        refine wp_region_typed Ext.steady rfl 26 rfl (by kernel_rfl) ?_
        apply Stage.step (Is _) [] (Is.keeps _) (by kernel_rfl)
        · intro w1 h1
          simp only [Given]
          go_wp2_with fail
          exact Post.isv (Ext.refl _) rfl rfl rfl
        apply Stage.step (Is _) [] (Is.keeps _) (by kernel_rfl)
        · intro w1 h1
          simp only [Given]
          go_wp2_with fail
          exact Post.isv (Ext.refl _) rfl rfl rfl
        apply Stage.step (Is _) [true, true] (Is.keeps _) (by kernel_rfl)
        · intro w1 h1
          simp only [List.nil_append, List.cons_append, Given]
          rintro _ rfl
          rintro _ rfl
          go_wp2_with fail
          exact Post.isv (Ext.refl _) rfl rfl rfl
        apply Stage.step (Is _) [false, false, true] (Is.keeps _) (by kernel_rfl)
        · intro w1 h1
          simp only [List.nil_append, List.cons_append, Given]
          rintro _ rfl
          have q0 := h1.cell a0
          have q1 := h1.cell a1
          have q2 := h1.cell a2
          have q3 := h1.cell a3
          go_wp2_with fail
          exact Post.isv (Ext.refl _) rfl rfl rfl
        apply Stage.step (Is _) [] (Is.keeps _) (by kernel_rfl)
        · intro w1 h1
          simp only [Given]
          go_wp2_with fail
          exact Post.isv (Ext.refl _) rfl rfl rfl
        apply Stage.step (Is _) [] (Is.keeps _) (by kernel_rfl)
        · intro w1 h1
          simp only [Given]
          go_wp2_with fail
          exact Post.isv (Ext.refl _) rfl rfl rfl
        apply Stage.step (Is _) [false, false, false, false, true, true] (Is.keeps _) (by kernel_rfl)
        · intro w1 h1
          simp only [List.nil_append, List.cons_append, Given]
          rintro _ rfl
          rintro _ rfl
          go_wp2_with fail
          exact Post.isv (Ext.refl _) rfl rfl rfl
        apply Stage.step (Is _) [false, false, false, false, false, false, true] (Is.keeps _) (by kernel_rfl)
        · intro w1 h1
          simp only [List.nil_append, List.cons_append, Given]
          rintro _ rfl
          have q0 := h1.cell b0
          have q1 := h1.cell b1
          have q2 := h1.cell b2
          have q3 := h1.cell b3
          go_wp2_with fail
          exact Post.isv (Ext.refl _) rfl rfl rfl
        apply Stage.step (Is (.bool true)) [false, false, false, true, false, false, false, true] (Is.keeps _) (by kernel_rfl)
        · intro w1 h1
          simp only [List.nil_append, List.cons_append, Given]
          rintro _ rfl
          rintro _ rfl
          go_wp2_with fail
          all_goals first | exact Post.isv (Ext.refl _) rfl rfl rfl | (exfalso; apply e; simp_all; done) | (exfalso; apply e; simp_all; exact e (bytes_inj ‹_›))
        apply Stage.nil
        intro w1 h1
        simp only [List.nil_append, List.cons_append]
        refine Fin.is_ ?_
        refine Fin.is_ ?_
        refine Fin.is_ ?_
        refine Fin.is_ ?_
        refine Fin.is_ ?_
        refine Fin.is_ ?_
        refine Fin.is_ ?_
        refine Fin.is_ ?_
        refine Fin.is_ ?_
        refine Fin.nil_ ?_
        go_simp
        go_wp2_with fail
        go_ret
        exact ⟨rfl, hxr.trans h1⟩
    · have hn : b = true := by
        rw [← hb.out]
        unfold sameMk
        rw [decide_eq_true_eq]
        have := hrk.out
        rwa [List.take_of_length_le (by rw [l1.len]; omega), List.take_of_length_le (by rw [l2.len]; omega)] at this
      subst hn
      clear hrk hb
      go_wp2_with fail
      go_ret
      exact ⟨rfl, hxr⟩
set_option maxHeartbeats 1000000 in
theorem equal_marks {A : Option Addr} {n c : Nat} {xs : List Mk} {A' : Option Addr} {n' c' : Nat} {ys : List Mk} {w : World} (l1 : Lst 4 mkR w A n c xs) (l2 : Lst 4 mkR w A' n' c' ys) {b : Bool} (hb : Hid (sameMk xs ys = b)) :
    Calls Try.prog 65 #[.slice A n c, .slice A' n' c'] w fun e w' => e = .returned (.bool b) ∧ Ext w w' := by
  have h63 := l1.n63
  have h63' := l2.n63
  by_cases hn : n = n'
  case neg =>
    have hne : b = false := by
      rw [← hb.out]
      unfold sameMk
      rw [decide_eq_false_iff_not]
      rintro rfl
      exact hn (l1.len.symm.trans l2.len)
    subst hne
    have hnn : ((n : Int) != (n' : Int)) = true := by simp; omega
    clear hn hb
    go_enter Try.func65, Try.ntmps65
    go_wp2_with fail
    go_ret
    exact ⟨rfl, Ext.refl _⟩
  subst hn
  go_enter Try.func65, Try.ntmps65
  go_wp2_with fail
  go_loopw [13] (fun i wr => ∃ k : Nat, k ≤ n ∧ i = .int .i64 k ∧ Hid (xs.take k = ys.take k) ∧ Ext w wr) (fun i _ => n - (intOf i).toNat)
  case atStart => exact ⟨0, by omega, rfl, rfl, Ext.refl _⟩
  case round =>
    obtain ⟨k, hk, rfl, hrk, hxr⟩ := hrel
    by_cases hlt : k < n
    · obtain ⟨ga, oa, x, cs, rfl, hx, rfl, ha⟩ := l1.at2 mk_rep (by omega) hlt
      obtain ⟨gb, ob, y, ds, rfl, hy, rfl, hd⟩ := l2.at2 mk_rep (by omega) hlt
      have a0 : wr.cell? ⟨ga, oa + k * 4, none⟩ = _ := hxr.cell (ha 0 _ rfl)
      have a1 := hxr.cell (ha 1 _ rfl)
      have a2 := hxr.cell (ha 2 _ rfl)
      have a3 := hxr.cell (ha 3 _ rfl)
      have b0 : wr.cell? ⟨gb, ob + k * 4, none⟩ = _ := hxr.cell (hd 0 _ rfl)
      have b1 := hxr.cell (hd 1 _ rfl)
      have b2 := hxr.cell (hd 2 _ rfl)
      have b3 := hxr.cell (hd 3 _ rfl)
      clear ha hd
      by_cases e : x = y
      · subst e
        have hn := Lib.hid (takeMk_next hrk.out hx hy)
        obtain ⟨x1, x2, x3, x4⟩ := x
        clear hx hy hrk
        go_wp2_with fail
        refine wp_region_typed Ext.steady rfl 26 rfl (by kernel_rfl) ?_
        apply Stage.step (Is _) [] (Is.keeps _) (by kernel_rfl)
        · intro w1 h1
          simp only [Given]
          go_wp2_with fail
          exact Post.isv (Ext.refl _) rfl rfl rfl
        apply Stage.step (Is _) [] (Is.keeps _) (by kernel_rfl)
        · intro w1 h1
          simp only [Given]
          go_wp2_with fail
          exact Post.isv (Ext.refl _) rfl rfl rfl
        apply Stage.step (Is _) [true, true] (Is.keeps _) (by kernel_rfl)
        · intro w1 h1
          simp only [List.nil_append, List.cons_append, Given]
          rintro _ rfl
          rintro _ rfl
          go_wp2_with fail
          exact Post.isv (Ext.refl _) rfl rfl rfl
        apply Stage.step (Is _) [false, false, true] (Is.keeps _) (by kernel_rfl)
        · intro w1 h1
          simp only [List.nil_append, List.cons_append, Given]
          rintro _ rfl
          have q0 := h1.cell a0
          have q1 := h1.cell a1
          have q2 := h1.cell a2
          have q3 := h1.cell a3
          go_wp2_with fail
          exact Post.isv (Ext.refl _) rfl rfl rfl
        apply Stage.step (Is _) [] (Is.keeps _) (by kernel_rfl)
        · intro w1 h1
          simp only [Given]
          go_wp2_with fail
          exact Post.isv (Ext.refl _) rfl rfl rfl
        apply Stage.step (Is _) [] (Is.keeps _) (by kernel_rfl)
        · intro w1 h1
          simp only [Given]
          go_wp2_with fail
          exact Post.isv (Ext.refl _) rfl rfl rfl
        apply Stage.step (Is _) [false, false, false, false, true, true] (Is.keeps _) (by kernel_rfl)
        · intro w1 h1
          simp only [List.nil_append, List.cons_append, Given]
          rintro _ rfl
          rintro _ rfl
          go_wp2_with fail
          exact Post.isv (Ext.refl _) rfl rfl rfl
        apply Stage.step (Is _) [false, false, false, false, false, false, true] (Is.keeps _) (by kernel_rfl)
        · intro w1 h1
          simp only [List.nil_append, List.cons_append, Given]
          rintro _ rfl
          have q0 := h1.cell b0
          have q1 := h1.cell b1
          have q2 := h1.cell b2
          have q3 := h1.cell b3
          go_wp2_with fail
          exact Post.isv (Ext.refl _) rfl rfl rfl
        apply Stage.step (Is (.bool false)) [false, false, false, true, false, false, false, true] (Is.keeps _) (by kernel_rfl)
        · intro w1 h1
          simp only [List.nil_append, List.cons_append, Given]
          rintro _ rfl
          rintro _ rfl
          go_wp2_with fail
          all_goals first | exact Post.isv (Ext.refl _) rfl rfl rfl | (exfalso; apply e; simp_all; done) | (exfalso; apply e; simp_all; exact e (bytes_inj ‹_›))
        apply Stage.nil
        intro w1 h1
        simp only [List.nil_append, List.cons_append]
        refine Fin.is_ ?_
        refine Fin.is_ ?_
        refine Fin.is_ ?_
        refine Fin.is_ ?_
        refine Fin.is_ ?_
        refine Fin.is_ ?_
        refine Fin.is_ ?_
        refine Fin.is_ ?_
        refine Fin.is_ ?_
        refine Fin.nil_ ?_
        go_simp
        go_wp2_with fail
        go_roundw
        case rel => exact ⟨k + 1, by omega, by go_num, hn, hxr.trans h1⟩
        case measure => simp [intOf]; omega
      · have hn := sameMk_no hx hy e
        rw [hb.out] at hn
        subst hn
        obtain ⟨x1, x2, x3, x4⟩ := x
        obtain ⟨y1, y2, y3, y4⟩ := y
        clear hx hy hrk hb
        go_wp2_with fail
        refine wp_region_typed Ext.steady rfl 26 rfl (by kernel_rfl) ?_
        apply Stage.step (Is _) [] (Is.keeps _) (by kernel_rfl)
        · intro w1 h1
          simp only [Given]
          go_wp2_with fail
          exact Post.isv (Ext.refl _) rfl rfl rfl
        apply Stage.step (Is _) [] (Is.keeps _) (by kernel_rfl)
        · intro w1 h1
          simp only [Given]
          go_wp2_with fail
          exact Post.isv (Ext.refl _) rfl rfl rfl
        apply Stage.step (Is _) [true, true] (Is.keeps _) (by kernel_rfl)
        · intro w1 h1
          simp only [List.nil_append, List.cons_append, Given]
          rintro _ rfl
          rintro _ rfl
          go_wp2_with fail
          exact Post.isv (Ext.refl _) rfl rfl rfl
        apply Stage.step (Is _) [false, false, true] (Is.keeps _) (by kernel_rfl)
        · intro w1 h1
          simp only [List.nil_append, List.cons_append, Given]
          rintro _ rfl
          have q0 := h1.cell a0
          have q1 := h1.cell a1
          have q2 := h1.cell a2
          have q3 := h1.cell a3
          go_wp2_with fail
          exact Post.isv (Ext.refl _) rfl rfl rfl
        apply Stage.step (Is _) [] (Is.keeps _) (by kernel_rfl)
        · intro w1 h1
          simp only [Given]
          go_wp2_with fail
          exact Post.isv (Ext.refl _) rfl rfl rfl
        apply Stage.step (Is _) [] (Is.keeps _) (by kernel_rfl)
        · intro w1 h1
          simp only [Given]
          go_wp2_with fail
          exact Post.isv (Ext.refl _) rfl rfl rfl
        apply Stage.step (Is _) [false, false, false, false, true, true] (Is.keeps _) (by kernel_rfl)
        · intro w1 h1
          simp only [List.nil_append, List.cons_append, Given]
          rintro _ rfl
          rintro _ rfl
          go_wp2_with fail
          exact Post.isv (Ext.refl _) rfl rfl rfl
        apply Stage.step (Is _) [false, false, false, false, false, false, true] (Is.keeps _) (by kernel_rfl)
        · intro w1 h1
          simp only [List.nil_append, List.cons_append, Given]
          rintro _ rfl
          have q0 := h1.cell b0
          have q1 := h1.cell b1
          have q2 := h1.cell b2
          have q3 := h1.cell b3
          go_wp2_with fail
          exact Post.isv (Ext.refl _) rfl rfl rfl
        apply Stage.step (Is (.bool true)) [false, false, false, true, false, false, false, true] (Is.keeps _) (by kernel_rfl)
        · intro w1 h1
          simp only [List.nil_append, List.cons_append, Given]
          rintro _ rfl
          rintro _ rfl
          go_wp2_with fail
          all_goals first | exact Post.isv (Ext.refl _) rfl rfl rfl | (exfalso; apply e; simp_all; done) | (exfalso; apply e; simp_all; exact e (bytes_inj ‹_›))
        apply Stage.nil
        intro w1 h1
        simp only [List.nil_append, List.cons_append]
        refine Fin.is_ ?_
        refine Fin.is_ ?_
        refine Fin.is_ ?_
        refine Fin.is_ ?_
        refine Fin.is_ ?_
        refine Fin.is_ ?_
        refine Fin.is_ ?_
        refine Fin.is_ ?_
        refine Fin.is_ ?_
        refine Fin.nil_ ?_
        go_simp
        go_wp2_with fail
        go_ret
        exact ⟨rfl, hxr.trans h1⟩
    · have hn : b = true := by
        rw [← hb.out]
        unfold sameMk
        rw [decide_eq_true_eq]
        have := hrk.out
        rwa [List.take_of_length_le (by rw [l1.len]; omega), List.take_of_length_le (by rw [l2.len]; omega)] at this
      subst hn
      clear hrk hb
      go_wp2_with fail
      go_ret
      exact ⟨rfl, hxr⟩
end Go.Proofs.Ytoeknbogaclfdaa

namespace Go.Proofs.Ytoeknbogaclfdaa
open Go.RowKit
set_option linter.unusedVariables false
set_option linter.unusedSimpArgs false
set_option linter.unnecessarySimpa false
set_option maxRecDepth 100000
theorem Ext.frozenH {a b : World} (h : Ext a b) {p : Addr} {u : Value} (hc : a.cell? p = some u) (hf : a.frozen? p = false) : b.frozen? p = false := by
  rw [Below.frozen h (World.block_lt_of_cell? a p hc)]
  exact hf
end Go.Proofs.Ytoeknbogaclfdaa
