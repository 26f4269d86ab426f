/-
  Marks and records: what may be, their bytes, what bytes are. Plain lists, no program in sight.
-/
/-
  Contracts of package bits: Put, Var.
-/
/-
  Contracts of Get, of the program and of the reference.
-/
import Derived.Test.YtoeknbogaclfdaaZFromNmToVar
import Derived.Test.YtoeknbogaclfdaaZFromTextToChainBytes
import Derived.Test.YtoeknbogaclfdaaZFromLePlainToMask2
import Derived.Test.YtoeknbogaclfdaaZCore
namespace Go.Proofs.Ytoeknbogaclfdaa
set_option linter.unusedVariables false
set_option linter.unusedSimpArgs false

structure Mk where
  id : Int
  nm : ByteArray
  sz : Int
  gone : Bool
  deriving DecidableEq
/-- a hold by its name -/
def tildeB (s : ByteArray) : Bool := match s.data.toList with | b :: _ => decide (b.toNat = 126) | [] => false
def tailS (s : ByteArray) : ByteArray := s.extract 1 s.size
def nameM (s : ByteArray) : Bool := if tildeB s = true then nameB (tailS s) else nameB s
def namedM (x : Mk) : Bool := nameM x.nm && !(tildeB x.nm && x.gone)
def seenM (x : Mk) : Bool := !x.gone && !tildeB x.nm
def lastI (l : List Mk) : Int := match l.getLast? with | some x => x.id | none => 0
def okM (next : Int) (pre : List Mk) (x : Mk) : Bool := decide (lastI pre < x.id ∧ x.id < next ∧ 0 ≤ x.sz ∧ x.sz ≤ 512) && namedM x
def newM (pre : List Mk) (x : Mk) : Bool := !(seenM x && pre.any fun y => seenM y && decide (y.nm = x.nm))
def marksF (next : Int) : List Mk → List Mk → Bool
  | _, [] => true
  | pre, x :: xs => (okM next pre x && newM pre x) && marksF next (pre ++ [x]) xs
def holdsN (l : List Mk) : Nat := (l.filter fun x => tildeB x.nm).length
def seenL (l : List Mk) : List Mk := l.filter seenM
def marksB (next : Int) (l : List Mk) : Bool := marksF next [] l && (decide (holdsN l ≤ 1) && (decide ((seenL l).length ≤ 8) && decide (l.length ≤ 17)))
/-- the same, in the document's order -/
def okF (next : Int) : List Mk → List Mk → Bool
  | _, [] => true
  | pre, x :: xs => okM next pre x && okF next (pre ++ [x]) xs
def distF : List Mk → List Mk → Bool
  | _, [] => true
  | pre, x :: xs => !(pre.any fun y => decide (y.nm = x.nm)) && distF (pre ++ [x]) xs
theorem seenL_app (a b : List Mk) : seenL (a ++ b) = seenL a ++ seenL b := by unfold seenL; rw [List.filter_append]
theorem newM_seen (pre : List Mk) (x : Mk) (h : seenM x = true) : newM pre x = !((seenL pre).any fun y => decide (y.nm = x.nm)) := by
  unfold newM seenL
  rw [h, List.any_filter, Bool.true_and]
theorem marksF_ref (next : Int) : ∀ (l pre : List Mk), marksF next pre l = (okF next pre l && distF (seenL pre) (seenL l))
  | [], pre => by simp [marksF, okF, seenL, distF]
  | x :: xs, pre => by
    rw [marksF, okF, marksF_ref next xs (pre ++ [x])]
    cases hs : seenM x with
    | true =>
      have e1 : seenL (x :: xs) = x :: seenL xs := by unfold seenL; rw [List.filter_cons_of_pos hs]
      have e2 : seenL (pre ++ [x]) = seenL pre ++ [x] := by rw [seenL_app]; unfold seenL; simp [hs]
      rw [newM_seen pre x hs, e1, e2, distF]
      cases okM next pre x <;> cases okF next (pre ++ [x]) xs <;> simp
    | false =>
      have e1 : seenL (x :: xs) = seenL xs := by unfold seenL; rw [List.filter_cons_of_neg (by simp [hs])]
      have e2 : seenL (pre ++ [x]) = seenL pre := by rw [seenL_app]; unfold seenL; simp [hs]
      have e3 : newM pre x = true := by unfold newM; rw [hs]; rfl
      rw [e1, e2, e3]
      cases okM next pre x <;> cases okF next (pre ++ [x]) xs <;> simp

structure Hd where
  size : Int
  order : Int
  unit : Int
  count : Int
  next : Int
  seq : Int
  marks : List Mk
  deriving DecidableEq
def shapeB (o u c : Int) : Bool := decide (3 ≤ o ∧ o ≤ 6 ∧ 2 ≤ u ∧ u ≤ o ∧ 1 ≤ c ∧ c ≤ 4)
def numsB (h : Hd) : Bool := decide (0 ≤ h.size ∧ h.size ≤ 512) && (shapeB h.order h.unit h.count && decide (1 ≤ h.next ∧ h.next ≤ 1073741824 ∧ 0 ≤ h.seq ∧ h.seq ≤ 1099511627776))
def rightH (h : Hd) : Bool := numsB h && marksB h.next h.marks
theorem marksB_ref (next : Int) (l : List Mk) : marksB next l = (decide (l.length ≤ 17) && (okF next [] l && (distF [] (seenL l) && (decide ((seenL l).length ≤ 8) && decide (holdsN l ≤ 1))))) := by
  unfold marksB
  rw [marksF_ref next l []]
  rw [show seenL [] = [] from rfl]
  cases okF next [] l <;> cases distF [] (seenL l) <;> cases decide (holdsN l ≤ 1) <;> cases decide ((seenL l).length ≤ 8) <;> cases decide (l.length ≤ 17) <;> rfl

/-! bytes -/
def goneI (g : Bool) : Int := if g = true then 1 else 0
def mkNs (x : Mk) : List Int := [x.id, x.sz, goneI x.gone]
def mkBs (x : Mk) : List UInt8 := varsL (mkNs x) ++ (varl x.nm.size ++ x.nm.data.toList)
def mksBs (l : List Mk) : List UInt8 := (l.map mkBs).flatten
theorem mksBs_next {xs : List Mk} {k : Nat} {x : Mk} (hx : xs[k]? = some x) : mksBs (xs.take (k + 1)) = mksBs (xs.take k) ++ mkBs x := by
  unfold mksBs
  rw [List.take_add_one, hx]
  simp
def hdNs (h : Hd) : List Int := [h.size, h.order, h.unit, h.count, h.next, h.seq]
def bodyH (h : Hd) : List UInt8 := varsL (hdNs h) ++ (varl h.marks.length ++ mksBs h.marks)
def putH (h : Hd) : List UInt8 := put (bodyH h) (crcOf (bodyH h)) 4
theorem mkBs_len (x : Mk) : 4 ≤ (mkBs x).length ∧ (mkBs x).length ≤ 36 + x.nm.size := by
  have h1 : 3 ≤ (varsL (mkNs x)).length ∧ (varsL (mkNs x)).length ≤ 9 * 3 := varsL_len (mkNs x)
  have h2 := varl_length x.nm.size
  unfold mkBs
  rw [List.length_append, List.length_append, size_list]
  omega

/-! what bytes are: the document's own reading (true), the program's (false) -/
def mkOf (l : List Int) (s : List UInt8) : Mk := ⟨l.getD 0 0, ⟨s.toArray⟩, l.getD 1 0, decide (l.getD 2 0 = 1)⟩
def mostG (rf : Bool) : Int := if rf = true then 20 else 13
def mkG (rf : Bool) (b : List UInt8) (a : Int) : Option (Mk × Int) :=
  (numsF 3 b a).bind fun p => if rf = true ∧ 1 < p.1.getD 2 0 then none else (gtO b p.2 (mostG rf)).map fun q => (mkOf p.1 q.1, q.2)
def mksG (rf : Bool) : Nat → List UInt8 → Int → Option (List Mk × Int)
  | 0, _, a => some ([], a)
  | f + 1, b, a => (mkG rf b a).bind fun p => (mksG rf f b p.2).map fun q => (p.1 :: q.1, q.2)
def mksO (rf : Bool) (b : List UInt8) (a : Int) : Option (List Mk × Int) := if gvC b a = true ∧ gvA b a ≤ 17 then mksG rf (gvA b a).toNat b (gvB b a) else none
def hdOf (l : List Int) (m : List Mk) : Hd := ⟨l.getD 0 0, l.getD 1 0, l.getD 2 0, l.getD 3 0, l.getD 4 0, l.getD 5 0, m⟩
def parseH (rf : Bool) (b : List UInt8) : Option Hd := (numsF 6 b 0).bind fun p => (mksO rf b p.2).map fun q => hdOf p.1 q.1
def getH (rf : Bool) (b : List UInt8) : Option Hd := (crcOpen b).bind fun c => (parseH rf c).bind fun h => if rightH h = true ∧ putH h = b then some h else none

theorem gt_there {b pre r : List UInt8} {s : ByteArray} {i most : Int} (hb : b = pre ++ (varl s.size ++ s.data.toList) ++ r) (hi : i = (pre.length : Int)) (hm : (s.size : Int) ≤ most) (h63 : s.size < 9223372036854775808) :
    gtO b i most = some (s.data.toList, i + (((varl s.size).length + s.size : Nat) : Int)) := by
  have hg := gv_there' (b := b) (a := pre) (r := s.data.toList ++ r) (k := s.size) (i := i) (by rw [hb]; simp) hi h63
  have hl : s.data.toList.length = s.size := size_list s
  have hbl : b.length = pre.length + ((varl s.size).length + s.size) + r.length := by rw [hb]; simp only [List.length_append]; omega
  have ht : i.toNat = pre.length := by omega
  unfold gtO
  rw [hg, Option.bind_some, if_pos ⟨hm, by simp only; omega⟩]
  simp only [Option.some.injEq, Prod.mk.injEq]
  refine ⟨?_, by omega⟩
  have e : b = (pre ++ varl s.size) ++ (s.data.toList ++ r) := by rw [hb]; simp
  have hd : b.drop (pre.length + (varl s.size).length) = s.data.toList ++ r := by
    rw [e]
    have : pre.length + (varl s.size).length = (pre ++ varl s.size).length := by rw [List.length_append]
    rw [this, List.drop_left]
  rw [ht, hd, ← hl, List.take_left]
/-- numbers and names that fit -/
def fitM (x : Mk) : Prop := (0 ≤ x.id ∧ x.id ≤ 9223372036854775807) ∧ (0 ≤ x.sz ∧ x.sz ≤ 9223372036854775807) ∧ x.nm.size ≤ 13
theorem mk_there {rf : Bool} {b pre r : List UInt8} {x : Mk} {a : Int} (hx : fitM x) (hb : b = pre ++ mkBs x ++ r) (ha : a = (pre.length : Int)) : mkG rf b a = some (x, a + ((mkBs x).length : Int)) := by
  obtain ⟨h1, h2, h3⟩ := hx
  have hn := nums_there (mkNs x) b pre ((varl x.nm.size ++ x.nm.data.toList) ++ r) a (fun k hk => by
    simp only [mkNs, List.mem_cons, List.not_mem_nil, or_false] at hk
    rcases hk with rfl | rfl | rfl
    · exact h1
    · exact h2
    · unfold goneI; split <;> omega) (by rw [hb]; unfold mkBs; simp) ha
  have ht := gt_there (b := b) (pre := pre ++ varsL (mkNs x)) (r := r) (s := x.nm) (i := a + ((varsL (mkNs x)).length : Int)) (most := mostG rf) (by rw [hb]; unfold mkBs; simp) (by rw [List.length_append]; omega) (by unfold mostG; split <;> omega) (by omega)
  unfold mkG
  rw [show numsF 3 b a = _ from hn, Option.bind_some]
  have h4 : ¬ (rf = true ∧ 1 < (mkNs x).getD 2 0) := by
    rintro ⟨_, h⟩
    simp only [mkNs, List.getD_cons_succ, List.getD_cons_zero] at h
    unfold goneI at h
    split at h <;> omega
  rw [if_neg h4, ht, Option.map_some]
  simp only [Option.some.injEq, Prod.mk.injEq]
  refine ⟨?_, ?_⟩
  · obtain ⟨i, nm, s, g⟩ := x
    simp only [mkOf, mkNs, List.getD_cons_succ, List.getD_cons_zero, Array.toArray_toList, Mk.mk.injEq, true_and]
    cases g <;> rfl
  · unfold mkBs
    rw [List.length_append, List.length_append, size_list]
    omega
theorem mks_there {rf : Bool} : ∀ (l : List Mk) (b pre r : List UInt8) (a : Int), (∀ x ∈ l, fitM x) → b = pre ++ mksBs l ++ r → a = (pre.length : Int) → mksG rf l.length b a = some (l, a + ((mksBs l).length : Int))
  | [], b, pre, r, a, _, hb, ha => by simp [mksG, mksBs]
  | x :: xs, b, pre, r, a, hf, hb, ha => by
    have h1 := mk_there (rf := rf) (b := b) (pre := pre) (r := mksBs xs ++ r) (a := a) (hf x (by simp)) (by rw [hb]; unfold mksBs; simp) ha
    have h2 := mks_there (rf := rf) xs b (pre ++ mkBs x) r (a + ((mkBs x).length : Int)) (fun y hy => hf y (by simp [hy])) (by rw [hb]; unfold mksBs; simp) (by rw [ha, List.length_append]; omega)
    rw [List.length_cons, mksG, h1, Option.bind_some, h2, Option.map_some]
    simp only [Option.some.injEq, Prod.mk.injEq, true_and]
    have : (mksBs (x :: xs)).length = (mkBs x).length + (mksBs xs).length := by unfold mksBs; simp
    omega
theorem okF_mem {next : Int} : ∀ {l pre : List Mk}, okF next pre l = true → ∀ x ∈ l, ∃ p, okM next p x = true
  | [], _, _, x, hx => by simp at hx
  | y :: ys, pre, h, x, hx => by
    rw [okF, Bool.and_eq_true] at h
    rcases List.mem_cons.1 hx with rfl | hx
    · exact ⟨_, h.1⟩
    · exact okF_mem h.2 x hx
theorem okF_pos {next : Int} : ∀ {l pre : List Mk}, okF next pre l = true → 0 ≤ lastI pre → ∀ x ∈ l, 1 ≤ x.id
  | [], _, _, _, x, hx => by simp at hx
  | y :: ys, pre, h, h0, x, hx => by
    rw [okF, Bool.and_eq_true] at h
    have h1 := h.1
    unfold okM at h1
    rw [Bool.and_eq_true, decide_eq_true_eq] at h1
    have hy : 1 ≤ y.id := by have := h1.1.1; omega
    rcases List.mem_cons.1 hx with rfl | hx
    · exact hy
    · refine okF_pos h.2 ?_ x hx
      unfold lastI
      rw [List.getLast?_append]
      simp
      omega
theorem nameB_size {s : ByteArray} (h : nameB s = true) : 1 ≤ s.size ∧ s.size ≤ 12 := by
  unfold nameB at h
  simp only [Bool.and_eq_true, decide_eq_true_eq] at h
  exact h.1
theorem nameM_size {s : ByteArray} (h : nameM s = true) : 1 ≤ s.size ∧ s.size ≤ 13 := by
  unfold nameM at h
  split at h
  · have := nameB_size h
    unfold tailS at this
    rw [ByteArray.size_extract] at this
    omega
  · have := nameB_size h
    omega
theorem right_fit {next : Int} {l : List Mk} (hn : next ≤ 1073741824) (h : marksB next l = true) : (∀ x ∈ l, fitM x ∧ 1 ≤ x.id) ∧ l.length ≤ 17 := by
  rw [marksB_ref] at h
  simp only [Bool.and_eq_true, decide_eq_true_eq] at h
  refine ⟨fun x hx => ?_, h.1⟩
  have hp := okF_pos h.2.1 (by simp [lastI]) x hx
  obtain ⟨p, ho⟩ := okF_mem h.2.1 x hx
  unfold okM namedM at ho
  simp only [Bool.and_eq_true, decide_eq_true_eq] at ho
  have := nameM_size ho.2.1
  unfold fitM
  omega
theorem numsB_iff {h : Hd} : numsB h = true ↔ (0 ≤ h.size ∧ h.size ≤ 512) ∧ (3 ≤ h.order ∧ h.order ≤ 6 ∧ 2 ≤ h.unit ∧ h.unit ≤ h.order ∧ 1 ≤ h.count ∧ h.count ≤ 4) ∧ (1 ≤ h.next ∧ h.next ≤ 1073741824 ∧ 0 ≤ h.seq ∧ h.seq ≤ 1099511627776) := by
  unfold numsB shapeB
  simp only [Bool.and_eq_true, decide_eq_true_eq]
theorem parse_putH {rf : Bool} {h : Hd} (hr : rightH h = true) (r : List UInt8) : parseH rf (bodyH h ++ r) = some h := by
  unfold rightH at hr
  rw [Bool.and_eq_true, numsB_iff] at hr
  obtain ⟨hn, hm⟩ := hr
  obtain ⟨hf, hl⟩ := right_fit hn.2.2.2.1 hm
  have h1 := nums_there (hdNs h) (bodyH h ++ r) [] ((varl h.marks.length ++ mksBs h.marks) ++ r) 0 (fun k hk => by
    simp only [hdNs, List.mem_cons, List.not_mem_nil, or_false] at hk
    rcases hk with rfl | rfl | rfl | rfl | rfl | rfl <;> omega) (by unfold bodyH; simp) rfl
  have h2 := gv_there' (b := bodyH h ++ r) (a := varsL (hdNs h)) (r := mksBs h.marks ++ r) (k := h.marks.length) (i := 0 + ((varsL (hdNs h)).length : Int)) (by unfold bodyH; simp) (by omega) (by omega)
  obtain ⟨e1, e2, e3⟩ := gv_vals h2
  have h3 := mks_there (rf := rf) h.marks (bodyH h ++ r) (varsL (hdNs h) ++ varl h.marks.length) r (0 + ((varsL (hdNs h)).length : Int) + ((varl h.marks.length).length : Int)) (fun x hx => (hf x hx).1) (by unfold bodyH; simp) (by rw [List.length_append]; omega)
  unfold parseH mksO
  rw [show numsF 6 (bodyH h ++ r) 0 = _ from h1, Option.bind_some]
  simp only
  rw [e1, e2, e3, if_pos ⟨rfl, by omega⟩, Int.toNat_natCast, h3]
  rfl
theorem getH_iff {rf : Bool} {b : List UInt8} {h : Hd} : getH rf b = some h ↔ rightH h = true ∧ putH h = b := by
  constructor
  · intro hg
    unfold getH at hg
    obtain ⟨c, hc, hg⟩ := Option.bind_eq_some_iff.1 hg
    obtain ⟨h', hp, hg⟩ := Option.bind_eq_some_iff.1 hg
    split at hg
    · rename_i hq
      injection hg with hg
      subst hg
      exact hq
    · cases hg
  · rintro ⟨hr, rfl⟩
    have h1 := parse_putH (rf := rf) hr []
    rw [List.append_nil] at h1
    unfold getH
    rw [show crcOpen (putH h) = some (bodyH h) from crcOpen_put _, Option.bind_some, h1, Option.bind_some, if_pos ⟨hr, rfl⟩]
theorem getH_ref (b : List UInt8) : getH true b = getH false b := by
  cases e : getH true b with
  | some h => exact ((getH_iff (rf := false)).2 (getH_iff.1 e)).symm
  | none =>
    cases e2 : getH false b with
    | none => rfl
    | some h =>
      rw [(getH_iff (rf := true)).2 (getH_iff.1 e2)] at e
      cases e
theorem getH_less {rf : Bool} {h : Hd} (hr : rightH h = true) {k : Nat} (hk : k < (putH h).length) : getH rf ((putH h).take k) = none := by
  cases e : getH rf ((putH h).take k) with
  | none => rfl
  | some h' =>
    obtain ⟨hr', hp⟩ := getH_iff.1 e
    exfalso
    have hl := congrArg List.length hp
    have hput : ∀ x : Hd, putH x = bodyH x ++ le 4 (crcOf (bodyH x)) := fun _ => rfl
    have hlen : ∀ x : Hd, (putH x).length = (bodyH x).length + 4 := fun x => by rw [hput, List.length_append, le_length]
    rw [List.length_take, hlen] at hl
    have hlh := hlen h
    have hb : bodyH h' = (bodyH h).take (bodyH h').length := by
      have q := congrArg (List.take (bodyH h').length) hp
      rw [hput h', List.take_left, List.take_take, hput h, List.take_append_of_le_length (by omega)] at q
      rw [q]
      congr 1
      rw [List.length_take]
      omega
    have p1 := parse_putH (rf := rf) hr' ((bodyH h).drop (bodyH h').length)
    have p2 := parse_putH (rf := rf) hr []
    have q : bodyH h' ++ (bodyH h).drop (bodyH h').length = bodyH h := by
      conv => lhs; arg 1; rw [hb]
      exact List.take_append_drop _ _
    rw [q] at p1
    rw [List.append_nil, p1] at p2
    injection p2 with p2
    subst p2
    omega
end Go.Proofs.Ytoeknbogaclfdaa

namespace Go.Proofs.Ytoeknbogaclfdaa
open Go.RowKit
set_option linter.unusedVariables false
set_option maxRecDepth 100000

theorem bits_Put_loop (A : Option Addr) (n c : Nat) (l : List UInt8) (x wd : Nat) (w : World) (h : Sl w A n c l) (hn : n ≤ 1000000) (hx : x < 18446744073709551616) (hw1 : 1 ≤ wd) (hw8 : wd ≤ 8) :
    Calls Try.prog 82 #[.slice A n c, .int .u64 x, .int .i64 wd] w fun e w' => ∃ A' c', e = .returned (.slice A' (n + wd) c') ∧ Byt U8 w' w.heap.size A' (n + wd) c' (put l x wd) ∧ Ext w w' := by
  obtain ⟨i0, hi0, hz0, hz1, hz2⟩ := info_parts info_u8
  go_enter Try.func82, Try.ntmps82
  go_wp2_with (go_at_call 80; refine (slices_Clone A n c l _ h hn).mono ?_; rintro e w1 ⟨A1, c1, rfl, hb1, hx1⟩)
  go_loopw [7, 19] (fun v i wr => ∃ (k : Nat) (Ak : Option Addr) (ck : Nat), k ≤ wd ∧ i = .int .i64 k ∧ v = .slice Ak (n + k) ck ∧ Byt U8 wr w.heap.size Ak (n + k) ck (l ++ le k x) ∧ Ext w wr) (fun _ i _ => wd - (intOf i).toNat)
  case atStart => exact ⟨0, A1, c1, by omega, rfl, rfl, by simpa [le] using hb1, hx1⟩
  case round =>
    obtain ⟨k, Ak, ck, hk, rfl, rfl, hbk, hxk⟩ := hrel
    go_wp2_with (at_builtin; refine wpList_append_mine _ rfl _ _ _ _ rfl w.heap.size U8 i0 _ 1 1 under_bytes hi0 hz0 hz1 hz2 rfl Ak (n + k) ck _ rfl (hbk.own.alloc _) _ rfl 1 _ (src_one under_bytes _ rfl) (by simp only [maxLen]; omega) (by omega) (by have := hxk.size; simp; omega) ?_; intro A' c' w2 hown hg _)
    · have hk2 : k < wd := by assumption
      have hb2 : Byt U8 w2 w.heap.size A' (n + k + 1) c' (l ++ le (k + 1) x) := by
        have := Byt.more (l2 := [UInt8.ofNat (x / 256 ^ k)]) hbk.len rfl hown (by simp [byte_of_nat])
        rw [le_snoc]
        simpa using this
      have hx2 : Ext w w2 := below_grown (hxk.trans (Ext.alloc wr _)) (hbk.own.alloc _) hg (by have := hxk.size; simp; omega)
      clear hown hg hbk
      go_wp2
      go_roundw
      case rel => exact ⟨k + 1, A', c', by omega, by go_num, rfl, hb2, hx2⟩
      case measure => simp [intOf]; omega
    · have hk2 : k = wd := by omega
      subst hk2
      go_ret
      exact ⟨_, _, rfl, hbk, hxk⟩

def putI (l : List UInt8) (x : Nat) (wd : Int) : List UInt8 := if 1 ≤ wd ∧ wd ≤ 8 then put l x wd.toNat else l

theorem bits_Put (A : Option Addr) (n c : Nat) (l : List UInt8) (x : Nat) (wd : Int) (w : World) (h : Sl w A n c l) (hn : n ≤ 1000000) (hx : x < 18446744073709551616) :
    Calls Try.prog 82 #[.slice A n c, .int .u64 x, .int .i64 wd] w fun e w' => ∃ A' n' c', e = .returned (.slice A' n' c') ∧ Byt U8 w' w.heap.size A' n' c' (putI l x wd) ∧ Ext w w' := by
  by_cases hw : 1 ≤ wd ∧ wd ≤ 8
  · obtain ⟨m, rfl⟩ := Int.eq_ofNat_of_zero_le (by omega : 0 ≤ wd)
    refine (bits_Put_loop A n c l x m w h hn hx (by omega) (by omega)).mono ?_
    rintro e w' ⟨A', c', rfl, hb, hx⟩
    exact ⟨A', _, c', rfl, by unfold putI; rw [if_pos hw]; exact hb, hx⟩
  · have hp : putI l x wd = l := by unfold putI; rw [if_neg hw]
    rw [hp]
    clear hp
    by_cases h1 : wd < 1
    · go_enter Try.func82, Try.ntmps82
      go_wp2_with (go_at_call 80; refine (slices_Clone A n c l _ h hn).mono ?_; rintro e w1 ⟨A1, c1, rfl, hb1, hx1⟩)
      go_ret
      exact ⟨_, _, _, rfl, hb1, hx1⟩
    · have h2 : 8 < wd := by omega
      go_enter Try.func82, Try.ntmps82
      go_wp2_with (go_at_call 80; refine (slices_Clone A n c l _ h hn).mono ?_; rintro e w1 ⟨A1, c1, rfl, hb1, hx1⟩)
      go_ret
      exact ⟨_, _, _, rfl, hb1, hx1⟩

theorem ref_Put (A : Option Addr) (n c : Nat) (l : List UInt8) (x : Nat) (wd : Int) (w : World) (h : Sl w A n c l) (hn : n ≤ 1000000) (hx : x < 18446744073709551616) :
    Calls Try.prog 53 #[.slice A n c, .int .u64 x, .int .i64 wd] w fun e w' => ∃ A' n' c', e = .returned (.slice A' n' c') ∧ Byt U8 w' w.heap.size A' n' c' (putI l x wd) ∧ Ext w w' := by
  obtain ⟨i0, hi0, hz0, hz1, hz2⟩ := info_parts info_u8
  obtain ⟨m, hm⟩ : ∃ m : Nat, m = if 1 ≤ wd ∧ wd ≤ 8 then wd.toNat else 0 := ⟨_, rfl⟩
  have hm8 : m ≤ 8 := by split at hm <;> omega
  have hm0 : ∀ k : Nat, k < m ↔ ((k : Int) < wd ∧ wd ≤ 8) := by intro k; split at hm <;> omega
  have hp : Hid (putI l x wd = l ++ le m x) := by
    unfold Hid putI
    split <;> rename_i hc
    · rw [if_pos hc] at hm; rw [hm]; rfl
    · rw [if_neg hc] at hm; rw [hm]; simp [le]
  have H0 := Lib.hid hm0
  clear hm hm0
  go_enter Try.func53, Try.ntmps53
  go_wp2_with (at_builtin; refine wpList_append_mine _ rfl _ _ _ _ rfl w.heap.size U8 i0 _ 1 1 under_bytes hi0 hz0 hz1 hz2 rfl _ 0 0 [] rfl (Own.nil _ _ _ _ _) _ rfl n (l.map bv) ((h.ext (Ext.alloc _ _)).src under_bytes) (by simp only [maxLen]; omega) (by omega) (by simp) ?_; intro A1 c1 w1 hown hg _)
  have hb1 : Byt U8 w1 w.heap.size A1 n c1 l := ⟨h.len, by simpa using hown⟩
  have hx1 : Ext w w1 := below_grown (Ext.alloc w _) (Own.nil _ _ U8 1 _) hg (by simp)
  clear hown hg
  go_loopw [7, 8] (fun v i wr => ∃ (k : Nat) (Ak : Option Addr) (ck : Nat), k ≤ m ∧ i = .int .i64 k ∧ v = .slice Ak (n + k) ck ∧ Byt U8 wr w.heap.size Ak (n + k) ck (l ++ le k x) ∧ Ext w wr) (fun _ i _ => m - (intOf i).toNat)
  case atStart => exact ⟨0, A1, c1, by omega, rfl, rfl, by simpa [le] using hb1, hx1⟩
  case round =>
    obtain ⟨k, Ak, ck, hk, rfl, rfl, hbk, hxk⟩ := hrel
    clear hb1 hx1
    have hkm := H0.out k
    by_cases hlt : k < m
    · obtain ⟨hk1, hk2⟩ := hkm.1 hlt
      clear hkm
      go_wp2_with (at_builtin; refine wpList_append_mine _ rfl _ _ _ _ rfl w.heap.size U8 i0 _ 1 1 under_bytes hi0 hz0 hz1 hz2 rfl Ak (n + k) ck _ rfl (hbk.own.alloc _) _ rfl 1 _ (src_one under_bytes _ rfl) (by simp only [maxLen]; omega) (by omega) (by have := hxk.size; simp; omega) ?_; intro A' c' w2 hown hg _)
      have hb2 : Byt U8 w2 w.heap.size A' (n + k + 1) c' (l ++ le (k + 1) x) := by
        have := Byt.more (l2 := [UInt8.ofNat (x / 256 ^ k)]) hbk.len rfl hown (by simp [byte_of_nat])
        rw [le_snoc]
        simpa using this
      have hx2 : Ext w w2 := below_grown (hxk.trans (Ext.alloc wr _)) (hbk.own.alloc _) hg (by have := hxk.size; simp; omega)
      clear hown hg hbk
      go_wp2
      go_roundw
      case rel => exact ⟨k + 1, A', c', by omega, by go_num, rfl, hb2, hx2⟩
      case measure => simp [intOf]; omega
    · have hno : ¬ ((k : Int) < wd ∧ wd ≤ 8) := fun h => hlt (hkm.2 h)
      obtain rfl : k = m := by omega
      clear hkm
      by_cases h1 : (k : Int) < wd
      · have h2 : 8 < wd := by omega
        go_wp2
        go_ret
        exact ⟨_, _, _, rfl, by rw [hp.out]; exact hbk, hxk⟩
      · go_wp2
        go_ret
        exact ⟨_, _, _, rfl, by rw [hp.out]; exact hbk, hxk⟩
end Go.Proofs.Ytoeknbogaclfdaa

namespace Go.Proofs.Ytoeknbogaclfdaa
open Go.RowKit
set_option linter.unusedVariables false
set_option maxRecDepth 100000

theorem bits_Get_yes (A : Option Addr) (n c : Nat) (l : List UInt8) (a wd : Nat) (w : World) (hs : Sl w A n c l) (h1 : 1 ≤ wd) (h8 : wd ≤ 8) (hn : a + wd ≤ n) :
    Calls Try.prog 110 #[.slice A n c, .int .i64 a, .int .i64 wd] w fun e w' => e = .returned (.tuple #[.int .u64 (unle ((l.drop a).take wd)), .bool true]) ∧ w = w' := by
  have h63 := hs.n63
  have hd : a ≤ n := by omega
  go_enter Try.func110, Try.ntmps110
  go_wp2
  go_loop [8, 35] (fun v i => ∃ k : Nat, k ≤ wd ∧ i = .int .i64 k ∧ v = .int .u64 (unle ((l.drop a).take k))) (fun _ i => (wd - (intOf i).toNat))
  case atStart => exact ⟨0, by omega, rfl, rfl⟩
  case round =>
    obtain ⟨k, hk, rfl, rfl⟩ := hrel
    obtain ⟨q, hq⟩ : ∃ q, q = unle ((l.drop a).take k) := ⟨_, rfl⟩
    have hql : q < 256 ^ k := by
      have h2 := unle_lt ((l.drop a).take k)
      have h3 : ((l.drop a).take k).length = k := by rw [List.length_take, List.length_drop, hs.len]; omega
      rw [h3] at h2
      rw [hq]; exact h2
    rw [← hq]
    by_cases hlt : k < wd
    · obtain ⟨ad, rfl, hcell⟩ := hs.atD (k := a + k) (by omega)
      obtain ⟨b, hb⟩ : ∃ b, b = l.getD (a + k) 0 := ⟨_, rfl⟩
      rw [← hb] at hcell
      have hbl := b.toNat_lt
      have HQ := Lib.hid hq
      have HB := Lib.hid hb
      have HL := Lib.hid hql
      clear hq hb hql
      go_wp2
      go_round
      case rel => exact ⟨k + 1, by omega, by go_num, by rw [or_up (by omega) HL.out hbl, unle_take_succ (by rw [hs.len]; omega), ← HQ.out, ← HB.out]⟩
      case measure => simp [intOf]; omega
    · have HQ := Lib.hid hq
      clear hq hql
      go_wp2
      go_ret2
      obtain rfl : k = wd := by omega
      rw [← HQ.out]
      exact ⟨rfl, rfl⟩

theorem bits_Get (A : Option Addr) (n c : Nat) (l : List UInt8) (a wd : Int) (w : World) (hs : Sl w A n c l) (ha : -9223372036854775808 ≤ a) (ha' : a ≤ 9223372036854775807) :
    Calls Try.prog 110 #[.slice A n c, .int .i64 a, .int .i64 wd] w fun e w' => e = .returned (.tuple #[.int .u64 (getN l a wd), .bool (getOk l a wd)]) ∧ w = w' := by
  have h63 := hs.n63
  have hl := hs.len
  by_cases hok : getOk l a wd = true
  · have hv : getN l a wd = unle ((l.drop a.toNat).take wd.toNat) := by unfold getN; rw [if_pos hok]
    have hok' := hok
    simp only [getOk, Bool.and_eq_true, decide_eq_true_eq] at hok'
    obtain ⟨m, rfl⟩ := Int.eq_ofNat_of_zero_le (by omega : 0 ≤ wd)
    obtain ⟨b, rfl⟩ := Int.eq_ofNat_of_zero_le (by omega : 0 ≤ a)
    rw [hv, hok]
    exact bits_Get_yes A n c l b m w hs (by omega) (by omega) (by omega)
  · have hf : getOk l a wd = false := by simpa using hok
    have hv : getN l a wd = 0 := by unfold getN; rw [if_neg hok]
    rw [hv, hf]
    simp only [getOk, Bool.and_eq_true, decide_eq_true_eq] at hok
    clear hv hf
    by_cases h1 : wd < 1
    · go_enter Try.func110, Try.ntmps110
      go_wp2
      go_ret2
      exact ⟨rfl, rfl⟩
    by_cases h2 : 8 < wd
    · go_enter Try.func110, Try.ntmps110
      go_wp2
      go_ret2
      exact ⟨rfl, rfl⟩
    by_cases h3 : a < 0
    · go_enter Try.func110, Try.ntmps110
      go_wp2
      go_ret2
      exact ⟨rfl, rfl⟩
    by_cases h4 : (n : Int) < a
    · go_enter Try.func110, Try.ntmps110
      go_wp2
      go_ret2
      exact ⟨rfl, rfl⟩
    have h5 : (n : Int) - a < wd := by omega
    clear hok
    go_enter Try.func110, Try.ntmps110
    go_wp2
    go_ret2
    exact ⟨rfl, rfl⟩

theorem ref_Get_yes (A : Option Addr) (n c : Nat) (l : List UInt8) (a wd : Nat) (w : World) (hs : Sl w A n c l) (h1 : 1 ≤ wd) (h8 : wd ≤ 8) (hn : a + wd ≤ n) :
    Calls Try.prog 95 #[.slice A n c, .int .i64 a, .int .i64 wd] w fun e w' => e = .returned (.tuple #[.int .u64 (unle ((l.drop a).take wd)), .bool true]) ∧ w = w' := by
  have h63 := hs.n63
  have hd : a ≤ n := by omega
  go_enter Try.func95, Try.ntmps95
  go_wp2
  go_loop [8, 9] (fun v i => ∃ k : Nat, k ≤ wd ∧ i = .int .i64 ((k : Int) - 1) ∧ v = .int .u64 (unle ((l.drop (a + k)).take (wd - k)))) (fun _ i => (intOf i + 1).toNat)
  case atStart => exact ⟨wd, by omega, rfl, by simp [unle]⟩
  case round =>
    obtain ⟨k, hk, rfl, rfl⟩ := hrel
    obtain ⟨q, hq⟩ : ∃ q, q = unle ((l.drop (a + k)).take (wd - k)) := ⟨_, rfl⟩
    have hql : q < 256 ^ (wd - k) := by
      have h2 := unle_lt ((l.drop (a + k)).take (wd - k))
      have h3 : ((l.drop (a + k)).take (wd - k)).length = wd - k := by rw [List.length_take, List.length_drop, hs.len]; omega
      rw [h3] at h2
      rw [hq]; exact h2
    rw [← hq]
    by_cases hlt : 1 ≤ k
    · obtain ⟨j, rfl⟩ : ∃ j, k = j + 1 := ⟨k - 1, by omega⟩
      obtain ⟨ad, rfl, hcell⟩ := hs.atD (k := a + j) (by omega)
      obtain ⟨b, hb⟩ : ∃ b, b = l.getD (a + j) 0 := ⟨_, rfl⟩
      rw [← hb] at hcell
      have hbl := b.toNat_lt
      have HQ := Lib.hid hq
      have HB := Lib.hid hb
      have HL := Lib.hid hql
      clear hq hb hql
      have ej : ((j + 1 : Nat) : Int) - 1 = (j : Int) := by omega
      rw [ej]
      clear ej
      go_wp2
      go_round
      case rel =>
        refine ⟨j, by omega, rfl, ?_⟩
        have hd2 : wd - j = (wd - (j + 1)) + 1 := by omega
        rw [or_down (by omega) HL.out hbl, hd2, unle_drop (by rw [hs.len]; omega), HQ.out, ← HB.out, Nat.add_assoc a j 1]
      case measure => simp [intOf]
    · obtain rfl : k = 0 := by omega
      have HQ := Lib.hid hq
      clear hq hql
      go_wp2
      go_ret2
      rw [HQ.out]
      exact ⟨rfl, rfl⟩

theorem ref_Get (A : Option Addr) (n c : Nat) (l : List UInt8) (a wd : Int) (w : World) (hs : Sl w A n c l) (ha : -9223372036854775808 ≤ a) (ha' : a ≤ 9223372036854775807) :
    Calls Try.prog 95 #[.slice A n c, .int .i64 a, .int .i64 wd] w fun e w' => e = .returned (.tuple #[.int .u64 (getN l a wd), .bool (getOk l a wd)]) ∧ w = w' := by
  have h63 := hs.n63
  have hl := hs.len
  by_cases hok : getOk l a wd = true
  · have hv : getN l a wd = unle ((l.drop a.toNat).take wd.toNat) := by unfold getN; rw [if_pos hok]
    have hok' := hok
    simp only [getOk, Bool.and_eq_true, decide_eq_true_eq] at hok'
    obtain ⟨m, rfl⟩ := Int.eq_ofNat_of_zero_le (by omega : 0 ≤ wd)
    obtain ⟨b, rfl⟩ := Int.eq_ofNat_of_zero_le (by omega : 0 ≤ a)
    rw [hv, hok]
    exact ref_Get_yes A n c l b m w hs (by omega) (by omega) (by omega)
  · have hf : getOk l a wd = false := by simpa using hok
    have hv : getN l a wd = 0 := by unfold getN; rw [if_neg hok]
    rw [hv, hf]
    simp only [getOk, Bool.and_eq_true, decide_eq_true_eq] at hok
    clear hv hf
    by_cases h1 : wd < 1
    · go_enter Try.func95, Try.ntmps95
      go_wp2
      go_ret2
      exact ⟨rfl, rfl⟩
    by_cases h2 : 8 < wd
    · go_enter Try.func95, Try.ntmps95
      go_wp2
      go_ret2
      exact ⟨rfl, rfl⟩
    by_cases h3 : a < 0
    · go_enter Try.func95, Try.ntmps95
      go_wp2
      go_ret2
      exact ⟨rfl, rfl⟩
    by_cases h4 : (n : Int) < a
    · go_enter Try.func95, Try.ntmps95
      go_wp2
      go_ret2
      exact ⟨rfl, rfl⟩
    have h5 : (n : Int) - a < wd := by omega
    clear hok
    go_enter Try.func95, Try.ntmps95
    go_wp2
    go_ret2
    exact ⟨rfl, rfl⟩
end Go.Proofs.Ytoeknbogaclfdaa
