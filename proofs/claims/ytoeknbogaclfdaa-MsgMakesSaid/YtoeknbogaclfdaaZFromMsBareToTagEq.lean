/-
  Messages: contract of the program's bare.
-/
/-
  Chains alike: contracts of slices.Equal of tags and of the program's Same.
-/
import Derived.Test.YtoeknbogaclfdaaZFromTagSameToTagRight
import Derived.RegionTactic
import Derived.BigRegion
namespace Go.Proofs.Ytoeknbogaclfdaa
open Go.RowKit
set_option linter.unusedVariables false
set_option linter.unusedSimpArgs false
set_option linter.unnecessarySimpa false
set_option maxRecDepth 100000
set_option maxHeartbeats 4000000 in
theorem msg_bare1 {n p e s q : Int} {ch : List Tg} {en : List En} {mk : List Mk} {da : List UInt8} {A1 : Option Addr} {An1 Ac1 : Nat} {A2 : Option Addr} {An2 Ac2 : Nat} {A3 : Option Addr} {An3 Ac3 : Nat} {A4 : Option Addr} {An4 Ac4 : Nat} {w : World} (h : MsR w ⟨1, n, p, e, s, q, ch, en, mk, da⟩ A1 An1 Ac1 A2 An2 Ac2 A3 An3 Ac3 A4 An4 Ac4) :
    Calls Try.prog 69 #[msV ⟨1, n, p, e, s, q, ch, en, mk, da⟩ A1 An1 Ac1 A2 An2 Ac2 A3 An3 Ac3 A4 An4 Ac4] w fun e' w' => ∃ B1 Bn1 Bc1 B2 Bn2 Bc2 B3 Bn3 Bc3 B4 Bn4 Bc4, e' = .returned (.tuple #[msV ⟨1, n, p, e, 0, 0, [], [], [], []⟩ B1 Bn1 Bc1 B2 Bn2 Bc2 B3 Bn3 Bc3 B4 Bn4 Bc4, .bool true]) ∧ MsR w' ⟨1, n, p, e, 0, 0, [], [], [], []⟩ B1 Bn1 Bc1 B2 Bn2 Bc2 B3 Bn3 Bc3 B4 Bn4 Bc4 ∧ Ext w w' := by
  go_enter Try.func69, Try.ntmps69
  go_wp2_with fail
  go_region
  go_wp2_with fail
  refine bodyPost_ret (v := .tuple #[msV ⟨1, n, p, e, 0, 0, [], [], [], []⟩ none 0 0 none 0 0 none 0 0 none 0 0, .bool true]) ?hres rfl ⟨_, _, _, _, _, _, _, _, _, _, _, _, rfl, ?hm, ?hxx⟩
  case hres => simp [results, Try.results69, go_sem]
  case hxx => (repeat (first | (with_reducible exact Ext.refl _) | (with_reducible assumption) | (with_reducible refine Ext.draws ?_) | (with_reducible refine Ext.allocs ?_ _) | (with_reducible refine Ext.sets ?_ ?_ _) | (with_reducible exact Nat.le_refl _) | (exact (by simp)) | (exact (by simp; omega))))
  case hm => exact ⟨Lst.nil _, Lst.nil _, Lst.nil _, Sl.nil _⟩
set_option maxHeartbeats 4000000 in
theorem msg_bare2 {n p e s q : Int} {ch : List Tg} {en : List En} {mk : List Mk} {da : List UInt8} {A1 : Option Addr} {An1 Ac1 : Nat} {A2 : Option Addr} {An2 Ac2 : Nat} {A3 : Option Addr} {An3 Ac3 : Nat} {A4 : Option Addr} {An4 Ac4 : Nat} {w : World} (h : MsR w ⟨2, n, p, e, s, q, ch, en, mk, da⟩ A1 An1 Ac1 A2 An2 Ac2 A3 An3 Ac3 A4 An4 Ac4) :
    Calls Try.prog 69 #[msV ⟨2, n, p, e, s, q, ch, en, mk, da⟩ A1 An1 Ac1 A2 An2 Ac2 A3 An3 Ac3 A4 An4 Ac4] w fun e' w' => ∃ B1 Bn1 Bc1 B2 Bn2 Bc2 B3 Bn3 Bc3 B4 Bn4 Bc4, e' = .returned (.tuple #[msV ⟨2, n, p, e, 0, 0, ch, en, [], []⟩ B1 Bn1 Bc1 B2 Bn2 Bc2 B3 Bn3 Bc3 B4 Bn4 Bc4, .bool true]) ∧ MsR w' ⟨2, n, p, e, 0, 0, ch, en, [], []⟩ B1 Bn1 Bc1 B2 Bn2 Bc2 B3 Bn3 Bc3 B4 Bn4 Bc4 ∧ Ext w w' := by
  go_enter Try.func69, Try.ntmps69
  go_wp2_with fail
  go_region
  go_wp2_with fail
  refine bodyPost_ret (v := .tuple #[msV ⟨2, n, p, e, 0, 0, ch, en, [], []⟩ A1 An1 Ac1 A2 An2 Ac2 none 0 0 none 0 0, .bool true]) ?hres rfl ⟨_, _, _, _, _, _, _, _, _, _, _, _, rfl, ?hm, ?hxx⟩
  case hres => simp [results, Try.results69, go_sem]
  case hxx => (repeat (first | (with_reducible exact Ext.refl _) | (with_reducible assumption) | (with_reducible refine Ext.draws ?_) | (with_reducible refine Ext.allocs ?_ _) | (with_reducible refine Ext.sets ?_ ?_ _) | (with_reducible exact Nat.le_refl _) | (exact (by simp)) | (exact (by simp; omega))))
  case hm => exact ⟨h.ch.ext tg_rep (by (repeat (first | (with_reducible exact Ext.refl _) | (with_reducible assumption) | (with_reducible refine Ext.draws ?_) | (with_reducible refine Ext.allocs ?_ _) | (with_reducible refine Ext.sets ?_ ?_ _) | (with_reducible exact Nat.le_refl _) | (exact (by simp)) | (exact (by simp; omega))))), h.en.ext en_rep (by (repeat (first | (with_reducible exact Ext.refl _) | (with_reducible assumption) | (with_reducible refine Ext.draws ?_) | (with_reducible refine Ext.allocs ?_ _) | (with_reducible refine Ext.sets ?_ ?_ _) | (with_reducible exact Nat.le_refl _) | (exact (by simp)) | (exact (by simp; omega))))), Lst.nil _, Sl.nil _⟩
set_option maxHeartbeats 4000000 in
theorem msg_bare3 {n p e s q : Int} {ch : List Tg} {en : List En} {mk : List Mk} {da : List UInt8} {A1 : Option Addr} {An1 Ac1 : Nat} {A2 : Option Addr} {An2 Ac2 : Nat} {A3 : Option Addr} {An3 Ac3 : Nat} {A4 : Option Addr} {An4 Ac4 : Nat} {w : World} (h : MsR w ⟨3, n, p, e, s, q, ch, en, mk, da⟩ A1 An1 Ac1 A2 An2 Ac2 A3 An3 Ac3 A4 An4 Ac4) :
    Calls Try.prog 69 #[msV ⟨3, n, p, e, s, q, ch, en, mk, da⟩ A1 An1 Ac1 A2 An2 Ac2 A3 An3 Ac3 A4 An4 Ac4] w fun e' w' => ∃ B1 Bn1 Bc1 B2 Bn2 Bc2 B3 Bn3 Bc3 B4 Bn4 Bc4, e' = .returned (.tuple #[msV ⟨3, n, 0, 0, 0, 0, [], [], [], []⟩ B1 Bn1 Bc1 B2 Bn2 Bc2 B3 Bn3 Bc3 B4 Bn4 Bc4, .bool true]) ∧ MsR w' ⟨3, n, 0, 0, 0, 0, [], [], [], []⟩ B1 Bn1 Bc1 B2 Bn2 Bc2 B3 Bn3 Bc3 B4 Bn4 Bc4 ∧ Ext w w' := by
  go_enter Try.func69, Try.ntmps69
  go_wp2_with fail
  refine bodyPost_ret (v := .tuple #[msV ⟨3, n, 0, 0, 0, 0, [], [], [], []⟩ none 0 0 none 0 0 none 0 0 none 0 0, .bool true]) ?hres rfl ⟨_, _, _, _, _, _, _, _, _, _, _, _, rfl, ?hm, ?hxx⟩
  case hres => simp [results, Try.results69, go_sem]
  case hxx => (repeat (first | (with_reducible exact Ext.refl _) | (with_reducible assumption) | (with_reducible refine Ext.draws ?_) | (with_reducible refine Ext.allocs ?_ _) | (with_reducible refine Ext.sets ?_ ?_ _) | (with_reducible exact Nat.le_refl _) | (exact (by simp)) | (exact (by simp; omega))))
  case hm => exact ⟨Lst.nil _, Lst.nil _, Lst.nil _, Sl.nil _⟩
set_option maxHeartbeats 4000000 in
theorem msg_bare4 {n p e s q : Int} {ch : List Tg} {en : List En} {mk : List Mk} {da : List UInt8} {A1 : Option Addr} {An1 Ac1 : Nat} {A2 : Option Addr} {An2 Ac2 : Nat} {A3 : Option Addr} {An3 Ac3 : Nat} {A4 : Option Addr} {An4 Ac4 : Nat} {w : World} (h : MsR w ⟨4, n, p, e, s, q, ch, en, mk, da⟩ A1 An1 Ac1 A2 An2 Ac2 A3 An3 Ac3 A4 An4 Ac4) :
    Calls Try.prog 69 #[msV ⟨4, n, p, e, s, q, ch, en, mk, da⟩ A1 An1 Ac1 A2 An2 Ac2 A3 An3 Ac3 A4 An4 Ac4] w fun e' w' => ∃ B1 Bn1 Bc1 B2 Bn2 Bc2 B3 Bn3 Bc3 B4 Bn4 Bc4, e' = .returned (.tuple #[msV ⟨4, n, p, 0, 0, 0, ch, [], mk, []⟩ B1 Bn1 Bc1 B2 Bn2 Bc2 B3 Bn3 Bc3 B4 Bn4 Bc4, .bool true]) ∧ MsR w' ⟨4, n, p, 0, 0, 0, ch, [], mk, []⟩ B1 Bn1 Bc1 B2 Bn2 Bc2 B3 Bn3 Bc3 B4 Bn4 Bc4 ∧ Ext w w' := by
  go_enter Try.func69, Try.ntmps69
  go_wp2_with fail
  go_region
  go_wp2_with fail
  refine bodyPost_ret (v := .tuple #[msV ⟨4, n, p, 0, 0, 0, ch, [], mk, []⟩ A1 An1 Ac1 none 0 0 A3 An3 Ac3 none 0 0, .bool true]) ?hres rfl ⟨_, _, _, _, _, _, _, _, _, _, _, _, rfl, ?hm, ?hxx⟩
  case hres => simp [results, Try.results69, go_sem]
  case hxx => (repeat (first | (with_reducible exact Ext.refl _) | (with_reducible assumption) | (with_reducible refine Ext.draws ?_) | (with_reducible refine Ext.allocs ?_ _) | (with_reducible refine Ext.sets ?_ ?_ _) | (with_reducible exact Nat.le_refl _) | (exact (by simp)) | (exact (by simp; omega))))
  case hm => exact ⟨h.ch.ext tg_rep (by (repeat (first | (with_reducible exact Ext.refl _) | (with_reducible assumption) | (with_reducible refine Ext.draws ?_) | (with_reducible refine Ext.allocs ?_ _) | (with_reducible refine Ext.sets ?_ ?_ _) | (with_reducible exact Nat.le_refl _) | (exact (by simp)) | (exact (by simp; omega))))), Lst.nil _, h.ms.ext mk_rep (by (repeat (first | (with_reducible exact Ext.refl _) | (with_reducible assumption) | (with_reducible refine Ext.draws ?_) | (with_reducible refine Ext.allocs ?_ _) | (with_reducible refine Ext.sets ?_ ?_ _) | (with_reducible exact Nat.le_refl _) | (exact (by simp)) | (exact (by simp; omega))))), Sl.nil _⟩
set_option maxHeartbeats 4000000 in
theorem msg_bare5 {n p e s q : Int} {ch : List Tg} {en : List En} {mk : List Mk} {da : List UInt8} {A1 : Option Addr} {An1 Ac1 : Nat} {A2 : Option Addr} {An2 Ac2 : Nat} {A3 : Option Addr} {An3 Ac3 : Nat} {A4 : Option Addr} {An4 Ac4 : Nat} {w : World} (h : MsR w ⟨5, n, p, e, s, q, ch, en, mk, da⟩ A1 An1 Ac1 A2 An2 Ac2 A3 An3 Ac3 A4 An4 Ac4) :
    Calls Try.prog 69 #[msV ⟨5, n, p, e, s, q, ch, en, mk, da⟩ A1 An1 Ac1 A2 An2 Ac2 A3 An3 Ac3 A4 An4 Ac4] w fun e' w' => ∃ B1 Bn1 Bc1 B2 Bn2 Bc2 B3 Bn3 Bc3 B4 Bn4 Bc4, e' = .returned (.tuple #[msV ⟨5, n, 0, 0, s, q, [], [], [], []⟩ B1 Bn1 Bc1 B2 Bn2 Bc2 B3 Bn3 Bc3 B4 Bn4 Bc4, .bool true]) ∧ MsR w' ⟨5, n, 0, 0, s, q, [], [], [], []⟩ B1 Bn1 Bc1 B2 Bn2 Bc2 B3 Bn3 Bc3 B4 Bn4 Bc4 ∧ Ext w w' := by
  go_enter Try.func69, Try.ntmps69
  go_wp2_with fail
  go_region
  go_wp2_with fail
  refine bodyPost_ret (v := .tuple #[msV ⟨5, n, 0, 0, s, q, [], [], [], []⟩ none 0 0 none 0 0 none 0 0 none 0 0, .bool true]) ?hres rfl ⟨_, _, _, _, _, _, _, _, _, _, _, _, rfl, ?hm, ?hxx⟩
  case hres => simp [results, Try.results69, go_sem]
  case hxx => (repeat (first | (with_reducible exact Ext.refl _) | (with_reducible assumption) | (with_reducible refine Ext.draws ?_) | (with_reducible refine Ext.allocs ?_ _) | (with_reducible refine Ext.sets ?_ ?_ _) | (with_reducible exact Nat.le_refl _) | (exact (by simp)) | (exact (by simp; omega))))
  case hm => exact ⟨Lst.nil _, Lst.nil _, Lst.nil _, Sl.nil _⟩
set_option maxHeartbeats 4000000 in
theorem msg_bare6 {n p e s q : Int} {ch : List Tg} {en : List En} {mk : List Mk} {da : List UInt8} {A1 : Option Addr} {An1 Ac1 : Nat} {A2 : Option Addr} {An2 Ac2 : Nat} {A3 : Option Addr} {An3 Ac3 : Nat} {A4 : Option Addr} {An4 Ac4 : Nat} {w : World} (h : MsR w ⟨6, n, p, e, s, q, ch, en, mk, da⟩ A1 An1 Ac1 A2 An2 Ac2 A3 An3 Ac3 A4 An4 Ac4) :
    Calls Try.prog 69 #[msV ⟨6, n, p, e, s, q, ch, en, mk, da⟩ A1 An1 Ac1 A2 An2 Ac2 A3 An3 Ac3 A4 An4 Ac4] w fun e' w' => ∃ B1 Bn1 Bc1 B2 Bn2 Bc2 B3 Bn3 Bc3 B4 Bn4 Bc4, e' = .returned (.tuple #[msV ⟨6, n, 0, 0, s, q, [], [], [], da⟩ B1 Bn1 Bc1 B2 Bn2 Bc2 B3 Bn3 Bc3 B4 Bn4 Bc4, .bool true]) ∧ MsR w' ⟨6, n, 0, 0, s, q, [], [], [], da⟩ B1 Bn1 Bc1 B2 Bn2 Bc2 B3 Bn3 Bc3 B4 Bn4 Bc4 ∧ Ext w w' := by
  go_enter Try.func69, Try.ntmps69
  go_wp2_with fail
  go_region
  go_wp2_with fail
  refine bodyPost_ret (v := .tuple #[msV ⟨6, n, 0, 0, s, q, [], [], [], da⟩ none 0 0 none 0 0 none 0 0 A4 An4 Ac4, .bool true]) ?hres rfl ⟨_, _, _, _, _, _, _, _, _, _, _, _, rfl, ?hm, ?hxx⟩
  case hres => simp [results, Try.results69, go_sem]
  case hxx => (repeat (first | (with_reducible exact Ext.refl _) | (with_reducible assumption) | (with_reducible refine Ext.draws ?_) | (with_reducible refine Ext.allocs ?_ _) | (with_reducible refine Ext.sets ?_ ?_ _) | (with_reducible exact Nat.le_refl _) | (exact (by simp)) | (exact (by simp; omega))))
  case hm => exact ⟨Lst.nil _, Lst.nil _, Lst.nil _, h.da.ext (by (repeat (first | (with_reducible exact Ext.refl _) | (with_reducible assumption) | (with_reducible refine Ext.draws ?_) | (with_reducible refine Ext.allocs ?_ _) | (with_reducible refine Ext.sets ?_ ?_ _) | (with_reducible exact Nat.le_refl _) | (exact (by simp)) | (exact (by simp; omega)))))⟩
set_option maxHeartbeats 4000000 in
theorem msg_bare7 {n p e s q : Int} {ch : List Tg} {en : List En} {mk : List Mk} {da : List UInt8} {A1 : Option Addr} {An1 Ac1 : Nat} {A2 : Option Addr} {An2 Ac2 : Nat} {A3 : Option Addr} {An3 Ac3 : Nat} {A4 : Option Addr} {An4 Ac4 : Nat} {w : World} (h : MsR w ⟨7, n, p, e, s, q, ch, en, mk, da⟩ A1 An1 Ac1 A2 An2 Ac2 A3 An3 Ac3 A4 An4 Ac4) :
    Calls Try.prog 69 #[msV ⟨7, n, p, e, s, q, ch, en, mk, da⟩ A1 An1 Ac1 A2 An2 Ac2 A3 An3 Ac3 A4 An4 Ac4] w fun e' w' => ∃ B1 Bn1 Bc1 B2 Bn2 Bc2 B3 Bn3 Bc3 B4 Bn4 Bc4, e' = .returned (.tuple #[msV ⟨7, n, 0, 0, 0, 0, [], [], [], []⟩ B1 Bn1 Bc1 B2 Bn2 Bc2 B3 Bn3 Bc3 B4 Bn4 Bc4, .bool true]) ∧ MsR w' ⟨7, n, 0, 0, 0, 0, [], [], [], []⟩ B1 Bn1 Bc1 B2 Bn2 Bc2 B3 Bn3 Bc3 B4 Bn4 Bc4 ∧ Ext w w' := by
  go_enter Try.func69, Try.ntmps69
  go_wp2_with fail
  refine bodyPost_ret (v := .tuple #[msV ⟨7, n, 0, 0, 0, 0, [], [], [], []⟩ none 0 0 none 0 0 none 0 0 none 0 0, .bool true]) ?hres rfl ⟨_, _, _, _, _, _, _, _, _, _, _, _, rfl, ?hm, ?hxx⟩
  case hres => simp [results, Try.results69, go_sem]
  case hxx => (repeat (first | (with_reducible exact Ext.refl _) | (with_reducible assumption) | (with_reducible refine Ext.draws ?_) | (with_reducible refine Ext.allocs ?_ _) | (with_reducible refine Ext.sets ?_ ?_ _) | (with_reducible exact Nat.le_refl _) | (exact (by simp)) | (exact (by simp; omega))))
  case hm => exact ⟨Lst.nil _, Lst.nil _, Lst.nil _, Sl.nil _⟩
set_option maxHeartbeats 4000000 in
theorem msg_bare8 {n p e s q : Int} {ch : List Tg} {en : List En} {mk : List Mk} {da : List UInt8} {A1 : Option Addr} {An1 Ac1 : Nat} {A2 : Option Addr} {An2 Ac2 : Nat} {A3 : Option Addr} {An3 Ac3 : Nat} {A4 : Option Addr} {An4 Ac4 : Nat} {w : World} (h : MsR w ⟨8, n, p, e, s, q, ch, en, mk, da⟩ A1 An1 Ac1 A2 An2 Ac2 A3 An3 Ac3 A4 An4 Ac4) :
    Calls Try.prog 69 #[msV ⟨8, n, p, e, s, q, ch, en, mk, da⟩ A1 An1 Ac1 A2 An2 Ac2 A3 An3 Ac3 A4 An4 Ac4] w fun e' w' => ∃ B1 Bn1 Bc1 B2 Bn2 Bc2 B3 Bn3 Bc3 B4 Bn4 Bc4, e' = .returned (.tuple #[msV ⟨8, n, 0, 0, 0, 0, [], [], [], []⟩ B1 Bn1 Bc1 B2 Bn2 Bc2 B3 Bn3 Bc3 B4 Bn4 Bc4, .bool true]) ∧ MsR w' ⟨8, n, 0, 0, 0, 0, [], [], [], []⟩ B1 Bn1 Bc1 B2 Bn2 Bc2 B3 Bn3 Bc3 B4 Bn4 Bc4 ∧ Ext w w' := by
  go_enter Try.func69, Try.ntmps69
  go_wp2_with fail
  refine bodyPost_ret (v := .tuple #[msV ⟨8, n, 0, 0, 0, 0, [], [], [], []⟩ none 0 0 none 0 0 none 0 0 none 0 0, .bool true]) ?hres rfl ⟨_, _, _, _, _, _, _, _, _, _, _, _, rfl, ?hm, ?hxx⟩
  case hres => simp [results, Try.results69, go_sem]
  case hxx => (repeat (first | (with_reducible exact Ext.refl _) | (with_reducible assumption) | (with_reducible refine Ext.draws ?_) | (with_reducible refine Ext.allocs ?_ _) | (with_reducible refine Ext.sets ?_ ?_ _) | (with_reducible exact Nat.le_refl _) | (exact (by simp)) | (exact (by simp; omega))))
  case hm => exact ⟨Lst.nil _, Lst.nil _, Lst.nil _, Sl.nil _⟩
set_option maxHeartbeats 4000000 in
theorem msg_bare9 {n p e s q : Int} {ch : List Tg} {en : List En} {mk : List Mk} {da : List UInt8} {A1 : Option Addr} {An1 Ac1 : Nat} {A2 : Option Addr} {An2 Ac2 : Nat} {A3 : Option Addr} {An3 Ac3 : Nat} {A4 : Option Addr} {An4 Ac4 : Nat} {w : World} (h : MsR w ⟨9, n, p, e, s, q, ch, en, mk, da⟩ A1 An1 Ac1 A2 An2 Ac2 A3 An3 Ac3 A4 An4 Ac4) :
    Calls Try.prog 69 #[msV ⟨9, n, p, e, s, q, ch, en, mk, da⟩ A1 An1 Ac1 A2 An2 Ac2 A3 An3 Ac3 A4 An4 Ac4] w fun e' w' => ∃ B1 Bn1 Bc1 B2 Bn2 Bc2 B3 Bn3 Bc3 B4 Bn4 Bc4, e' = .returned (.tuple #[msV ⟨9, n, 0, 0, 0, q, [], [], [], []⟩ B1 Bn1 Bc1 B2 Bn2 Bc2 B3 Bn3 Bc3 B4 Bn4 Bc4, .bool true]) ∧ MsR w' ⟨9, n, 0, 0, 0, q, [], [], [], []⟩ B1 Bn1 Bc1 B2 Bn2 Bc2 B3 Bn3 Bc3 B4 Bn4 Bc4 ∧ Ext w w' := by
  go_enter Try.func69, Try.ntmps69
  go_wp2_with fail
  refine bodyPost_ret (v := .tuple #[msV ⟨9, n, 0, 0, 0, q, [], [], [], []⟩ none 0 0 none 0 0 none 0 0 none 0 0, .bool true]) ?hres rfl ⟨_, _, _, _, _, _, _, _, _, _, _, _, rfl, ?hm, ?hxx⟩
  case hres => simp [results, Try.results69, go_sem]
  case hxx => (repeat (first | (with_reducible exact Ext.refl _) | (with_reducible assumption) | (with_reducible refine Ext.draws ?_) | (with_reducible refine Ext.allocs ?_ _) | (with_reducible refine Ext.sets ?_ ?_ _) | (with_reducible exact Nat.le_refl _) | (exact (by simp)) | (exact (by simp; omega))))
  case hm => exact ⟨Lst.nil _, Lst.nil _, Lst.nil _, Sl.nil _⟩
set_option maxHeartbeats 4000000 in
theorem msg_bare10 {k : Int} {n p e s q : Int} {ch : List Tg} {en : List En} {mk : List Mk} {da : List UInt8} {A1 : Option Addr} {An1 Ac1 : Nat} {A2 : Option Addr} {An2 Ac2 : Nat} {A3 : Option Addr} {An3 Ac3 : Nat} {A4 : Option Addr} {An4 Ac4 : Nat} {w : World} (h : MsR w ⟨k, n, p, e, s, q, ch, en, mk, da⟩ A1 An1 Ac1 A2 An2 Ac2 A3 An3 Ac3 A4 An4 Ac4) (hk : Hid (¬ (1 ≤ k ∧ k ≤ 9))) :
    Calls Try.prog 69 #[msV ⟨k, n, p, e, s, q, ch, en, mk, da⟩ A1 An1 Ac1 A2 An2 Ac2 A3 An3 Ac3 A4 An4 Ac4] w fun e' w' => ∃ B1 Bn1 Bc1 B2 Bn2 Bc2 B3 Bn3 Bc3 B4 Bn4 Bc4, e' = .returned (.tuple #[msV ⟨k, n, 0, 0, 0, 0, [], [], [], []⟩ B1 Bn1 Bc1 B2 Bn2 Bc2 B3 Bn3 Bc3 B4 Bn4 Bc4, .bool false]) ∧ MsR w' ⟨k, n, 0, 0, 0, 0, [], [], [], []⟩ B1 Bn1 Bc1 B2 Bn2 Bc2 B3 Bn3 Bc3 B4 Bn4 Bc4 ∧ Ext w w' := by
  have d1 : (k == 1) = false := by have := hk.out; simp; omega
  have d2 : (k == 2) = false := by have := hk.out; simp; omega
  have d3 : (k == 3) = false := by have := hk.out; simp; omega
  have d4 : (k == 4) = false := by have := hk.out; simp; omega
  have d5 : (k == 5) = false := by have := hk.out; simp; omega
  have d6 : (k == 6) = false := by have := hk.out; simp; omega
  have d7 : (k == 7) = false := by have := hk.out; simp; omega
  have d8 : (k == 8) = false := by have := hk.out; simp; omega
  have d9 : (k == 9) = false := by have := hk.out; simp; omega
  clear hk
  go_enter Try.func69, Try.ntmps69
  go_wp2_with fail
  refine bodyPost_ret (v := .tuple #[msV ⟨k, n, 0, 0, 0, 0, [], [], [], []⟩ none 0 0 none 0 0 none 0 0 none 0 0, .bool false]) ?hres rfl ⟨_, _, _, _, _, _, _, _, _, _, _, _, rfl, ?hm, ?hxx⟩
  case hres => simp [results, Try.results69, go_sem]
  case hxx => (repeat (first | (with_reducible exact Ext.refl _) | (with_reducible assumption) | (with_reducible refine Ext.draws ?_) | (with_reducible refine Ext.allocs ?_ _) | (with_reducible refine Ext.sets ?_ ?_ _) | (with_reducible exact Nat.le_refl _) | (exact (by simp)) | (exact (by simp; omega))))
  case hm => exact ⟨Lst.nil _, Lst.nil _, Lst.nil _, Sl.nil _⟩
theorem msg_bare {m : Ms} {A1 : Option Addr} {An1 Ac1 : Nat} {A2 : Option Addr} {An2 Ac2 : Nat} {A3 : Option Addr} {An3 Ac3 : Nat} {A4 : Option Addr} {An4 Ac4 : Nat} {w : World} (h : MsR w m A1 An1 Ac1 A2 An2 Ac2 A3 An3 Ac3 A4 An4 Ac4) {x : Ms} (hx : Hid (bareM m = x)) {b : Bool} (hb : Hid (decide (1 ≤ m.kind ∧ m.kind ≤ 9) = b)) :
    Calls Try.prog 69 #[msV m A1 An1 Ac1 A2 An2 Ac2 A3 An3 Ac3 A4 An4 Ac4] w fun e w' => ∃ B1 Bn1 Bc1 B2 Bn2 Bc2 B3 Bn3 Bc3 B4 Bn4 Bc4, e = .returned (.tuple #[msV x B1 Bn1 Bc1 B2 Bn2 Bc2 B3 Bn3 Bc3 B4 Bn4 Bc4, .bool b]) ∧ MsR w' x B1 Bn1 Bc1 B2 Bn2 Bc2 B3 Bn3 Bc3 B4 Bn4 Bc4 ∧ Ext w w' := by
  obtain ⟨k, n, p, e, s, q, ch, en, mk, da⟩ := m
  have hx1 := hx.out
  have hb1 := hb.out
  unfold bareM at hx1
  simp only at hx1 hb1
  have hk : k = 1 ∨ k = 2 ∨ k = 3 ∨ k = 4 ∨ k = 5 ∨ k = 6 ∨ k = 7 ∨ k = 8 ∨ k = 9 ∨ ¬ (1 ≤ k ∧ k ≤ 9) := by omega
  rcases hk with rfl | rfl | rfl | rfl | rfl | rfl | rfl | rfl | rfl | hk
  · subst hx1 hb1; exact msg_bare1 h
  · subst hx1 hb1; exact msg_bare2 h
  · subst hx1 hb1; exact msg_bare3 h
  · subst hx1 hb1; exact msg_bare4 h
  · subst hx1 hb1; exact msg_bare5 h
  · subst hx1 hb1; exact msg_bare6 h
  · subst hx1 hb1; exact msg_bare7 h
  · subst hx1 hb1; exact msg_bare8 h
  · subst hx1 hb1; exact msg_bare9 h
  · obtain rfl : false = b := by rw [← hb1, decide_eq_false hk]
    have c1 : ¬ (k = 1 ∨ k = 2 ∨ k = 4) := by omega
    have c2 : ¬ (k = 1 ∨ k = 2) := by omega
    have c3 : ¬ (k = 5 ∨ k = 6) := by omega
    have c4 : ¬ (k = 5 ∨ k = 6 ∨ k = 9) := by omega
    have c5 : ¬ (k = 2 ∨ k = 4) := by omega
    have c6 : ¬ k = 2 := by omega
    have c7 : ¬ k = 4 := by omega
    have c8 : ¬ k = 6 := by omega
    rw [if_neg c1, if_neg c2, if_neg c3, if_neg c4, if_neg c5, if_neg c6, if_neg c7, if_neg c8] at hx1
    subst hx1
    exact msg_bare10 h hk
end Go.Proofs.Ytoeknbogaclfdaa

namespace Go.Proofs.Ytoeknbogaclfdaa
open Go.RowKit
set_option linter.unusedVariables false
set_option linter.unusedSimpArgs false
set_option linter.unnecessarySimpa false
set_option maxRecDepth 100000
set_option maxHeartbeats 1000000 in
theorem equal_tags {A : Option Addr} {n c : Nat} {xs : List Tg} {A' : Option Addr} {n' c' : Nat} {ys : List Tg} {w : World} (l1 : Lst 4 tgR w A n c xs) (l2 : Lst 4 tgR w A' n' c' ys) {b : Bool} (hb : Hid (sameT xs ys = b)) :
    Calls Try.prog 76 #[.slice A n c, .slice A' n' c'] w fun e w' => e = .returned (.bool b) ∧ Ext w w' := by
  have h63 := l1.n63
  have h63' := l2.n63
  by_cases hn : n = n'
  case neg =>
    have hne : b = false := by
      rw [← hb.out]
      unfold sameT
      rw [decide_eq_false_iff_not]
      rintro rfl
      exact hn (l1.len.symm.trans l2.len)
    subst hne
    have hnn : ((n : Int) != (n' : Int)) = true := by simp; omega
    clear hn hb
    go_enter Try.func76, Try.ntmps76
    go_wp2_with fail
    go_ret
    exact ⟨rfl, Ext.refl _⟩
  subst hn
  go_enter Try.func76, Try.ntmps76
  go_wp2_with fail
  go_loopw [13] (fun i wr => ∃ k : Nat, k ≤ n ∧ i = .int .i64 k ∧ Hid (xs.take k = ys.take k) ∧ Ext w wr) (fun i _ => n - (intOf i).toNat)
  case atStart => exact ⟨0, by omega, rfl, rfl, Ext.refl _⟩
  case round =>
    obtain ⟨k, hk, rfl, hrk, hxr⟩ := hrel
    by_cases hlt : k < n
    · obtain ⟨ga, oa, x, cs, rfl, hx, rfl, ha⟩ := l1.at2 tg_rep (by omega) hlt
      obtain ⟨gb, ob, y, ds, rfl, hy, rfl, hd⟩ := l2.at2 tg_rep (by omega) hlt
      have a0 : wr.cell? ⟨ga, oa + k * 4, none⟩ = _ := hxr.cell (ha 0 _ rfl)
      have a1 := hxr.cell (ha 1 _ rfl)
      have a2 := hxr.cell (ha 2 _ rfl)
      have a3 := hxr.cell (ha 3 _ rfl)
      have b0 : wr.cell? ⟨gb, ob + k * 4, none⟩ = _ := hxr.cell (hd 0 _ rfl)
      have b1 := hxr.cell (hd 1 _ rfl)
      have b2 := hxr.cell (hd 2 _ rfl)
      have b3 := hxr.cell (hd 3 _ rfl)
      clear ha hd
      by_cases e : x = y
      · subst e
        have hn := Lib.hid (takeT_next hrk.out hx hy)
        obtain ⟨x1, x2, x3, x4⟩ := x
        clear hx hy hrk
        go_wp2_with fail
        refine wp_region_typed Ext.steady rfl 26 rfl (by kernel_rfl) ?_
        apply Stage.step (Is _) [] (Is.keeps _) (by kernel_rfl)
        · intro w1 h1
          simp only [Given]
          go_wp2_with fail
          exact Post.isv (Ext.refl _) rfl rfl rfl
        apply Stage.step (Is _) [] (Is.keeps _) (by kernel_rfl)
        · intro w1 h1
          simp only [Given]
          go_wp2_with fail
          exact Post.isv (Ext.refl _) rfl rfl rfl
        apply Stage.step (Is _) [true, true] (Is.keeps _) (by kernel_rfl)
        · intro w1 h1
          simp only [List.nil_append, List.cons_append, Given]
          rintro _ rfl
          rintro _ rfl
          go_wp2_with fail
          exact Post.isv (Ext.refl _) rfl rfl rfl
        apply Stage.step (Is _) [false, false, true] (Is.keeps _) (by kernel_rfl)
        · intro w1 h1
          simp only [List.nil_append, List.cons_append, Given]
          rintro _ rfl
          have q0 := h1.cell a0
          have q1 := h1.cell a1
          have q2 := h1.cell a2
          have q3 := h1.cell a3
          go_wp2_with fail
          exact Post.isv (Ext.refl _) rfl rfl rfl
        apply Stage.step (Is _) [] (Is.keeps _) (by kernel_rfl)
        · intro w1 h1
          simp only [Given]
          go_wp2_with fail
          exact Post.isv (Ext.refl _) rfl rfl rfl
        apply Stage.step (Is _) [] (Is.keeps _) (by kernel_rfl)
        · intro w1 h1
          simp only [Given]
          go_wp2_with fail
          exact Post.isv (Ext.refl _) rfl rfl rfl
        apply Stage.step (Is _) [false, false, false, false, true, true] (Is.keeps _) (by kernel_rfl)
        · intro w1 h1
          simp only [List.nil_append, List.cons_append, Given]
          rintro _ rfl
          rintro _ rfl
          go_wp2_with fail
          exact Post.isv (Ext.refl _) rfl rfl rfl
        apply Stage.step (Is _) [false, false, false, false, false, false, true] (Is.keeps _) (by kernel_rfl)
        · intro w1 h1
          simp only [List.nil_append, List.cons_append, Given]
          rintro _ rfl
          have q0 := h1.cell b0
          have q1 := h1.cell b1
          have q2 := h1.cell b2
          have q3 := h1.cell b3
          go_wp2_with fail
          exact Post.isv (Ext.refl _) rfl rfl rfl
        apply Stage.step (Is (.bool false)) [false, false, false, true, false, false, false, true] (Is.keeps _) (by kernel_rfl)
        · intro w1 h1
          simp only [List.nil_append, List.cons_append, Given]
          rintro _ rfl
          rintro _ rfl
          go_wp2_with fail
          all_goals first | exact Post.isv (Ext.refl _) rfl rfl rfl | (exfalso; apply e; simp_all)
        apply Stage.nil
        intro w1 h1
        simp only [List.nil_append, List.cons_append]
        refine Fin.is_ ?_
        refine Fin.is_ ?_
        refine Fin.is_ ?_
        refine Fin.is_ ?_
        refine Fin.is_ ?_
        refine Fin.is_ ?_
        refine Fin.is_ ?_
        refine Fin.is_ ?_
        refine Fin.is_ ?_
        refine Fin.nil_ ?_
        go_simp
        go_wp2_with fail
        go_roundw
        case rel => exact ⟨k + 1, by omega, by go_num, hn, hxr.trans h1⟩
        case measure => simp [intOf]; omega
      · have hn := sameT_no hx hy e
        rw [hb.out] at hn
        subst hn
        obtain ⟨x1, x2, x3, x4⟩ := x
        obtain ⟨y1, y2, y3, y4⟩ := y
        clear hx hy hrk hb
        go_wp2_with fail
        refine wp_region_typed Ext.steady rfl 26 rfl (by kernel_rfl) ?_
        apply Stage.step (Is _) [] (Is.keeps _) (by kernel_rfl)
        · intro w1 h1
          simp only [Given]
          go_wp2_with fail
          exact Post.isv (Ext.refl _) rfl rfl rfl
        apply Stage.step (Is _) [] (Is.keeps _) (by kernel_rfl)
        · intro w1 h1
          simp only [Given]
          go_wp2_with fail
          exact Post.isv (Ext.refl _) rfl rfl rfl
        apply Stage.step (Is _) [true, true] (Is.keeps _) (by kernel_rfl)
        · intro w1 h1
          simp only [List.nil_append, List.cons_append, Given]
          rintro _ rfl
          rintro _ rfl
          go_wp2_with fail
          exact Post.isv (Ext.refl _) rfl rfl rfl
        apply Stage.step (Is _) [false, false, true] (Is.keeps _) (by kernel_rfl)
        · intro w1 h1
          simp only [List.nil_append, List.cons_append, Given]
          rintro _ rfl
          have q0 := h1.cell a0
          have q1 := h1.cell a1
          have q2 := h1.cell a2
          have q3 := h1.cell a3
          go_wp2_with fail
          exact Post.isv (Ext.refl _) rfl rfl rfl
        apply Stage.step (Is _) [] (Is.keeps _) (by kernel_rfl)
        · intro w1 h1
          simp only [Given]
          go_wp2_with fail
          exact Post.isv (Ext.refl _) rfl rfl rfl
        apply Stage.step (Is _) [] (Is.keeps _) (by kernel_rfl)
        · intro w1 h1
          simp only [Given]
          go_wp2_with fail
          exact Post.isv (Ext.refl _) rfl rfl rfl
        apply Stage.step (Is _) [false, false, false, false, true, true] (Is.keeps _) (by kernel_rfl)
        · intro w1 h1
          simp only [List.nil_append, List.cons_append, Given]
          rintro _ rfl
          rintro _ rfl
          go_wp2_with fail
          exact Post.isv (Ext.refl _) rfl rfl rfl
        apply Stage.step (Is _) [false, false, false, false, false, false, true] (Is.keeps _) (by kernel_rfl)
        · intro w1 h1
          simp only [List.nil_append, List.cons_append, Given]
          rintro _ rfl
          have q0 := h1.cell b0
          have q1 := h1.cell b1
          have q2 := h1.cell b2
          have q3 := h1.cell b3
          go_wp2_with fail
          exact Post.isv (Ext.refl _) rfl rfl rfl
        apply Stage.step (Is (.bool true)) [false, false, false, true, false, false, false, true] (Is.keeps _) (by kernel_rfl)
        · intro w1 h1
          simp only [List.nil_append, List.cons_append, Given]
          rintro _ rfl
          rintro _ rfl
          go_wp2_with fail
          all_goals first | exact Post.isv (Ext.refl _) rfl rfl rfl | (exfalso; apply e; simp_all)
        apply Stage.nil
        intro w1 h1
        simp only [List.nil_append, List.cons_append]
        refine Fin.is_ ?_
        refine Fin.is_ ?_
        refine Fin.is_ ?_
        refine Fin.is_ ?_
        refine Fin.is_ ?_
        refine Fin.is_ ?_
        refine Fin.is_ ?_
        refine Fin.is_ ?_
        refine Fin.is_ ?_
        refine Fin.nil_ ?_
        go_simp
        go_wp2_with fail
        go_ret
        exact ⟨rfl, hxr.trans h1⟩
    · have hn : b = true := by
        rw [← hb.out]
        unfold sameT
        rw [decide_eq_true_eq]
        have := hrk.out
        rwa [List.take_of_length_le (by rw [l1.len]; omega), List.take_of_length_le (by rw [l2.len]; omega)] at this
      subst hn
      clear hrk hb
      go_wp2_with fail
      go_ret
      exact ⟨rfl, hxr⟩
end Go.Proofs.Ytoeknbogaclfdaa
