/-
  Bytes of another length: contract of the program's sized.
-/
import Derived.Test.YtcklkjklepmabaaZStNew
import Derived.Test.YtcklkjklepmabaaZDiffPlain
namespace Go.Proofs.Ytcklkjklepmabaa
open Go.RowKit
set_option linter.unusedVariables false
set_option linter.unusedSimpArgs false
set_option linter.unnecessarySimpa false
set_option maxRecDepth 100000

theorem model_sized {A : Option Addr} {n c : Nat} {l : List UInt8} {k : Nat} {w : World} (h : Sl w A n c l) (hn : n ≤ 1000000) (hk : k ≤ 1000000) :
    Calls Try.prog 74 #[.slice A n c, .int .i64 k] w fun e w' => ∃ A' c', e = .returned (.slice A' k c') ∧ Byt U8 w' w.heap.size A' k c' (sizedL l k) ∧ Ext w w' := by
  have h63 := h.n63
  obtain ⟨C, hC, hmk⟩ := make_bytes k (k : Int) rfl hk
  have hb := made_byt hC hk w
  have hsz8 : (Try.prog.info? U8).map (·.size) = some 1 := by kernel_rfl
  go_enter Try.func74, Try.ntmps74
  go_wp2_with (
    with_reducible refine wpList_copy_byt (w0 := w) rfl (.tmp 8) (.tmp 9) 22 22 rfl U8 under_bytes hsz8 _ k k _ 0 _ k k rfl hb (Nat.zero_add _) (fun _ => rfl) _ n c l rfl (h.ext (Ext.alloc _ _)) (Ext.alloc _ _) ?_
    intro w2 hbx hx2 hsz2 hkp2)
  go_ret
  rw [show over (List.replicate k 0) 0 (l.take k) = sizedL l k from over_sized l k] at hbx
  exact ⟨_, _, rfl, hbx, hx2⟩
end Go.Proofs.Ytcklkjklepmabaa
