/-
  ops.zero tells what is written here, for all trees. No condition.
-/
import Derived.Test.YtjjiiaclgacfiaaDoorSameV
namespace Go.Proofs.YtjjiiaclgacfiaaDoor
open Go.RowKit
set_option linter.unusedVariables false
set_option linter.unusedSimpArgs false
set_option maxHeartbeats 1000000 in
theorem zero_any (a : VT) (w : World) (ha : VT.In w.heap.size w a) : Calls Tryd.prog 18 #[.agg a.c] w fun e w' => e = .returned (.bool (sameV a .no)) ∧ Below w.heap.size w w' := by
  have H := Lib.hid (fun (W : World) (hW : Below w.heap.size w W) => vSame_any a .no W ((ha.move hW).up hW.size) (VT.no_in _ _))
  have hS0 : Sees w (w.alloc (Obj.cells a.c 31)) [(w.heap.size, Obj.cells a.c 31)] := (Sees.start w).alloc _
  clear ha
  go_enter Tryd.func18, Tryd.ntmps18
  go_wp2_with (first | go_skip | (refine wpList_load_row' rfl 31 (.tmp 1) rfl _ rfl 31 _ (0, 0) _ hS0.g0 Tryd.underlying31 rfl (VT.val_info _) ?_) | (go_at_call 15; refine (H.out _ hS0.below).mono ?_; rintro e w1 ⟨rfl, hb1⟩))
  go_ret
  exact ⟨ret_bool rfl, (hS0.step hb1).below⟩
end Go.Proofs.YtjjiiaclgacfiaaDoor
