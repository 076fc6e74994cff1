/-
  value.List, value.Null, for all lists. No condition.
-/
import Derived.Test.YtcpmehppfccihaaGreatDoorCopyJ
namespace Go.Proofs.YtcpmehppfccihaaGreatDoor
open Go.RowKit
set_option linter.unusedVariables false
set_option linter.unusedSimpArgs false
set_option linter.unusedSectionVars false
theorem vNull_any (w : World) : Calls Tryz.prog 36 #[] w fun e w' => e = .returned (.agg VT.no.c) ∧ Below w.heap.size w w' := by
  have hS := Boxes.start w
  have b1 := build_no
  go_enter Tryz.func36, Tryz.ntmps36
  go_wp2_with (first | go_skip | ((with_reducible refine gate_op (op := .alloc 27) rfl ?_); refine alloc_arm rfl 27 rfl (val_alloc _) ?_; intro wn hbn hgn; have hS1 := hS.new hbn hgn; clear hS hbn hgn; have hS := hS1; clear hS1) | ((with_reducible refine gate_op (op := .store 27 (.tmp 0) (.tmp 1)) rfl ?_); refine wpList_store_row rfl 27 (.tmp 0) (.tmp 1) rfl _ VT.no.c rfl rfl 27 _ (hS.at_ 0 rfl) (VT.val_info _) rfl (VT.c_one _) ?_; intro wn hbn hgn hon hsn))
  exact bodyPost_ret (v := .agg VT.no.c) (results_cell_row rfl _ _ _ _ _ _ _ rfl hgn Tryz.underlying27 rfl (VT.val_info _)) rfl ⟨rfl, hS.below.trans (hbn.mono (Nat.le_refl _))⟩
/-- A list of these elements. -/
def listT (A : Option Addr) (lb lo n c : Nat) (lt : Nat → VT) : VT := .mk 5 0 ⟨#[]⟩ A lb lo n c lt none 0 0 0 0 (fun _ => ⟨#[]⟩) (fun _ => .no)
theorem build_l (A : Option Addr) (n c : Nat) (W : World) : (Instr.build 27 #[(0, .int .i64 5), (3, .slice A n c)]).run Tryz.prog W = .ok (.agg #[.int .i64 5, .int .i64 0, .string ⟨#[]⟩, .slice A n c, .slice none 0 0]) W := by kernel_rfl
set_option maxRecDepth 100000 in
set_option maxHeartbeats 1000000 in
theorem vList_any (A : Option Addr) (lb lo n c : Nat) (lt : Nat → VT) (w : World) (ht : VT.In w.heap.size w (listT A lb lo n c lt)) (hs : VT.Sm (listT A lb lo n c lt)) :
    Calls Tryz.prog 29 #[.slice A n c] w fun e w' => ∃ y : VT, e = .returned (.agg y.c) ∧ Cop w.heap.size (listT A lb lo n c lt) y w' ∧ Below w.heap.size w w' := by
  have hS := Boxes.start w
  have b1 := build_l
  have HK := Lib.hid (fun W (hb : Below w.heap.size w W) => vCopy_any (listT A lb lo n c lt) W ((ht.move hb).up hb.size) hs)
  clear ht hs
  go_enter Tryz.func29, Tryz.ntmps29
  go_wp2_with (first | go_skip | ((with_reducible refine gate_op (op := .alloc 27) rfl ?_); refine alloc_arm rfl 27 rfl (val_alloc _) ?_; intro wn hbn hgn; have hS1 := hS.new hbn hgn; clear hS hbn hgn; have hS := hS1; clear hS1))
  rename World => w1
  have hl := hS.lt 0 rfl
  refine (HK.out w1 hS.below).mono ?_
  rintro e w2 ⟨y, rfl, hy, hb2⟩
  have hS2 := hS.step hb2
  clear hS
  go_wp2_with (first | go_skip | ((with_reducible refine gate_op (op := .store 27 (.tmp 2) (.tmp 5)) rfl ?_); refine wpList_store_row rfl 27 (.tmp 2) (.tmp 5) rfl _ y.c rfl rfl 27 _ (hS2.at_ 0 rfl) (VT.val_info _) rfl (VT.c_one _) ?_; intro wn hbn hgn hon hsn))
  exact bodyPost_ret (v := .agg y.c) (results_cell_row rfl _ _ _ _ _ _ _ rfl hgn Tryz.underlying27 rfl (VT.val_info _)) rfl ⟨y, rfl, (hy.put hl hon hsn).low (Nat.le_of_lt hl), hS2.below.trans (hbn.mono (Nat.le_refl _))⟩
end Go.Proofs.YtcpmehppfccihaaGreatDoor
