/-
  Law 15's awake, walked: true. Condition: the library's variables as it lays them.
-/
import Derived.Test.YtnapebgkcjnnbaaGreatDoorCellBJ
namespace Go.Proofs.YtnapebgkcjnnbaaGreatDoor
open Go.RowKit
set_option linter.unusedVariables false
set_option linter.unusedSimpArgs false
theorem text_is (t : VT) (b : ByteArray) (ok : Bool) (hr : textV t = (b, ok)) (W : World) (hw : Vars W) (ht : VT.In W.heap.size W t) : Calls Tryz.prog 7 #[.agg t.c] W fun e w' => e = .returned (.tuple #[.string b, .bool ok]) ∧ Below W.heap.size W w' := by
  have h := cText_any t W hw ht
  rw [hr] at h
  exact h
theorem val_is (s : ByteArray) (v : VT) (e0 : Int) (hr : cellV s = (v, e0)) (W : World) (hw : Vars W) (hs : s.size ≤ 9223372036854775807) : Calls Tryz.prog 9 #[.string s] W fun e w' => e = .returned (.tuple #[.agg v.c, .int .i64 e0]) ∧ Below W.heap.size W w' := by
  have h := cval_any s W hw hs
  rw [hr] at h
  exact h
theorem lf (B : Nat) (W : World) (k : Int) (s : ByteArray) (hk : 0 ≤ k ∧ k ≤ 9) (hs : s.size ≤ 9223372036854775807) : VT.In B W (VT.leaf k 0 s) := VT.leaf_in B W k 0 s (by omega) (by omega) (by omega) (by omega) hs
theorem text_leaf (k : Int) (s : ByteArray) (b : ByteArray) (ok : Bool) (hr : textV (VT.leaf k 0 s) = (b, ok)) (W : World) (hw : Vars W) (hk : 0 ≤ k ∧ k ≤ 9) (hs : s.size ≤ 9223372036854775807) :
    Calls Tryz.prog 7 #[.agg #[.int .i64 k, .int .i64 0, .string s, .slice none 0 0, .slice none 0 0]] W fun e w' => e = .returned (.tuple #[.string b, .bool ok]) ∧ Below W.heap.size W w' := text_is (VT.leaf k 0 s) b ok hr W hw (lf _ _ _ _ hk hs)
theorem t_5 : textV (VT.leaf 4 0 ⟨#[53]⟩) = (⟨#[39, 53]⟩, true) := by kernel_rfl
theorem v_x : cellV ⟨#[120]⟩ = (VT.leaf 4 0 ⟨#[120]⟩, 0) := by kernel_rfl
theorem v_150 : cellV ⟨#[49, 46, 53, 48]⟩ = (VT.leaf 3 0 ⟨#[49, 46, 53, 48]⟩, 0) := by kernel_rfl
set_option maxRecDepth 100000 in
set_option maxHeartbeats 1000000 in
theorem awake15_any (w : World) (hw : Vars w) : Calls Tryz.prog 5 #[] w fun e w' => e = .returned (.bool true) ∧ Below w.heap.size w w' := by
  have HV := Lib.hid hw
  clear hw
  have b1 := build_ks
  have hS := Boxes.start w
  go_enter Tryz.func5, Tryz.ntmps5
  go_wp2_with (first | go_skip | (go_at_call 7; (with_reducible (refine (text_leaf _ _ _ _ t_5 _ (HV.out.step hS.below) (by decide) (by decide)).mono ?_)); rintro e wn ⟨rfl, hbn⟩; have hS1 := hS.step hbn; clear hS hbn; have hS := hS1; clear hS1) | (go_at_call 9; (with_reducible (refine (val_is _ _ _ v_x _ (HV.out.step hS.below) (by decide)).mono ?_)); rintro e wn ⟨rfl, hbn⟩; have hS1 := hS.step hbn; clear hS hbn; have hS := hS1; clear hS1) | (go_at_call 9; (with_reducible (refine (val_is _ _ _ v_150 _ (HV.out.step hS.below) (by decide)).mono ?_)); rintro e wn ⟨rfl, hbn⟩; have hS1 := hS.step hbn; clear hS hbn; have hS := hS1; clear hS1) | ((with_reducible refine gate_op (op := .alloc 26) rfl ?_); refine alloc_arm rfl 26 rfl (val_alloc _) ?_; intro wn hbn hgn; have hS1 := hS.new hbn hgn; clear hS hbn hgn; have hS := hS1; clear hS1) | ((with_reducible refine gate_op (op := .store 26 (.tmp 3) (.tmp 14)) rfl ?_); refine wpList_store_row rfl 26 (.tmp 3) (.tmp 14) rfl _ (VT.c (VT.leaf 4 0 ⟨#[120]⟩)) rfl rfl 26 _ (hS.at_ 0 rfl) (VT.val_info _) rfl (VT.c_one _) ?_; intro wn hbn hgn hon hsn; have hS1 := hS.put 0 rfl hon hbn hgn; clear hS hbn hgn hon hsn; have hS := hS1; clear hS1) | (((with_reducible refine gate_op (op := .store 26 (.tmp 5) (.tmp 18)) rfl ?_); refine wpList_store_row rfl 26 (.tmp 5) (.tmp 18) rfl _ (VT.c (VT.leaf 3 0 ⟨#[49, 46, 53, 48]⟩)) rfl rfl 26 _ (hS.at_ 1 rfl) (VT.val_info _) rfl (VT.c_one _) ?_; intro wn hbn hgn hon hsn; have hS1 := hS.put 1 rfl hon hbn hgn; clear hS hbn hgn hon hsn; have hS := hS1; clear hS1); have x0 := (cell_of_row _ _ 0 _ _ _ (hS.at_ 0 rfl)).trans (show (VT.leaf 4 0 ⟨#[120]⟩).c[0]? = some (.int .i64 4) from rfl); have x2 := (cell_of_row _ _ 2 _ _ _ (hS.at_ 0 rfl)).trans (show (VT.leaf 4 0 ⟨#[120]⟩).c[2]? = some (.string ⟨#[120]⟩) from rfl); have y0 := (cell_of_row _ _ 0 _ _ _ (hS.at_ 1 rfl)).trans (show (VT.leaf 3 0 ⟨#[49, 46, 53, 48]⟩).c[0]? = some (.int .i64 3) from rfl); have y2 := (cell_of_row _ _ 2 _ _ _ (hS.at_ 1 rfl)).trans (show (VT.leaf 3 0 ⟨#[49, 46, 53, 48]⟩).c[2]? = some (.string ⟨#[49, 46, 53, 48]⟩) from rfl)))
  go_ret
  exact ⟨rfl, hS.below⟩
end Go.Proofs.YtnapebgkcjnnbaaGreatDoor
