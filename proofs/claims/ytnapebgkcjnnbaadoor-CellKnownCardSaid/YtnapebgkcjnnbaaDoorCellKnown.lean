/-
  CellKnown, walked: true. Condition: the library's variables as it lays them.
-/
import Derived.Test.YtnapebgkcjnnbaaDoorCellK
namespace Go.Proofs.YtnapebgkcjnnbaaDoor
open Go.RowKit
set_option linter.unusedVariables false
set_option linter.unusedSimpArgs false
theorem t_e : textV (VT.leaf 4 0 ⟨#[]⟩) = (⟨#[39]⟩, true) := by kernel_rfl
theorem t_null : textV (VT.leaf 4 0 ⟨#[110, 117, 108, 108]⟩) = (⟨#[39, 110, 117, 108, 108]⟩, true) := by kernel_rfl
theorem t_list : textV (VT.leaf 5 0 ⟨#[]⟩) = (⟨#[91, 93]⟩, true) := by kernel_rfl
/-- A list of one value, at a block. -/
def oneL (b : Nat) : VT := .mk 5 0 ⟨#[]⟩ (some ⟨b, 0, none⟩) b 0 1 1 (fun _ => .no) none 0 0 0 0 (fun _ => ⟨#[]⟩) (fun _ => .no)
theorem t_one (b : Nat) : textV (oneL b) = (⟨#[]⟩, false) := by
  unfold textV
  rw [if_pos (by simp [oneL, VT.ln, VT.mn])]
theorem v_e : cellV ⟨#[]⟩ = (.no, 9) := by kernel_rfl
theorem v_at : cellV ⟨#[64]⟩ = (.no, 4) := by kernel_rfl
theorem one_in (W : World) (b : Nat) (h : W.heap[b]? = some (.cells VT.no.c 29 (0, 0))) : VT.In W.heap.size W (oneL b) := by
  have hb : b < W.heap.size := (Array.getElem?_eq_some_iff.1 h).1
  refine .mk ⟨by simp [oneL, VT.n], by simp [oneL, VT.n], by simp [oneL, VT.k], by simp [oneL, VT.k], (by show (⟨#[]⟩ : ByteArray).size ≤ 9223372036854775807; decide), by simp [oneL, VT.ln], by simp [oneL, VT.mn], fun _ => ⟨rfl, hb⟩, fun h => absurd h (Nat.lt_irrefl 0), ?_, fun i hi => absurd hi (Nat.not_lt_zero i), fun i hi => absurd hi (Nat.not_lt_zero i)⟩ (fun i _ => VT.no_in _ _) (fun i hi => absurd hi (Nat.not_lt_zero i))
  intro i hi j v hv
  obtain rfl : i = 0 := by have : i < 1 := hi; omega
  have := (cell_of_row W b j _ _ _ h).trans hv
  simpa [oneL, VT.lb, VT.lo] using this
theorem text_one (W : World) (hw : Vars W) : Calls Tryd.prog 6 #[.agg #[.int .i64 5, .int .i64 0, .string ⟨#[]⟩, .slice (some ⟨W.heap.size, 0, none⟩) 1 1, .slice none 0 0]] (W.alloc (Obj.cells #[.int .i64 0, .int .i64 0, .string ⟨#[]⟩, .slice none 0 0, .slice none 0 0] 29)) fun e w' => e = .returned (.tuple #[.string ⟨#[]⟩, .bool false]) ∧ Below W.heap.size W w' := by
  have hb : Below W.heap.size W (W.alloc (Obj.cells #[.int .i64 0, .int .i64 0, .string ⟨#[]⟩, .slice none 0 0, .slice none 0 0] 29)) := Below.alloc (Below.refl _ _) (Nat.le_refl _) _
  refine (text_is (oneL W.heap.size) _ _ (t_one _) _ (hw.step hb) (one_in _ _ (heap_alloc_new _ _))).mono ?_
  rintro e w' ⟨he, h⟩
  exact ⟨he, hb.trans (h.mono hb.size)⟩
set_option maxRecDepth 100000 in
set_option maxHeartbeats 1000000 in
theorem cellKnown_walk (w : World) (hw : Vars w) : Calls Tryd.prog 3 #[] w fun e w' => e = .returned (.bool true) ∧ Below w.heap.size w w' := by
  have HV := Lib.hid hw
  clear hw
  have b1 := build_ks
  have b2 := build_k
  have b3 := build_no
  have hS := Boxes.start w
  go_enter Tryd.func3, Tryd.ntmps3
  go_wp2_with (first | go_skip | (go_at_call 5; (with_reducible (refine (awake15_any _ (HV.out.step hS.below)).mono ?_)); rintro e wn ⟨rfl, hbn⟩; have hS1 := hS.step hbn; clear hS hbn; have hS := hS1; clear hS1) | (go_at_call 6; (with_reducible (refine (text_leaf _ _ _ _ t_e _ (HV.out.step hS.below) (by decide) (by decide)).mono ?_)); rintro e wn ⟨rfl, hbn⟩; have hS1 := hS.step hbn; clear hS hbn; have hS := hS1; clear hS1) | (go_at_call 6; (with_reducible (refine (text_leaf _ _ _ _ t_null _ (HV.out.step hS.below) (by decide) (by decide)).mono ?_)); rintro e wn ⟨rfl, hbn⟩; have hS1 := hS.step hbn; clear hS hbn; have hS := hS1; clear hS1) | (go_at_call 6; (with_reducible (refine (text_leaf _ _ _ _ t_list _ (HV.out.step hS.below) (by decide) (by decide)).mono ?_)); rintro e wn ⟨rfl, hbn⟩; have hS1 := hS.step hbn; clear hS hbn; have hS := hS1; clear hS1) | (go_at_call 6; (with_reducible (refine (text_one _ (HV.out.step hS.below)).mono ?_)); rintro e wn ⟨rfl, hbn⟩; have hS1 := hS.step hbn; clear hS hbn; have hS := hS1; clear hS1) | (go_at_call 7; (with_reducible (refine (val_is _ _ _ v_e _ (HV.out.step hS.below) (by decide)).mono ?_)); rintro e wn ⟨rfl, hbn⟩; have hS1 := hS.step hbn; clear hS hbn; have hS := hS1; clear hS1) | (go_at_call 7; (with_reducible (refine (val_is _ _ _ v_at _ (HV.out.step hS.below) (by decide)).mono ?_)); rintro e wn ⟨rfl, hbn⟩; have hS1 := hS.step hbn; clear hS hbn; have hS := hS1; clear hS1) | ((with_reducible refine gate_op (op := .alloc 29) rfl ?_); refine alloc_arm rfl 29 rfl (val_alloc _) ?_; intro wn hbn hgn; have hS1 := hS.new hbn hgn; clear hS hbn hgn; have hS := hS1; clear hS1) | ((with_reducible refine gate_op (op := .store 29 (.tmp 9) (.tmp 39)) rfl ?_); refine wpList_store_row rfl 29 (.tmp 9) (.tmp 39) rfl _ (VT.c VT.no) rfl rfl 29 _ (hS.at_ 0 rfl) (VT.val_info _) rfl (VT.c_one _) ?_; intro wn hbn hgn hon hsn; have hS1 := hS.put 0 rfl hon hbn hgn; clear hS hbn hgn hon hsn; have hS := hS1; clear hS1) | ((with_reducible refine gate_op (op := .store 29 (.tmp 11) (.tmp 43)) rfl ?_); refine wpList_store_row rfl 29 (.tmp 11) (.tmp 43) rfl _ (VT.c VT.no) rfl rfl 29 _ (hS.at_ 1 rfl) (VT.val_info _) rfl (VT.c_one _) ?_; intro wn hbn hgn hon hsn; have hS1 := hS.put 1 rfl hon hbn hgn; clear hS hbn hgn hon hsn; have hS := hS1; clear hS1))
  go_ret
  exact ⟨rfl, hS.below⟩
end Go.Proofs.YtnapebgkcjnnbaaDoor
