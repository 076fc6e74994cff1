/-
  CellStrings, walked: true where the string is a word. Condition: the library's variables as it lays them.
-/
import Derived.Test.YtnapebgkcjnnbaaDoorCellK
import Derived.Test.YtnapebgkcjnnbaaDoorRText
import Derived.Test.YtnapebgkcjnnbaaDoorRTake
namespace Go.Proofs.YtnapebgkcjnnbaaDoor
open Go.RowKit
set_option linter.unusedVariables false
set_option linter.unusedSimpArgs false
set_option linter.unusedSectionVars false
theorem k5t_0 : textV (VT.leaf 4 0 ⟨#[110, 117, 108, 108]⟩) = (⟨#[39, 110, 117, 108, 108]⟩, true) := by kernel_rfl
theorem k5v_0 : cellV ⟨#[39, 110, 117, 108, 108]⟩ = (VT.leaf 4 0 ⟨#[110, 117, 108, 108]⟩, 0) := by kernel_rfl
theorem k5r_0 : rV (validS ⟨#[110, 117, 108, 108]⟩) = -1 := by kernel_rfl
set_option maxRecDepth 100000 in
set_option maxHeartbeats 1000000 in
theorem cs5_0 (s : ByteArray) (n how : Int) (w : World) (hw : Vars w) (q1 : (bits BinOp.and IntKind.i64 how 7 == 1) = false) (q2 : (bits BinOp.and IntKind.i64 how 7 == 2) = false) (q3 : (bits BinOp.and IntKind.i64 how 7 == 3) = false) (q4 : (bits BinOp.and IntKind.i64 how 7 == 4) = false) (q5 : (bits BinOp.and IntKind.i64 how 7 == 5) = true) (hr : (bits BinOp.and IntKind.i64 n 65535).tmod 6 = 0) : Calls Tryd.prog 4 #[.string s, .int .i64 n, .int .i64 how] w fun e w' => e = .returned (.bool true) ∧ Below w.heap.size w w' := by
  have HV := Lib.hid hw
  clear hw
  have HX : Hid (∀ W, Calls Tryd.prog 9 #[.string ⟨#[110, 117, 108, 108]⟩] W fun e w' => e = .returned (.int .i64 (-1)) ∧ Below W.heap.size W w') := fun W => k5r_0 ▸ rvalid_any ⟨#[110, 117, 108, 108]⟩ W (by decide)
  have f2 : ({ data := #[39] } ++ { data := #[110, 117, 108, 108] } : ByteArray).toList = [39, 110, 117, 108, 108] := by rw [Lib.toList_data]; kernel_rfl
  have hS := Boxes.start w
  go_enter Tryd.func4, Tryd.ntmps4
  go_wp2_with (first | go_skip | (go_at_call 5; (with_reducible (refine (awake15_any _ (HV.out.step hS.below)).mono ?_)); rintro e wn ⟨rfl, hbn⟩; have hS1 := hS.step hbn; clear hS hbn; have hS := hS1; clear hS1) | (go_at_call 9; (with_reducible (refine (HX.out _).mono ?_)); rintro e wn ⟨rfl, hbn⟩; have hS1 : Boxes w wn [] := ((hS.alloc _).drop (n := 0)).step hbn; clear hS hbn; have hS := hS1; clear hS1) | (go_at_call 6; (with_reducible (refine (text_leaf _ _ _ _ k5t_0 _ (HV.out.step hS.below) (by decide) (by decide)).mono ?_)); rintro e wn ⟨rfl, hbn⟩; have hS1 := hS.step hbn; clear hS hbn; have hS := hS1; clear hS1) | (go_at_call 7; (with_reducible (refine (val_is _ _ _ k5v_0 _ (HV.out.step hS.below) (by decide)).mono ?_)); rintro e wn ⟨rfl, hbn⟩; have hS1 := hS.step hbn; clear hS hbn; have hS := hS1; clear hS1) | ((with_reducible refine gate_op (op := .alloc 29) rfl ?_); refine alloc_arm rfl 29 rfl (val_alloc _) ?_; intro wn hbn hgn; have hS1 := hS.new hbn hgn; clear hS hbn hgn; have hS := hS1; clear hS1) | ((with_reducible refine gate_op (op := .store 29 (.tmp 9) (.tmp 57)) rfl ?_); refine wpList_store_row rfl 29 (.tmp 9) (.tmp 57) rfl _ (VT.c (VT.leaf 4 0 ⟨#[110, 117, 108, 108]⟩)) rfl rfl 29 _ (hS.at_ 0 rfl) (VT.val_info _) rfl (VT.c_one _) ?_; intro wn hbn hgn hon hsn; have hS1 := hS.put 0 rfl hon hbn hgn; clear hS hbn hgn hon hsn; have hS := hS1; clear hS1; have x0 := (cell_of_row _ _ 0 _ _ _ (hS.at_ 0 rfl)).trans (show (VT.leaf 4 0 ⟨#[110, 117, 108, 108]⟩).c[0]? = some (.int .i64 4) from rfl); have x2 := (cell_of_row _ _ 2 _ _ _ (hS.at_ 0 rfl)).trans (show (VT.leaf 4 0 ⟨#[110, 117, 108, 108]⟩).c[2]? = some (.string ⟨#[110, 117, 108, 108]⟩) from rfl)))
  go_ret
  exact ⟨rfl, hS.below⟩
theorem k5t_1 : textV (VT.leaf 4 0 ⟨#[116, 114, 117, 101]⟩) = (⟨#[39, 116, 114, 117, 101]⟩, true) := by kernel_rfl
theorem k5v_1 : cellV ⟨#[39, 116, 114, 117, 101]⟩ = (VT.leaf 4 0 ⟨#[116, 114, 117, 101]⟩, 0) := by kernel_rfl
theorem k5r_1 : rV (validS ⟨#[116, 114, 117, 101]⟩) = -1 := by kernel_rfl
set_option maxRecDepth 100000 in
set_option maxHeartbeats 1000000 in
theorem cs5_1 (s : ByteArray) (n how : Int) (w : World) (hw : Vars w) (q1 : (bits BinOp.and IntKind.i64 how 7 == 1) = false) (q2 : (bits BinOp.and IntKind.i64 how 7 == 2) = false) (q3 : (bits BinOp.and IntKind.i64 how 7 == 3) = false) (q4 : (bits BinOp.and IntKind.i64 how 7 == 4) = false) (q5 : (bits BinOp.and IntKind.i64 how 7 == 5) = true) (hr : (bits BinOp.and IntKind.i64 n 65535).tmod 6 = 1) : Calls Tryd.prog 4 #[.string s, .int .i64 n, .int .i64 how] w fun e w' => e = .returned (.bool true) ∧ Below w.heap.size w w' := by
  have HV := Lib.hid hw
  clear hw
  have HX : Hid (∀ W, Calls Tryd.prog 9 #[.string ⟨#[116, 114, 117, 101]⟩] W fun e w' => e = .returned (.int .i64 (-1)) ∧ Below W.heap.size W w') := fun W => k5r_1 ▸ rvalid_any ⟨#[116, 114, 117, 101]⟩ W (by decide)
  have f2 : ({ data := #[39] } ++ { data := #[116, 114, 117, 101] } : ByteArray).toList = [39, 116, 114, 117, 101] := by rw [Lib.toList_data]; kernel_rfl
  have hS := Boxes.start w
  go_enter Tryd.func4, Tryd.ntmps4
  go_wp2_with (first | go_skip | (go_at_call 5; (with_reducible (refine (awake15_any _ (HV.out.step hS.below)).mono ?_)); rintro e wn ⟨rfl, hbn⟩; have hS1 := hS.step hbn; clear hS hbn; have hS := hS1; clear hS1) | (go_at_call 9; (with_reducible (refine (HX.out _).mono ?_)); rintro e wn ⟨rfl, hbn⟩; have hS1 : Boxes w wn [] := ((hS.alloc _).drop (n := 0)).step hbn; clear hS hbn; have hS := hS1; clear hS1) | (go_at_call 6; (with_reducible (refine (text_leaf _ _ _ _ k5t_1 _ (HV.out.step hS.below) (by decide) (by decide)).mono ?_)); rintro e wn ⟨rfl, hbn⟩; have hS1 := hS.step hbn; clear hS hbn; have hS := hS1; clear hS1) | (go_at_call 7; (with_reducible (refine (val_is _ _ _ k5v_1 _ (HV.out.step hS.below) (by decide)).mono ?_)); rintro e wn ⟨rfl, hbn⟩; have hS1 := hS.step hbn; clear hS hbn; have hS := hS1; clear hS1) | ((with_reducible refine gate_op (op := .alloc 29) rfl ?_); refine alloc_arm rfl 29 rfl (val_alloc _) ?_; intro wn hbn hgn; have hS1 := hS.new hbn hgn; clear hS hbn hgn; have hS := hS1; clear hS1) | ((with_reducible refine gate_op (op := .store 29 (.tmp 9) (.tmp 57)) rfl ?_); refine wpList_store_row rfl 29 (.tmp 9) (.tmp 57) rfl _ (VT.c (VT.leaf 4 0 ⟨#[116, 114, 117, 101]⟩)) rfl rfl 29 _ (hS.at_ 0 rfl) (VT.val_info _) rfl (VT.c_one _) ?_; intro wn hbn hgn hon hsn; have hS1 := hS.put 0 rfl hon hbn hgn; clear hS hbn hgn hon hsn; have hS := hS1; clear hS1; have x0 := (cell_of_row _ _ 0 _ _ _ (hS.at_ 0 rfl)).trans (show (VT.leaf 4 0 ⟨#[116, 114, 117, 101]⟩).c[0]? = some (.int .i64 4) from rfl); have x2 := (cell_of_row _ _ 2 _ _ _ (hS.at_ 0 rfl)).trans (show (VT.leaf 4 0 ⟨#[116, 114, 117, 101]⟩).c[2]? = some (.string ⟨#[116, 114, 117, 101]⟩) from rfl)))
  go_ret
  exact ⟨rfl, hS.below⟩
theorem k5t_2 : textV (VT.leaf 4 0 ⟨#[102, 97, 108, 115, 101]⟩) = (⟨#[39, 102, 97, 108, 115, 101]⟩, true) := by kernel_rfl
theorem k5v_2 : cellV ⟨#[39, 102, 97, 108, 115, 101]⟩ = (VT.leaf 4 0 ⟨#[102, 97, 108, 115, 101]⟩, 0) := by kernel_rfl
theorem k5r_2 : rV (validS ⟨#[102, 97, 108, 115, 101]⟩) = -1 := by kernel_rfl
set_option maxRecDepth 100000 in
set_option maxHeartbeats 1000000 in
theorem cs5_2 (s : ByteArray) (n how : Int) (w : World) (hw : Vars w) (q1 : (bits BinOp.and IntKind.i64 how 7 == 1) = false) (q2 : (bits BinOp.and IntKind.i64 how 7 == 2) = false) (q3 : (bits BinOp.and IntKind.i64 how 7 == 3) = false) (q4 : (bits BinOp.and IntKind.i64 how 7 == 4) = false) (q5 : (bits BinOp.and IntKind.i64 how 7 == 5) = true) (hr : (bits BinOp.and IntKind.i64 n 65535).tmod 6 = 2) : Calls Tryd.prog 4 #[.string s, .int .i64 n, .int .i64 how] w fun e w' => e = .returned (.bool true) ∧ Below w.heap.size w w' := by
  have HV := Lib.hid hw
  clear hw
  have HX : Hid (∀ W, Calls Tryd.prog 9 #[.string ⟨#[102, 97, 108, 115, 101]⟩] W fun e w' => e = .returned (.int .i64 (-1)) ∧ Below W.heap.size W w') := fun W => k5r_2 ▸ rvalid_any ⟨#[102, 97, 108, 115, 101]⟩ W (by decide)
  have f2 : ({ data := #[39] } ++ { data := #[102, 97, 108, 115, 101] } : ByteArray).toList = [39, 102, 97, 108, 115, 101] := by rw [Lib.toList_data]; kernel_rfl
  have hS := Boxes.start w
  go_enter Tryd.func4, Tryd.ntmps4
  go_wp2_with (first | go_skip | (go_at_call 5; (with_reducible (refine (awake15_any _ (HV.out.step hS.below)).mono ?_)); rintro e wn ⟨rfl, hbn⟩; have hS1 := hS.step hbn; clear hS hbn; have hS := hS1; clear hS1) | (go_at_call 9; (with_reducible (refine (HX.out _).mono ?_)); rintro e wn ⟨rfl, hbn⟩; have hS1 : Boxes w wn [] := ((hS.alloc _).drop (n := 0)).step hbn; clear hS hbn; have hS := hS1; clear hS1) | (go_at_call 6; (with_reducible (refine (text_leaf _ _ _ _ k5t_2 _ (HV.out.step hS.below) (by decide) (by decide)).mono ?_)); rintro e wn ⟨rfl, hbn⟩; have hS1 := hS.step hbn; clear hS hbn; have hS := hS1; clear hS1) | (go_at_call 7; (with_reducible (refine (val_is _ _ _ k5v_2 _ (HV.out.step hS.below) (by decide)).mono ?_)); rintro e wn ⟨rfl, hbn⟩; have hS1 := hS.step hbn; clear hS hbn; have hS := hS1; clear hS1) | ((with_reducible refine gate_op (op := .alloc 29) rfl ?_); refine alloc_arm rfl 29 rfl (val_alloc _) ?_; intro wn hbn hgn; have hS1 := hS.new hbn hgn; clear hS hbn hgn; have hS := hS1; clear hS1) | ((with_reducible refine gate_op (op := .store 29 (.tmp 9) (.tmp 57)) rfl ?_); refine wpList_store_row rfl 29 (.tmp 9) (.tmp 57) rfl _ (VT.c (VT.leaf 4 0 ⟨#[102, 97, 108, 115, 101]⟩)) rfl rfl 29 _ (hS.at_ 0 rfl) (VT.val_info _) rfl (VT.c_one _) ?_; intro wn hbn hgn hon hsn; have hS1 := hS.put 0 rfl hon hbn hgn; clear hS hbn hgn hon hsn; have hS := hS1; clear hS1; have x0 := (cell_of_row _ _ 0 _ _ _ (hS.at_ 0 rfl)).trans (show (VT.leaf 4 0 ⟨#[102, 97, 108, 115, 101]⟩).c[0]? = some (.int .i64 4) from rfl); have x2 := (cell_of_row _ _ 2 _ _ _ (hS.at_ 0 rfl)).trans (show (VT.leaf 4 0 ⟨#[102, 97, 108, 115, 101]⟩).c[2]? = some (.string ⟨#[102, 97, 108, 115, 101]⟩) from rfl)))
  go_ret
  exact ⟨rfl, hS.below⟩
theorem k5t_3 : textV (VT.leaf 4 0 ⟨#[91, 93]⟩) = (⟨#[39, 91, 93]⟩, true) := by kernel_rfl
theorem k5v_3 : cellV ⟨#[39, 91, 93]⟩ = (VT.leaf 4 0 ⟨#[91, 93]⟩, 0) := by kernel_rfl
theorem k5r_3 : rV (validS ⟨#[91, 93]⟩) = -1 := by kernel_rfl
set_option maxRecDepth 100000 in
set_option maxHeartbeats 1000000 in
theorem cs5_3 (s : ByteArray) (n how : Int) (w : World) (hw : Vars w) (q1 : (bits BinOp.and IntKind.i64 how 7 == 1) = false) (q2 : (bits BinOp.and IntKind.i64 how 7 == 2) = false) (q3 : (bits BinOp.and IntKind.i64 how 7 == 3) = false) (q4 : (bits BinOp.and IntKind.i64 how 7 == 4) = false) (q5 : (bits BinOp.and IntKind.i64 how 7 == 5) = true) (hr : (bits BinOp.and IntKind.i64 n 65535).tmod 6 = 3) : Calls Tryd.prog 4 #[.string s, .int .i64 n, .int .i64 how] w fun e w' => e = .returned (.bool true) ∧ Below w.heap.size w w' := by
  have HV := Lib.hid hw
  clear hw
  have HX : Hid (∀ W, Calls Tryd.prog 9 #[.string ⟨#[91, 93]⟩] W fun e w' => e = .returned (.int .i64 (-1)) ∧ Below W.heap.size W w') := fun W => k5r_3 ▸ rvalid_any ⟨#[91, 93]⟩ W (by decide)
  have f2 : ({ data := #[39] } ++ { data := #[91, 93] } : ByteArray).toList = [39, 91, 93] := by rw [Lib.toList_data]; kernel_rfl
  have hS := Boxes.start w
  go_enter Tryd.func4, Tryd.ntmps4
  go_wp2_with (first | go_skip | (go_at_call 5; (with_reducible (refine (awake15_any _ (HV.out.step hS.below)).mono ?_)); rintro e wn ⟨rfl, hbn⟩; have hS1 := hS.step hbn; clear hS hbn; have hS := hS1; clear hS1) | (go_at_call 9; (with_reducible (refine (HX.out _).mono ?_)); rintro e wn ⟨rfl, hbn⟩; have hS1 : Boxes w wn [] := ((hS.alloc _).drop (n := 0)).step hbn; clear hS hbn; have hS := hS1; clear hS1) | (go_at_call 6; (with_reducible (refine (text_leaf _ _ _ _ k5t_3 _ (HV.out.step hS.below) (by decide) (by decide)).mono ?_)); rintro e wn ⟨rfl, hbn⟩; have hS1 := hS.step hbn; clear hS hbn; have hS := hS1; clear hS1) | (go_at_call 7; (with_reducible (refine (val_is _ _ _ k5v_3 _ (HV.out.step hS.below) (by decide)).mono ?_)); rintro e wn ⟨rfl, hbn⟩; have hS1 := hS.step hbn; clear hS hbn; have hS := hS1; clear hS1) | ((with_reducible refine gate_op (op := .alloc 29) rfl ?_); refine alloc_arm rfl 29 rfl (val_alloc _) ?_; intro wn hbn hgn; have hS1 := hS.new hbn hgn; clear hS hbn hgn; have hS := hS1; clear hS1) | ((with_reducible refine gate_op (op := .store 29 (.tmp 9) (.tmp 57)) rfl ?_); refine wpList_store_row rfl 29 (.tmp 9) (.tmp 57) rfl _ (VT.c (VT.leaf 4 0 ⟨#[91, 93]⟩)) rfl rfl 29 _ (hS.at_ 0 rfl) (VT.val_info _) rfl (VT.c_one _) ?_; intro wn hbn hgn hon hsn; have hS1 := hS.put 0 rfl hon hbn hgn; clear hS hbn hgn hon hsn; have hS := hS1; clear hS1; have x0 := (cell_of_row _ _ 0 _ _ _ (hS.at_ 0 rfl)).trans (show (VT.leaf 4 0 ⟨#[91, 93]⟩).c[0]? = some (.int .i64 4) from rfl); have x2 := (cell_of_row _ _ 2 _ _ _ (hS.at_ 0 rfl)).trans (show (VT.leaf 4 0 ⟨#[91, 93]⟩).c[2]? = some (.string ⟨#[91, 93]⟩) from rfl)))
  go_ret
  exact ⟨rfl, hS.below⟩
theorem k5t_4 : textV (VT.leaf 4 0 ⟨#[123, 125]⟩) = (⟨#[39, 123, 125]⟩, true) := by kernel_rfl
theorem k5v_4 : cellV ⟨#[39, 123, 125]⟩ = (VT.leaf 4 0 ⟨#[123, 125]⟩, 0) := by kernel_rfl
theorem k5r_4 : rV (validS ⟨#[123, 125]⟩) = -1 := by kernel_rfl
set_option maxRecDepth 100000 in
set_option maxHeartbeats 1000000 in
theorem cs5_4 (s : ByteArray) (n how : Int) (w : World) (hw : Vars w) (q1 : (bits BinOp.and IntKind.i64 how 7 == 1) = false) (q2 : (bits BinOp.and IntKind.i64 how 7 == 2) = false) (q3 : (bits BinOp.and IntKind.i64 how 7 == 3) = false) (q4 : (bits BinOp.and IntKind.i64 how 7 == 4) = false) (q5 : (bits BinOp.and IntKind.i64 how 7 == 5) = true) (hr : (bits BinOp.and IntKind.i64 n 65535).tmod 6 = 4) : Calls Tryd.prog 4 #[.string s, .int .i64 n, .int .i64 how] w fun e w' => e = .returned (.bool true) ∧ Below w.heap.size w w' := by
  have HV := Lib.hid hw
  clear hw
  have HX : Hid (∀ W, Calls Tryd.prog 9 #[.string ⟨#[123, 125]⟩] W fun e w' => e = .returned (.int .i64 (-1)) ∧ Below W.heap.size W w') := fun W => k5r_4 ▸ rvalid_any ⟨#[123, 125]⟩ W (by decide)
  have f2 : ({ data := #[39] } ++ { data := #[123, 125] } : ByteArray).toList = [39, 123, 125] := by rw [Lib.toList_data]; kernel_rfl
  have hS := Boxes.start w
  go_enter Tryd.func4, Tryd.ntmps4
  go_wp2_with (first | go_skip | (go_at_call 5; (with_reducible (refine (awake15_any _ (HV.out.step hS.below)).mono ?_)); rintro e wn ⟨rfl, hbn⟩; have hS1 := hS.step hbn; clear hS hbn; have hS := hS1; clear hS1) | (go_at_call 9; (with_reducible (refine (HX.out _).mono ?_)); rintro e wn ⟨rfl, hbn⟩; have hS1 : Boxes w wn [] := ((hS.alloc _).drop (n := 0)).step hbn; clear hS hbn; have hS := hS1; clear hS1) | (go_at_call 6; (with_reducible (refine (text_leaf _ _ _ _ k5t_4 _ (HV.out.step hS.below) (by decide) (by decide)).mono ?_)); rintro e wn ⟨rfl, hbn⟩; have hS1 := hS.step hbn; clear hS hbn; have hS := hS1; clear hS1) | (go_at_call 7; (with_reducible (refine (val_is _ _ _ k5v_4 _ (HV.out.step hS.below) (by decide)).mono ?_)); rintro e wn ⟨rfl, hbn⟩; have hS1 := hS.step hbn; clear hS hbn; have hS := hS1; clear hS1) | ((with_reducible refine gate_op (op := .alloc 29) rfl ?_); refine alloc_arm rfl 29 rfl (val_alloc _) ?_; intro wn hbn hgn; have hS1 := hS.new hbn hgn; clear hS hbn hgn; have hS := hS1; clear hS1) | ((with_reducible refine gate_op (op := .store 29 (.tmp 9) (.tmp 57)) rfl ?_); refine wpList_store_row rfl 29 (.tmp 9) (.tmp 57) rfl _ (VT.c (VT.leaf 4 0 ⟨#[123, 125]⟩)) rfl rfl 29 _ (hS.at_ 0 rfl) (VT.val_info _) rfl (VT.c_one _) ?_; intro wn hbn hgn hon hsn; have hS1 := hS.put 0 rfl hon hbn hgn; clear hS hbn hgn hon hsn; have hS := hS1; clear hS1; have x0 := (cell_of_row _ _ 0 _ _ _ (hS.at_ 0 rfl)).trans (show (VT.leaf 4 0 ⟨#[123, 125]⟩).c[0]? = some (.int .i64 4) from rfl); have x2 := (cell_of_row _ _ 2 _ _ _ (hS.at_ 0 rfl)).trans (show (VT.leaf 4 0 ⟨#[123, 125]⟩).c[2]? = some (.string ⟨#[123, 125]⟩) from rfl)))
  go_ret
  exact ⟨rfl, hS.below⟩
theorem k5t_5 : textV (VT.leaf 4 0 ⟨#[]⟩) = (⟨#[39]⟩, true) := by kernel_rfl
theorem k5v_5 : cellV ⟨#[39]⟩ = (VT.leaf 4 0 ⟨#[]⟩, 0) := by kernel_rfl
theorem k5r_5 : rV (validS ⟨#[]⟩) = -1 := by kernel_rfl
set_option maxRecDepth 100000 in
set_option maxHeartbeats 1000000 in
theorem cs5_5 (s : ByteArray) (n how : Int) (w : World) (hw : Vars w) (q1 : (bits BinOp.and IntKind.i64 how 7 == 1) = false) (q2 : (bits BinOp.and IntKind.i64 how 7 == 2) = false) (q3 : (bits BinOp.and IntKind.i64 how 7 == 3) = false) (q4 : (bits BinOp.and IntKind.i64 how 7 == 4) = false) (q5 : (bits BinOp.and IntKind.i64 how 7 == 5) = true) (hr : (bits BinOp.and IntKind.i64 n 65535).tmod 6 = 5) : Calls Tryd.prog 4 #[.string s, .int .i64 n, .int .i64 how] w fun e w' => e = .returned (.bool true) ∧ Below w.heap.size w w' := by
  have HV := Lib.hid hw
  clear hw
  have HX : Hid (∀ W, Calls Tryd.prog 9 #[.string ⟨#[]⟩] W fun e w' => e = .returned (.int .i64 (-1)) ∧ Below W.heap.size W w') := fun W => k5r_5 ▸ rvalid_any ⟨#[]⟩ W (by decide)
  have f2 : ({ data := #[39] } ++ { data := #[] } : ByteArray).toList = [39] := by rw [Lib.toList_data]; kernel_rfl
  have hS := Boxes.start w
  go_enter Tryd.func4, Tryd.ntmps4
  go_wp2_with (first | go_skip | (go_at_call 5; (with_reducible (refine (awake15_any _ (HV.out.step hS.below)).mono ?_)); rintro e wn ⟨rfl, hbn⟩; have hS1 := hS.step hbn; clear hS hbn; have hS := hS1; clear hS1) | (go_at_call 9; (with_reducible (refine (HX.out _).mono ?_)); rintro e wn ⟨rfl, hbn⟩; have hS1 : Boxes w wn [] := ((hS.alloc _).drop (n := 0)).step hbn; clear hS hbn; have hS := hS1; clear hS1) | (go_at_call 6; (with_reducible (refine (text_leaf _ _ _ _ k5t_5 _ (HV.out.step hS.below) (by decide) (by decide)).mono ?_)); rintro e wn ⟨rfl, hbn⟩; have hS1 := hS.step hbn; clear hS hbn; have hS := hS1; clear hS1) | (go_at_call 7; (with_reducible (refine (val_is _ _ _ k5v_5 _ (HV.out.step hS.below) (by decide)).mono ?_)); rintro e wn ⟨rfl, hbn⟩; have hS1 := hS.step hbn; clear hS hbn; have hS := hS1; clear hS1) | ((with_reducible refine gate_op (op := .alloc 29) rfl ?_); refine alloc_arm rfl 29 rfl (val_alloc _) ?_; intro wn hbn hgn; have hS1 := hS.new hbn hgn; clear hS hbn hgn; have hS := hS1; clear hS1) | ((with_reducible refine gate_op (op := .store 29 (.tmp 9) (.tmp 57)) rfl ?_); refine wpList_store_row rfl 29 (.tmp 9) (.tmp 57) rfl _ (VT.c (VT.leaf 4 0 ⟨#[]⟩)) rfl rfl 29 _ (hS.at_ 0 rfl) (VT.val_info _) rfl (VT.c_one _) ?_; intro wn hbn hgn hon hsn; have hS1 := hS.put 0 rfl hon hbn hgn; clear hS hbn hgn hon hsn; have hS := hS1; clear hS1; have x0 := (cell_of_row _ _ 0 _ _ _ (hS.at_ 0 rfl)).trans (show (VT.leaf 4 0 ⟨#[]⟩).c[0]? = some (.int .i64 4) from rfl); have x2 := (cell_of_row _ _ 2 _ _ _ (hS.at_ 0 rfl)).trans (show (VT.leaf 4 0 ⟨#[]⟩).c[2]? = some (.string ⟨#[]⟩) from rfl)))
  go_ret
  exact ⟨rfl, hS.below⟩
end Go.Proofs.YtnapebgkcjnnbaaDoor
