/-
  CellStrings, walked: true for all strings, all numbers. Condition: the library's variables as it lays them.
-/
import Derived.Test.YtnapebgkcjnnbaaDoorCellK
import Derived.Test.YtnapebgkcjnnbaaDoorRText
import Derived.Test.YtnapebgkcjnnbaaDoorRTake
namespace Go.Proofs.YtnapebgkcjnnbaaDoor
open Go.RowKit
set_option linter.unusedVariables false
set_option linter.unusedSimpArgs false
set_option linter.unusedSectionVars false
section
variable (s : ByteArray) (n how : Int) (w : World) (hw : Vars w) (hs : s.size ≤ 140737488351232)
include hw hs
set_option maxRecDepth 100000 in
set_option maxHeartbeats 1000000 in
theorem cs0_l (q1 : (bits BinOp.and IntKind.i64 how 7 == 1) = false) (q2 : (bits BinOp.and IntKind.i64 how 7 == 2) = false) (q3 : (bits BinOp.and IntKind.i64 how 7 == 3) = false) (q4 : (bits BinOp.and IntKind.i64 how 7 == 4) = false) (q5 : (bits BinOp.and IntKind.i64 how 7 == 5) = false) (hl : 4000 < (s.size : Int)) : Calls Tryd.prog 4 #[.string s, .int .i64 n, .int .i64 how] w fun e w' => e = .returned (.bool true) ∧ Below w.heap.size w w' := by
  have HV := Lib.hid hw
  clear hw
  have hS := Boxes.start w
  go_enter Tryd.func4, Tryd.ntmps4
  go_wp2_with (first | go_skip | (go_at_call 5; (with_reducible (refine (awake15_any _ (HV.out.step hS.below)).mono ?_)); rintro e wn ⟨rfl, hbn⟩; have hS1 := hS.step hbn; clear hS hbn; have hS := hS1; clear hS1))
  go_ret
  exact ⟨rfl, hS.below⟩
set_option maxRecDepth 100000 in
set_option maxHeartbeats 1000000 in
theorem cs0_v (q1 : (bits BinOp.and IntKind.i64 how 7 == 1) = false) (q2 : (bits BinOp.and IntKind.i64 how 7 == 2) = false) (q3 : (bits BinOp.and IntKind.i64 how 7 == 3) = false) (q4 : (bits BinOp.and IntKind.i64 how 7 == 4) = false) (q5 : (bits BinOp.and IntKind.i64 how 7 == 5) = false) (hl : ¬ 4000 < (s.size : Int)) (x : Int) (hx : 0 ≤ x) (HX : ∀ W, Calls Tryd.prog 9 #[.string s] W fun e w' => e = .returned (.int .i64 x) ∧ Below W.heap.size W w') : Calls Tryd.prog 4 #[.string s, .int .i64 n, .int .i64 how] w fun e w' => e = .returned (.bool true) ∧ Below w.heap.size w w' := by
  have HV := Lib.hid hw
  clear hw
  have HXh := Lib.hid HX
  clear HX
  have hS := Boxes.start w
  go_enter Tryd.func4, Tryd.ntmps4
  go_wp2_with (first | go_skip | (go_at_call 5; (with_reducible (refine (awake15_any _ (HV.out.step hS.below)).mono ?_)); rintro e wn ⟨rfl, hbn⟩; have hS1 := hS.step hbn; clear hS hbn; have hS := hS1; clear hS1) | (go_at_call 9; (with_reducible (refine (HXh.out _).mono ?_)); rintro e wn ⟨rfl, hbn⟩; have hS1 := hS.step hbn; clear hS hbn; have hS := hS1; clear hS1))
  go_ret
  exact ⟨rfl, hS.below⟩
set_option maxRecDepth 100000 in
set_option maxHeartbeats 1000000 in
theorem cs0_q (q1 : (bits BinOp.and IntKind.i64 how 7 == 1) = false) (q2 : (bits BinOp.and IntKind.i64 how 7 == 2) = false) (q3 : (bits BinOp.and IntKind.i64 how 7 == 3) = false) (q4 : (bits BinOp.and IntKind.i64 how 7 == 4) = false) (q5 : (bits BinOp.and IntKind.i64 how 7 == 5) = false) (hl : ¬ 4000 < (s.size : Int)) (x : Int) (hx : ¬ 0 ≤ x) (HX : ∀ W, Calls Tryd.prog 9 #[.string s] W fun e w' => e = .returned (.int .i64 x) ∧ Below W.heap.size W w') (hz : (s : ByteArray).size ≤ 9223372036854775807) (T : ByteArray) (hTs : T.size ≤ 9223372036854775807) (ht : textV (VT.leaf 4 0 s) = (T, true)) (hv : cellV T = (VT.leaf 4 0 s, 0)) (f0 : T.toList.isEmpty = false) (f1 : (T.toList == (s : ByteArray).toList) = false) (f2 : (T.toList == ({ data := #[39] } ++ s : ByteArray).toList) = true) (hc2 : ¬ 9223372036854775807 < 1 + (s : ByteArray).size) : Calls Tryd.prog 4 #[.string s, .int .i64 n, .int .i64 how] w fun e w' => e = .returned (.bool true) ∧ Below w.heap.size w w' := by
  have HV := Lib.hid hw
  clear hw
  have HXh := Lib.hid HX
  clear HX
  have hth := Lib.hid ht
  clear ht
  have hvh := Lib.hid hv
  clear hv
  have hS := Boxes.start w
  go_enter Tryd.func4, Tryd.ntmps4
  go_wp2_with (first | go_skip | (go_at_call 5; (with_reducible (refine (awake15_any _ (HV.out.step hS.below)).mono ?_)); rintro e wn ⟨rfl, hbn⟩; have hS1 := hS.step hbn; clear hS hbn; have hS := hS1; clear hS1) | (go_at_call 9; (with_reducible (refine (HXh.out _).mono ?_)); rintro e wn ⟨rfl, hbn⟩; have hS1 := hS.step hbn; clear hS hbn; have hS := hS1; clear hS1) | (go_at_call 6; (with_reducible (refine (text_leaf _ _ _ _ hth.out _ (HV.out.step hS.below) (by decide) hz).mono ?_)); rintro e wn ⟨rfl, hbn⟩; have hS1 := hS.step hbn; clear hS hbn; have hS := hS1; clear hS1) | (go_at_call 7; (with_reducible (refine (val_is _ _ _ hvh.out _ (HV.out.step hS.below) hTs).mono ?_)); rintro e wn ⟨rfl, hbn⟩; have hS1 := hS.step hbn; clear hS hbn; have hS := hS1; clear hS1) | ((with_reducible refine gate_op (op := .alloc 29) rfl ?_); refine alloc_arm rfl 29 rfl (val_alloc _) ?_; intro wn hbn hgn; have hS1 := hS.new hbn hgn; clear hS hbn hgn; have hS := hS1; clear hS1) | ((with_reducible refine gate_op (op := .store 29 (.tmp 9) (.tmp 57)) rfl ?_); refine wpList_store_row rfl 29 (.tmp 9) (.tmp 57) rfl _ (VT.c (VT.leaf 4 0 s)) rfl rfl 29 _ (hS.at_ 0 rfl) (VT.val_info _) rfl (VT.c_one _) ?_; intro wn hbn hgn hon hsn; have hS1 := hS.put 0 rfl hon hbn hgn; clear hS hbn hgn hon hsn; have hS := hS1; clear hS1; have x0 := (cell_of_row _ _ 0 _ _ _ (hS.at_ 0 rfl)).trans (show (VT.leaf 4 0 s).c[0]? = some (.int .i64 4) from rfl); have x2 := (cell_of_row _ _ 2 _ _ _ (hS.at_ 0 rfl)).trans (show (VT.leaf 4 0 s).c[2]? = some (.string s) from rfl)))
  go_ret
  exact ⟨rfl, hS.below⟩
set_option maxRecDepth 100000 in
set_option maxHeartbeats 1000000 in
theorem cs0_p (q1 : (bits BinOp.and IntKind.i64 how 7 == 1) = false) (q2 : (bits BinOp.and IntKind.i64 how 7 == 2) = false) (q3 : (bits BinOp.and IntKind.i64 how 7 == 3) = false) (q4 : (bits BinOp.and IntKind.i64 how 7 == 4) = false) (q5 : (bits BinOp.and IntKind.i64 how 7 == 5) = false) (hl : ¬ 4000 < (s.size : Int)) (x : Int) (hx : ¬ 0 ≤ x) (HX : ∀ W, Calls Tryd.prog 9 #[.string s] W fun e w' => e = .returned (.int .i64 x) ∧ Below W.heap.size W w') (hz : (s : ByteArray).size ≤ 9223372036854775807) (T : ByteArray) (hTs : T.size ≤ 9223372036854775807) (ht : textV (VT.leaf 4 0 s) = (T, true)) (hv : cellV T = (VT.leaf 4 0 s, 0)) (f0 : T.toList.isEmpty = false) (f1 : (T.toList == (s : ByteArray).toList) = true) : Calls Tryd.prog 4 #[.string s, .int .i64 n, .int .i64 how] w fun e w' => e = .returned (.bool true) ∧ Below w.heap.size w w' := by
  have HV := Lib.hid hw
  clear hw
  have HXh := Lib.hid HX
  clear HX
  have hth := Lib.hid ht
  clear ht
  have hvh := Lib.hid hv
  clear hv
  have hS := Boxes.start w
  go_enter Tryd.func4, Tryd.ntmps4
  go_wp2_with (first | go_skip | (go_at_call 5; (with_reducible (refine (awake15_any _ (HV.out.step hS.below)).mono ?_)); rintro e wn ⟨rfl, hbn⟩; have hS1 := hS.step hbn; clear hS hbn; have hS := hS1; clear hS1) | (go_at_call 9; (with_reducible (refine (HXh.out _).mono ?_)); rintro e wn ⟨rfl, hbn⟩; have hS1 := hS.step hbn; clear hS hbn; have hS := hS1; clear hS1) | (go_at_call 6; (with_reducible (refine (text_leaf _ _ _ _ hth.out _ (HV.out.step hS.below) (by decide) hz).mono ?_)); rintro e wn ⟨rfl, hbn⟩; have hS1 := hS.step hbn; clear hS hbn; have hS := hS1; clear hS1) | (go_at_call 7; (with_reducible (refine (val_is _ _ _ hvh.out _ (HV.out.step hS.below) hTs).mono ?_)); rintro e wn ⟨rfl, hbn⟩; have hS1 := hS.step hbn; clear hS hbn; have hS := hS1; clear hS1) | ((with_reducible refine gate_op (op := .alloc 29) rfl ?_); refine alloc_arm rfl 29 rfl (val_alloc _) ?_; intro wn hbn hgn; have hS1 := hS.new hbn hgn; clear hS hbn hgn; have hS := hS1; clear hS1) | ((with_reducible refine gate_op (op := .store 29 (.tmp 9) (.tmp 57)) rfl ?_); refine wpList_store_row rfl 29 (.tmp 9) (.tmp 57) rfl _ (VT.c (VT.leaf 4 0 s)) rfl rfl 29 _ (hS.at_ 0 rfl) (VT.val_info _) rfl (VT.c_one _) ?_; intro wn hbn hgn hon hsn; have hS1 := hS.put 0 rfl hon hbn hgn; clear hS hbn hgn hon hsn; have hS := hS1; clear hS1; have x0 := (cell_of_row _ _ 0 _ _ _ (hS.at_ 0 rfl)).trans (show (VT.leaf 4 0 s).c[0]? = some (.int .i64 4) from rfl); have x2 := (cell_of_row _ _ 2 _ _ _ (hS.at_ 0 rfl)).trans (show (VT.leaf 4 0 s).c[2]? = some (.string s) from rfl)))
  go_ret
  exact ⟨rfl, hS.below⟩
set_option maxRecDepth 100000 in
set_option maxHeartbeats 1000000 in
theorem cs1_l (q1 : (bits BinOp.and IntKind.i64 how 7 == 1) = true) (N : ByteArray) (hN : N.size ≤ 21) (HN : ∀ W, Calls Tryd.prog 8 #[.int .i64 n] W fun e w' => e = .returned (.string N) ∧ Below W.heap.size W w') (hl : 4000 < (N.size : Int)) : Calls Tryd.prog 4 #[.string s, .int .i64 n, .int .i64 how] w fun e w' => e = .returned (.bool true) ∧ Below w.heap.size w w' := by
  have HV := Lib.hid hw
  clear hw
  have HNh := Lib.hid HN
  clear HN
  have hS := Boxes.start w
  go_enter Tryd.func4, Tryd.ntmps4
  go_wp2_with (first | go_skip | (go_at_call 5; (with_reducible (refine (awake15_any _ (HV.out.step hS.below)).mono ?_)); rintro e wn ⟨rfl, hbn⟩; have hS1 := hS.step hbn; clear hS hbn; have hS := hS1; clear hS1) | (go_at_call 8; (with_reducible (refine (HNh.out _).mono ?_)); rintro e wn ⟨rfl, hbn⟩; have hS1 := hS.step hbn; clear hS hbn; have hS := hS1; clear hS1))
  go_ret
  exact ⟨rfl, hS.below⟩
set_option maxRecDepth 100000 in
set_option maxHeartbeats 1000000 in
theorem cs1_v (q1 : (bits BinOp.and IntKind.i64 how 7 == 1) = true) (N : ByteArray) (hN : N.size ≤ 21) (HN : ∀ W, Calls Tryd.prog 8 #[.int .i64 n] W fun e w' => e = .returned (.string N) ∧ Below W.heap.size W w') (hl : ¬ 4000 < (N.size : Int)) (x : Int) (hx : 0 ≤ x) (HX : ∀ W, Calls Tryd.prog 9 #[.string N] W fun e w' => e = .returned (.int .i64 x) ∧ Below W.heap.size W w') : Calls Tryd.prog 4 #[.string s, .int .i64 n, .int .i64 how] w fun e w' => e = .returned (.bool true) ∧ Below w.heap.size w w' := by
  have HV := Lib.hid hw
  clear hw
  have HNh := Lib.hid HN
  clear HN
  have HXh := Lib.hid HX
  clear HX
  have hS := Boxes.start w
  go_enter Tryd.func4, Tryd.ntmps4
  go_wp2_with (first | go_skip | (go_at_call 5; (with_reducible (refine (awake15_any _ (HV.out.step hS.below)).mono ?_)); rintro e wn ⟨rfl, hbn⟩; have hS1 := hS.step hbn; clear hS hbn; have hS := hS1; clear hS1) | (go_at_call 8; (with_reducible (refine (HNh.out _).mono ?_)); rintro e wn ⟨rfl, hbn⟩; have hS1 := hS.step hbn; clear hS hbn; have hS := hS1; clear hS1) | (go_at_call 9; (with_reducible (refine (HXh.out _).mono ?_)); rintro e wn ⟨rfl, hbn⟩; have hS1 := hS.step hbn; clear hS hbn; have hS := hS1; clear hS1))
  go_ret
  exact ⟨rfl, hS.below⟩
set_option maxRecDepth 100000 in
set_option maxHeartbeats 1000000 in
theorem cs1_q (q1 : (bits BinOp.and IntKind.i64 how 7 == 1) = true) (N : ByteArray) (hN : N.size ≤ 21) (HN : ∀ W, Calls Tryd.prog 8 #[.int .i64 n] W fun e w' => e = .returned (.string N) ∧ Below W.heap.size W w') (hl : ¬ 4000 < (N.size : Int)) (x : Int) (hx : ¬ 0 ≤ x) (HX : ∀ W, Calls Tryd.prog 9 #[.string N] W fun e w' => e = .returned (.int .i64 x) ∧ Below W.heap.size W w') (hz : (N : ByteArray).size ≤ 9223372036854775807) (T : ByteArray) (hTs : T.size ≤ 9223372036854775807) (ht : textV (VT.leaf 4 0 N) = (T, true)) (hv : cellV T = (VT.leaf 4 0 N, 0)) (f0 : T.toList.isEmpty = false) (f1 : (T.toList == (N : ByteArray).toList) = false) (f2 : (T.toList == ({ data := #[39] } ++ N : ByteArray).toList) = true) (hc2 : ¬ 9223372036854775807 < 1 + (N : ByteArray).size) : Calls Tryd.prog 4 #[.string s, .int .i64 n, .int .i64 how] w fun e w' => e = .returned (.bool true) ∧ Below w.heap.size w w' := by
  have HV := Lib.hid hw
  clear hw
  have HNh := Lib.hid HN
  clear HN
  have HXh := Lib.hid HX
  clear HX
  have hth := Lib.hid ht
  clear ht
  have hvh := Lib.hid hv
  clear hv
  have hS := Boxes.start w
  go_enter Tryd.func4, Tryd.ntmps4
  go_wp2_with (first | go_skip | (go_at_call 5; (with_reducible (refine (awake15_any _ (HV.out.step hS.below)).mono ?_)); rintro e wn ⟨rfl, hbn⟩; have hS1 := hS.step hbn; clear hS hbn; have hS := hS1; clear hS1) | (go_at_call 8; (with_reducible (refine (HNh.out _).mono ?_)); rintro e wn ⟨rfl, hbn⟩; have hS1 := hS.step hbn; clear hS hbn; have hS := hS1; clear hS1) | (go_at_call 9; (with_reducible (refine (HXh.out _).mono ?_)); rintro e wn ⟨rfl, hbn⟩; have hS1 := hS.step hbn; clear hS hbn; have hS := hS1; clear hS1) | (go_at_call 6; (with_reducible (refine (text_leaf _ _ _ _ hth.out _ (HV.out.step hS.below) (by decide) hz).mono ?_)); rintro e wn ⟨rfl, hbn⟩; have hS1 := hS.step hbn; clear hS hbn; have hS := hS1; clear hS1) | (go_at_call 7; (with_reducible (refine (val_is _ _ _ hvh.out _ (HV.out.step hS.below) hTs).mono ?_)); rintro e wn ⟨rfl, hbn⟩; have hS1 := hS.step hbn; clear hS hbn; have hS := hS1; clear hS1) | ((with_reducible refine gate_op (op := .alloc 29) rfl ?_); refine alloc_arm rfl 29 rfl (val_alloc _) ?_; intro wn hbn hgn; have hS1 := hS.new hbn hgn; clear hS hbn hgn; have hS := hS1; clear hS1) | ((with_reducible refine gate_op (op := .store 29 (.tmp 9) (.tmp 57)) rfl ?_); refine wpList_store_row rfl 29 (.tmp 9) (.tmp 57) rfl _ (VT.c (VT.leaf 4 0 N)) rfl rfl 29 _ (hS.at_ 0 rfl) (VT.val_info _) rfl (VT.c_one _) ?_; intro wn hbn hgn hon hsn; have hS1 := hS.put 0 rfl hon hbn hgn; clear hS hbn hgn hon hsn; have hS := hS1; clear hS1; have x0 := (cell_of_row _ _ 0 _ _ _ (hS.at_ 0 rfl)).trans (show (VT.leaf 4 0 N).c[0]? = some (.int .i64 4) from rfl); have x2 := (cell_of_row _ _ 2 _ _ _ (hS.at_ 0 rfl)).trans (show (VT.leaf 4 0 N).c[2]? = some (.string N) from rfl)))
  go_ret
  exact ⟨rfl, hS.below⟩
set_option maxRecDepth 100000 in
set_option maxHeartbeats 1000000 in
theorem cs1_p (q1 : (bits BinOp.and IntKind.i64 how 7 == 1) = true) (N : ByteArray) (hN : N.size ≤ 21) (HN : ∀ W, Calls Tryd.prog 8 #[.int .i64 n] W fun e w' => e = .returned (.string N) ∧ Below W.heap.size W w') (hl : ¬ 4000 < (N.size : Int)) (x : Int) (hx : ¬ 0 ≤ x) (HX : ∀ W, Calls Tryd.prog 9 #[.string N] W fun e w' => e = .returned (.int .i64 x) ∧ Below W.heap.size W w') (hz : (N : ByteArray).size ≤ 9223372036854775807) (T : ByteArray) (hTs : T.size ≤ 9223372036854775807) (ht : textV (VT.leaf 4 0 N) = (T, true)) (hv : cellV T = (VT.leaf 4 0 N, 0)) (f0 : T.toList.isEmpty = false) (f1 : (T.toList == (N : ByteArray).toList) = true) : Calls Tryd.prog 4 #[.string s, .int .i64 n, .int .i64 how] w fun e w' => e = .returned (.bool true) ∧ Below w.heap.size w w' := by
  have HV := Lib.hid hw
  clear hw
  have HNh := Lib.hid HN
  clear HN
  have HXh := Lib.hid HX
  clear HX
  have hth := Lib.hid ht
  clear ht
  have hvh := Lib.hid hv
  clear hv
  have hS := Boxes.start w
  go_enter Tryd.func4, Tryd.ntmps4
  go_wp2_with (first | go_skip | (go_at_call 5; (with_reducible (refine (awake15_any _ (HV.out.step hS.below)).mono ?_)); rintro e wn ⟨rfl, hbn⟩; have hS1 := hS.step hbn; clear hS hbn; have hS := hS1; clear hS1) | (go_at_call 8; (with_reducible (refine (HNh.out _).mono ?_)); rintro e wn ⟨rfl, hbn⟩; have hS1 := hS.step hbn; clear hS hbn; have hS := hS1; clear hS1) | (go_at_call 9; (with_reducible (refine (HXh.out _).mono ?_)); rintro e wn ⟨rfl, hbn⟩; have hS1 := hS.step hbn; clear hS hbn; have hS := hS1; clear hS1) | (go_at_call 6; (with_reducible (refine (text_leaf _ _ _ _ hth.out _ (HV.out.step hS.below) (by decide) hz).mono ?_)); rintro e wn ⟨rfl, hbn⟩; have hS1 := hS.step hbn; clear hS hbn; have hS := hS1; clear hS1) | (go_at_call 7; (with_reducible (refine (val_is _ _ _ hvh.out _ (HV.out.step hS.below) hTs).mono ?_)); rintro e wn ⟨rfl, hbn⟩; have hS1 := hS.step hbn; clear hS hbn; have hS := hS1; clear hS1) | ((with_reducible refine gate_op (op := .alloc 29) rfl ?_); refine alloc_arm rfl 29 rfl (val_alloc _) ?_; intro wn hbn hgn; have hS1 := hS.new hbn hgn; clear hS hbn hgn; have hS := hS1; clear hS1) | ((with_reducible refine gate_op (op := .store 29 (.tmp 9) (.tmp 57)) rfl ?_); refine wpList_store_row rfl 29 (.tmp 9) (.tmp 57) rfl _ (VT.c (VT.leaf 4 0 N)) rfl rfl 29 _ (hS.at_ 0 rfl) (VT.val_info _) rfl (VT.c_one _) ?_; intro wn hbn hgn hon hsn; have hS1 := hS.put 0 rfl hon hbn hgn; clear hS hbn hgn hon hsn; have hS := hS1; clear hS1; have x0 := (cell_of_row _ _ 0 _ _ _ (hS.at_ 0 rfl)).trans (show (VT.leaf 4 0 N).c[0]? = some (.int .i64 4) from rfl); have x2 := (cell_of_row _ _ 2 _ _ _ (hS.at_ 0 rfl)).trans (show (VT.leaf 4 0 N).c[2]? = some (.string N) from rfl)))
  go_ret
  exact ⟨rfl, hS.below⟩
set_option maxRecDepth 100000 in
set_option maxHeartbeats 1000000 in
theorem cs2_l (q1 : (bits BinOp.and IntKind.i64 how 7 == 1) = false) (q2 : (bits BinOp.and IntKind.i64 how 7 == 2) = true) (S : ByteArray) (hS0 : ({ data := #[39] } ++ s) = S) (hl : 4000 < 1 + (s.size : Int)) : Calls Tryd.prog 4 #[.string s, .int .i64 n, .int .i64 how] w fun e w' => e = .returned (.bool true) ∧ Below w.heap.size w w' := by
  have HV := Lib.hid hw
  clear hw
  subst hS0
  have hc : ¬ 9223372036854775807 < 1 + s.size := by omega
  have hS := Boxes.start w
  go_enter Tryd.func4, Tryd.ntmps4
  go_wp2_with (first | go_skip | (go_at_call 5; (with_reducible (refine (awake15_any _ (HV.out.step hS.below)).mono ?_)); rintro e wn ⟨rfl, hbn⟩; have hS1 := hS.step hbn; clear hS hbn; have hS := hS1; clear hS1))
  go_ret
  exact ⟨rfl, hS.below⟩
set_option maxRecDepth 100000 in
set_option maxHeartbeats 1000000 in
theorem cs2_v (q1 : (bits BinOp.and IntKind.i64 how 7 == 1) = false) (q2 : (bits BinOp.and IntKind.i64 how 7 == 2) = true) (S : ByteArray) (hS0 : ({ data := #[39] } ++ s) = S) (hl : ¬ 4000 < 1 + (s.size : Int)) (x : Int) (hx : 0 ≤ x) (HX : ∀ W, Calls Tryd.prog 9 #[.string S] W fun e w' => e = .returned (.int .i64 x) ∧ Below W.heap.size W w') : Calls Tryd.prog 4 #[.string s, .int .i64 n, .int .i64 how] w fun e w' => e = .returned (.bool true) ∧ Below w.heap.size w w' := by
  have HV := Lib.hid hw
  clear hw
  have HXh := Lib.hid HX
  clear HX
  subst hS0
  have hc : ¬ 9223372036854775807 < 1 + s.size := by omega
  have hS := Boxes.start w
  go_enter Tryd.func4, Tryd.ntmps4
  go_wp2_with (first | go_skip | (go_at_call 5; (with_reducible (refine (awake15_any _ (HV.out.step hS.below)).mono ?_)); rintro e wn ⟨rfl, hbn⟩; have hS1 := hS.step hbn; clear hS hbn; have hS := hS1; clear hS1) | (go_at_call 9; (with_reducible (refine (HXh.out _).mono ?_)); rintro e wn ⟨rfl, hbn⟩; have hS1 := hS.step hbn; clear hS hbn; have hS := hS1; clear hS1))
  go_ret
  exact ⟨rfl, hS.below⟩
set_option maxRecDepth 100000 in
set_option maxHeartbeats 1000000 in
theorem cs2_q (q1 : (bits BinOp.and IntKind.i64 how 7 == 1) = false) (q2 : (bits BinOp.and IntKind.i64 how 7 == 2) = true) (S : ByteArray) (hS0 : ({ data := #[39] } ++ s) = S) (hl : ¬ 4000 < 1 + (s.size : Int)) (x : Int) (hx : ¬ 0 ≤ x) (HX : ∀ W, Calls Tryd.prog 9 #[.string S] W fun e w' => e = .returned (.int .i64 x) ∧ Below W.heap.size W w') (hz : (S : ByteArray).size ≤ 9223372036854775807) (T : ByteArray) (hTs : T.size ≤ 9223372036854775807) (ht : textV (VT.leaf 4 0 S) = (T, true)) (hv : cellV T = (VT.leaf 4 0 S, 0)) (f0 : T.toList.isEmpty = false) (f1 : (T.toList == (S : ByteArray).toList) = false) (f2 : (T.toList == ({ data := #[39] } ++ S : ByteArray).toList) = true) (hc2 : ¬ 9223372036854775807 < 1 + (S : ByteArray).size) : Calls Tryd.prog 4 #[.string s, .int .i64 n, .int .i64 how] w fun e w' => e = .returned (.bool true) ∧ Below w.heap.size w w' := by
  have HV := Lib.hid hw
  clear hw
  have HXh := Lib.hid HX
  clear HX
  have hth := Lib.hid ht
  clear ht
  have hvh := Lib.hid hv
  clear hv
  subst hS0
  have hc : ¬ 9223372036854775807 < 1 + s.size := by omega
  have hS := Boxes.start w
  go_enter Tryd.func4, Tryd.ntmps4
  go_wp2_with (first | go_skip | (go_at_call 5; (with_reducible (refine (awake15_any _ (HV.out.step hS.below)).mono ?_)); rintro e wn ⟨rfl, hbn⟩; have hS1 := hS.step hbn; clear hS hbn; have hS := hS1; clear hS1) | (go_at_call 9; (with_reducible (refine (HXh.out _).mono ?_)); rintro e wn ⟨rfl, hbn⟩; have hS1 := hS.step hbn; clear hS hbn; have hS := hS1; clear hS1) | (go_at_call 6; (with_reducible (refine (text_leaf _ _ _ _ hth.out _ (HV.out.step hS.below) (by decide) hz).mono ?_)); rintro e wn ⟨rfl, hbn⟩; have hS1 := hS.step hbn; clear hS hbn; have hS := hS1; clear hS1) | (go_at_call 7; (with_reducible (refine (val_is _ _ _ hvh.out _ (HV.out.step hS.below) hTs).mono ?_)); rintro e wn ⟨rfl, hbn⟩; have hS1 := hS.step hbn; clear hS hbn; have hS := hS1; clear hS1) | ((with_reducible refine gate_op (op := .alloc 29) rfl ?_); refine alloc_arm rfl 29 rfl (val_alloc _) ?_; intro wn hbn hgn; have hS1 := hS.new hbn hgn; clear hS hbn hgn; have hS := hS1; clear hS1) | ((with_reducible refine gate_op (op := .store 29 (.tmp 9) (.tmp 57)) rfl ?_); refine wpList_store_row rfl 29 (.tmp 9) (.tmp 57) rfl _ (VT.c (VT.leaf 4 0 ({ data := #[39] } ++ s))) rfl rfl 29 _ (hS.at_ 0 rfl) (VT.val_info _) rfl (VT.c_one _) ?_; intro wn hbn hgn hon hsn; have hS1 := hS.put 0 rfl hon hbn hgn; clear hS hbn hgn hon hsn; have hS := hS1; clear hS1; have x0 := (cell_of_row _ _ 0 _ _ _ (hS.at_ 0 rfl)).trans (show (VT.leaf 4 0 ({ data := #[39] } ++ s)).c[0]? = some (.int .i64 4) from rfl); have x2 := (cell_of_row _ _ 2 _ _ _ (hS.at_ 0 rfl)).trans (show (VT.leaf 4 0 ({ data := #[39] } ++ s)).c[2]? = some (.string ({ data := #[39] } ++ s)) from rfl)))
  go_ret
  exact ⟨rfl, hS.below⟩
set_option maxRecDepth 100000 in
set_option maxHeartbeats 1000000 in
theorem cs2_p (q1 : (bits BinOp.and IntKind.i64 how 7 == 1) = false) (q2 : (bits BinOp.and IntKind.i64 how 7 == 2) = true) (S : ByteArray) (hS0 : ({ data := #[39] } ++ s) = S) (hl : ¬ 4000 < 1 + (s.size : Int)) (x : Int) (hx : ¬ 0 ≤ x) (HX : ∀ W, Calls Tryd.prog 9 #[.string S] W fun e w' => e = .returned (.int .i64 x) ∧ Below W.heap.size W w') (hz : (S : ByteArray).size ≤ 9223372036854775807) (T : ByteArray) (hTs : T.size ≤ 9223372036854775807) (ht : textV (VT.leaf 4 0 S) = (T, true)) (hv : cellV T = (VT.leaf 4 0 S, 0)) (f0 : T.toList.isEmpty = false) (f1 : (T.toList == (S : ByteArray).toList) = true) : Calls Tryd.prog 4 #[.string s, .int .i64 n, .int .i64 how] w fun e w' => e = .returned (.bool true) ∧ Below w.heap.size w w' := by
  have HV := Lib.hid hw
  clear hw
  have HXh := Lib.hid HX
  clear HX
  have hth := Lib.hid ht
  clear ht
  have hvh := Lib.hid hv
  clear hv
  subst hS0
  have hc : ¬ 9223372036854775807 < 1 + s.size := by omega
  have hS := Boxes.start w
  go_enter Tryd.func4, Tryd.ntmps4
  go_wp2_with (first | go_skip | (go_at_call 5; (with_reducible (refine (awake15_any _ (HV.out.step hS.below)).mono ?_)); rintro e wn ⟨rfl, hbn⟩; have hS1 := hS.step hbn; clear hS hbn; have hS := hS1; clear hS1) | (go_at_call 9; (with_reducible (refine (HXh.out _).mono ?_)); rintro e wn ⟨rfl, hbn⟩; have hS1 := hS.step hbn; clear hS hbn; have hS := hS1; clear hS1) | (go_at_call 6; (with_reducible (refine (text_leaf _ _ _ _ hth.out _ (HV.out.step hS.below) (by decide) hz).mono ?_)); rintro e wn ⟨rfl, hbn⟩; have hS1 := hS.step hbn; clear hS hbn; have hS := hS1; clear hS1) | (go_at_call 7; (with_reducible (refine (val_is _ _ _ hvh.out _ (HV.out.step hS.below) hTs).mono ?_)); rintro e wn ⟨rfl, hbn⟩; have hS1 := hS.step hbn; clear hS hbn; have hS := hS1; clear hS1) | ((with_reducible refine gate_op (op := .alloc 29) rfl ?_); refine alloc_arm rfl 29 rfl (val_alloc _) ?_; intro wn hbn hgn; have hS1 := hS.new hbn hgn; clear hS hbn hgn; have hS := hS1; clear hS1) | ((with_reducible refine gate_op (op := .store 29 (.tmp 9) (.tmp 57)) rfl ?_); refine wpList_store_row rfl 29 (.tmp 9) (.tmp 57) rfl _ (VT.c (VT.leaf 4 0 ({ data := #[39] } ++ s))) rfl rfl 29 _ (hS.at_ 0 rfl) (VT.val_info _) rfl (VT.c_one _) ?_; intro wn hbn hgn hon hsn; have hS1 := hS.put 0 rfl hon hbn hgn; clear hS hbn hgn hon hsn; have hS := hS1; clear hS1; have x0 := (cell_of_row _ _ 0 _ _ _ (hS.at_ 0 rfl)).trans (show (VT.leaf 4 0 ({ data := #[39] } ++ s)).c[0]? = some (.int .i64 4) from rfl); have x2 := (cell_of_row _ _ 2 _ _ _ (hS.at_ 0 rfl)).trans (show (VT.leaf 4 0 ({ data := #[39] } ++ s)).c[2]? = some (.string ({ data := #[39] } ++ s)) from rfl)))
  go_ret
  exact ⟨rfl, hS.below⟩
set_option maxRecDepth 100000 in
set_option maxHeartbeats 1000000 in
theorem cs3_l (q1 : (bits BinOp.and IntKind.i64 how 7 == 1) = false) (q2 : (bits BinOp.and IntKind.i64 how 7 == 2) = false) (q3 : (bits BinOp.and IntKind.i64 how 7 == 3) = true) (S : ByteArray) (hS0 : ({ data := #[64] } ++ s) = S) (hl : 4000 < 1 + (s.size : Int)) : Calls Tryd.prog 4 #[.string s, .int .i64 n, .int .i64 how] w fun e w' => e = .returned (.bool true) ∧ Below w.heap.size w w' := by
  have HV := Lib.hid hw
  clear hw
  subst hS0
  have hc : ¬ 9223372036854775807 < 1 + s.size := by omega
  have hS := Boxes.start w
  go_enter Tryd.func4, Tryd.ntmps4
  go_wp2_with (first | go_skip | (go_at_call 5; (with_reducible (refine (awake15_any _ (HV.out.step hS.below)).mono ?_)); rintro e wn ⟨rfl, hbn⟩; have hS1 := hS.step hbn; clear hS hbn; have hS := hS1; clear hS1))
  go_ret
  exact ⟨rfl, hS.below⟩
set_option maxRecDepth 100000 in
set_option maxHeartbeats 1000000 in
theorem cs3_v (q1 : (bits BinOp.and IntKind.i64 how 7 == 1) = false) (q2 : (bits BinOp.and IntKind.i64 how 7 == 2) = false) (q3 : (bits BinOp.and IntKind.i64 how 7 == 3) = true) (S : ByteArray) (hS0 : ({ data := #[64] } ++ s) = S) (hl : ¬ 4000 < 1 + (s.size : Int)) (x : Int) (hx : 0 ≤ x) (HX : ∀ W, Calls Tryd.prog 9 #[.string S] W fun e w' => e = .returned (.int .i64 x) ∧ Below W.heap.size W w') : Calls Tryd.prog 4 #[.string s, .int .i64 n, .int .i64 how] w fun e w' => e = .returned (.bool true) ∧ Below w.heap.size w w' := by
  have HV := Lib.hid hw
  clear hw
  have HXh := Lib.hid HX
  clear HX
  subst hS0
  have hc : ¬ 9223372036854775807 < 1 + s.size := by omega
  have hS := Boxes.start w
  go_enter Tryd.func4, Tryd.ntmps4
  go_wp2_with (first | go_skip | (go_at_call 5; (with_reducible (refine (awake15_any _ (HV.out.step hS.below)).mono ?_)); rintro e wn ⟨rfl, hbn⟩; have hS1 := hS.step hbn; clear hS hbn; have hS := hS1; clear hS1) | (go_at_call 9; (with_reducible (refine (HXh.out _).mono ?_)); rintro e wn ⟨rfl, hbn⟩; have hS1 := hS.step hbn; clear hS hbn; have hS := hS1; clear hS1))
  go_ret
  exact ⟨rfl, hS.below⟩
set_option maxRecDepth 100000 in
set_option maxHeartbeats 1000000 in
theorem cs3_q (q1 : (bits BinOp.and IntKind.i64 how 7 == 1) = false) (q2 : (bits BinOp.and IntKind.i64 how 7 == 2) = false) (q3 : (bits BinOp.and IntKind.i64 how 7 == 3) = true) (S : ByteArray) (hS0 : ({ data := #[64] } ++ s) = S) (hl : ¬ 4000 < 1 + (s.size : Int)) (x : Int) (hx : ¬ 0 ≤ x) (HX : ∀ W, Calls Tryd.prog 9 #[.string S] W fun e w' => e = .returned (.int .i64 x) ∧ Below W.heap.size W w') (hz : (S : ByteArray).size ≤ 9223372036854775807) (T : ByteArray) (hTs : T.size ≤ 9223372036854775807) (ht : textV (VT.leaf 4 0 S) = (T, true)) (hv : cellV T = (VT.leaf 4 0 S, 0)) (f0 : T.toList.isEmpty = false) (f1 : (T.toList == (S : ByteArray).toList) = false) (f2 : (T.toList == ({ data := #[39] } ++ S : ByteArray).toList) = true) (hc2 : ¬ 9223372036854775807 < 1 + (S : ByteArray).size) : Calls Tryd.prog 4 #[.string s, .int .i64 n, .int .i64 how] w fun e w' => e = .returned (.bool true) ∧ Below w.heap.size w w' := by
  have HV := Lib.hid hw
  clear hw
  have HXh := Lib.hid HX
  clear HX
  have hth := Lib.hid ht
  clear ht
  have hvh := Lib.hid hv
  clear hv
  subst hS0
  have hc : ¬ 9223372036854775807 < 1 + s.size := by omega
  have hS := Boxes.start w
  go_enter Tryd.func4, Tryd.ntmps4
  go_wp2_with (first | go_skip | (go_at_call 5; (with_reducible (refine (awake15_any _ (HV.out.step hS.below)).mono ?_)); rintro e wn ⟨rfl, hbn⟩; have hS1 := hS.step hbn; clear hS hbn; have hS := hS1; clear hS1) | (go_at_call 9; (with_reducible (refine (HXh.out _).mono ?_)); rintro e wn ⟨rfl, hbn⟩; have hS1 := hS.step hbn; clear hS hbn; have hS := hS1; clear hS1) | (go_at_call 6; (with_reducible (refine (text_leaf _ _ _ _ hth.out _ (HV.out.step hS.below) (by decide) hz).mono ?_)); rintro e wn ⟨rfl, hbn⟩; have hS1 := hS.step hbn; clear hS hbn; have hS := hS1; clear hS1) | (go_at_call 7; (with_reducible (refine (val_is _ _ _ hvh.out _ (HV.out.step hS.below) hTs).mono ?_)); rintro e wn ⟨rfl, hbn⟩; have hS1 := hS.step hbn; clear hS hbn; have hS := hS1; clear hS1) | ((with_reducible refine gate_op (op := .alloc 29) rfl ?_); refine alloc_arm rfl 29 rfl (val_alloc _) ?_; intro wn hbn hgn; have hS1 := hS.new hbn hgn; clear hS hbn hgn; have hS := hS1; clear hS1) | ((with_reducible refine gate_op (op := .store 29 (.tmp 9) (.tmp 57)) rfl ?_); refine wpList_store_row rfl 29 (.tmp 9) (.tmp 57) rfl _ (VT.c (VT.leaf 4 0 ({ data := #[64] } ++ s))) rfl rfl 29 _ (hS.at_ 0 rfl) (VT.val_info _) rfl (VT.c_one _) ?_; intro wn hbn hgn hon hsn; have hS1 := hS.put 0 rfl hon hbn hgn; clear hS hbn hgn hon hsn; have hS := hS1; clear hS1; have x0 := (cell_of_row _ _ 0 _ _ _ (hS.at_ 0 rfl)).trans (show (VT.leaf 4 0 ({ data := #[64] } ++ s)).c[0]? = some (.int .i64 4) from rfl); have x2 := (cell_of_row _ _ 2 _ _ _ (hS.at_ 0 rfl)).trans (show (VT.leaf 4 0 ({ data := #[64] } ++ s)).c[2]? = some (.string ({ data := #[64] } ++ s)) from rfl)))
  go_ret
  exact ⟨rfl, hS.below⟩
set_option maxRecDepth 100000 in
set_option maxHeartbeats 1000000 in
theorem cs3_p (q1 : (bits BinOp.and IntKind.i64 how 7 == 1) = false) (q2 : (bits BinOp.and IntKind.i64 how 7 == 2) = false) (q3 : (bits BinOp.and IntKind.i64 how 7 == 3) = true) (S : ByteArray) (hS0 : ({ data := #[64] } ++ s) = S) (hl : ¬ 4000 < 1 + (s.size : Int)) (x : Int) (hx : ¬ 0 ≤ x) (HX : ∀ W, Calls Tryd.prog 9 #[.string S] W fun e w' => e = .returned (.int .i64 x) ∧ Below W.heap.size W w') (hz : (S : ByteArray).size ≤ 9223372036854775807) (T : ByteArray) (hTs : T.size ≤ 9223372036854775807) (ht : textV (VT.leaf 4 0 S) = (T, true)) (hv : cellV T = (VT.leaf 4 0 S, 0)) (f0 : T.toList.isEmpty = false) (f1 : (T.toList == (S : ByteArray).toList) = true) : Calls Tryd.prog 4 #[.string s, .int .i64 n, .int .i64 how] w fun e w' => e = .returned (.bool true) ∧ Below w.heap.size w w' := by
  have HV := Lib.hid hw
  clear hw
  have HXh := Lib.hid HX
  clear HX
  have hth := Lib.hid ht
  clear ht
  have hvh := Lib.hid hv
  clear hv
  subst hS0
  have hc : ¬ 9223372036854775807 < 1 + s.size := by omega
  have hS := Boxes.start w
  go_enter Tryd.func4, Tryd.ntmps4
  go_wp2_with (first | go_skip | (go_at_call 5; (with_reducible (refine (awake15_any _ (HV.out.step hS.below)).mono ?_)); rintro e wn ⟨rfl, hbn⟩; have hS1 := hS.step hbn; clear hS hbn; have hS := hS1; clear hS1) | (go_at_call 9; (with_reducible (refine (HXh.out _).mono ?_)); rintro e wn ⟨rfl, hbn⟩; have hS1 := hS.step hbn; clear hS hbn; have hS := hS1; clear hS1) | (go_at_call 6; (with_reducible (refine (text_leaf _ _ _ _ hth.out _ (HV.out.step hS.below) (by decide) hz).mono ?_)); rintro e wn ⟨rfl, hbn⟩; have hS1 := hS.step hbn; clear hS hbn; have hS := hS1; clear hS1) | (go_at_call 7; (with_reducible (refine (val_is _ _ _ hvh.out _ (HV.out.step hS.below) hTs).mono ?_)); rintro e wn ⟨rfl, hbn⟩; have hS1 := hS.step hbn; clear hS hbn; have hS := hS1; clear hS1) | ((with_reducible refine gate_op (op := .alloc 29) rfl ?_); refine alloc_arm rfl 29 rfl (val_alloc _) ?_; intro wn hbn hgn; have hS1 := hS.new hbn hgn; clear hS hbn hgn; have hS := hS1; clear hS1) | ((with_reducible refine gate_op (op := .store 29 (.tmp 9) (.tmp 57)) rfl ?_); refine wpList_store_row rfl 29 (.tmp 9) (.tmp 57) rfl _ (VT.c (VT.leaf 4 0 ({ data := #[64] } ++ s))) rfl rfl 29 _ (hS.at_ 0 rfl) (VT.val_info _) rfl (VT.c_one _) ?_; intro wn hbn hgn hon hsn; have hS1 := hS.put 0 rfl hon hbn hgn; clear hS hbn hgn hon hsn; have hS := hS1; clear hS1; have x0 := (cell_of_row _ _ 0 _ _ _ (hS.at_ 0 rfl)).trans (show (VT.leaf 4 0 ({ data := #[64] } ++ s)).c[0]? = some (.int .i64 4) from rfl); have x2 := (cell_of_row _ _ 2 _ _ _ (hS.at_ 0 rfl)).trans (show (VT.leaf 4 0 ({ data := #[64] } ++ s)).c[2]? = some (.string ({ data := #[64] } ++ s)) from rfl)))
  go_ret
  exact ⟨rfl, hS.below⟩
set_option maxRecDepth 100000 in
set_option maxHeartbeats 1000000 in
theorem cs4_l (q1 : (bits BinOp.and IntKind.i64 how 7 == 1) = false) (q2 : (bits BinOp.and IntKind.i64 how 7 == 2) = false) (q3 : (bits BinOp.and IntKind.i64 how 7 == 3) = false) (q4 : (bits BinOp.and IntKind.i64 how 7 == 4) = true) (N : ByteArray) (hN : N.size ≤ 21) (HN : ∀ W, Calls Tryd.prog 8 #[.int .i64 n] W fun e w' => e = .returned (.string N) ∧ Below W.heap.size W w') (S : ByteArray) (hS0 : (N ++ { data := #[46, 53, 101, 51] }) = S) (hl : 4000 < (N.size : Int) + 4) : Calls Tryd.prog 4 #[.string s, .int .i64 n, .int .i64 how] w fun e w' => e = .returned (.bool true) ∧ Below w.heap.size w w' := by
  have HV := Lib.hid hw
  clear hw
  have HNh := Lib.hid HN
  clear HN
  subst hS0
  have hc : ¬ 9223372036854775807 < N.size + 4 := by omega
  have hS := Boxes.start w
  go_enter Tryd.func4, Tryd.ntmps4
  go_wp2_with (first | go_skip | (go_at_call 5; (with_reducible (refine (awake15_any _ (HV.out.step hS.below)).mono ?_)); rintro e wn ⟨rfl, hbn⟩; have hS1 := hS.step hbn; clear hS hbn; have hS := hS1; clear hS1) | (go_at_call 8; (with_reducible (refine (HNh.out _).mono ?_)); rintro e wn ⟨rfl, hbn⟩; have hS1 := hS.step hbn; clear hS hbn; have hS := hS1; clear hS1))
  go_ret
  exact ⟨rfl, hS.below⟩
set_option maxRecDepth 100000 in
set_option maxHeartbeats 1000000 in
theorem cs4_v (q1 : (bits BinOp.and IntKind.i64 how 7 == 1) = false) (q2 : (bits BinOp.and IntKind.i64 how 7 == 2) = false) (q3 : (bits BinOp.and IntKind.i64 how 7 == 3) = false) (q4 : (bits BinOp.and IntKind.i64 how 7 == 4) = true) (N : ByteArray) (hN : N.size ≤ 21) (HN : ∀ W, Calls Tryd.prog 8 #[.int .i64 n] W fun e w' => e = .returned (.string N) ∧ Below W.heap.size W w') (S : ByteArray) (hS0 : (N ++ { data := #[46, 53, 101, 51] }) = S) (hl : ¬ 4000 < (N.size : Int) + 4) (x : Int) (hx : 0 ≤ x) (HX : ∀ W, Calls Tryd.prog 9 #[.string S] W fun e w' => e = .returned (.int .i64 x) ∧ Below W.heap.size W w') : Calls Tryd.prog 4 #[.string s, .int .i64 n, .int .i64 how] w fun e w' => e = .returned (.bool true) ∧ Below w.heap.size w w' := by
  have HV := Lib.hid hw
  clear hw
  have HNh := Lib.hid HN
  clear HN
  have HXh := Lib.hid HX
  clear HX
  subst hS0
  have hc : ¬ 9223372036854775807 < N.size + 4 := by omega
  have hS := Boxes.start w
  go_enter Tryd.func4, Tryd.ntmps4
  go_wp2_with (first | go_skip | (go_at_call 5; (with_reducible (refine (awake15_any _ (HV.out.step hS.below)).mono ?_)); rintro e wn ⟨rfl, hbn⟩; have hS1 := hS.step hbn; clear hS hbn; have hS := hS1; clear hS1) | (go_at_call 8; (with_reducible (refine (HNh.out _).mono ?_)); rintro e wn ⟨rfl, hbn⟩; have hS1 := hS.step hbn; clear hS hbn; have hS := hS1; clear hS1) | (go_at_call 9; (with_reducible (refine (HXh.out _).mono ?_)); rintro e wn ⟨rfl, hbn⟩; have hS1 := hS.step hbn; clear hS hbn; have hS := hS1; clear hS1))
  go_ret
  exact ⟨rfl, hS.below⟩
set_option maxRecDepth 100000 in
set_option maxHeartbeats 1000000 in
theorem cs4_q (q1 : (bits BinOp.and IntKind.i64 how 7 == 1) = false) (q2 : (bits BinOp.and IntKind.i64 how 7 == 2) = false) (q3 : (bits BinOp.and IntKind.i64 how 7 == 3) = false) (q4 : (bits BinOp.and IntKind.i64 how 7 == 4) = true) (N : ByteArray) (hN : N.size ≤ 21) (HN : ∀ W, Calls Tryd.prog 8 #[.int .i64 n] W fun e w' => e = .returned (.string N) ∧ Below W.heap.size W w') (S : ByteArray) (hS0 : (N ++ { data := #[46, 53, 101, 51] }) = S) (hl : ¬ 4000 < (N.size : Int) + 4) (x : Int) (hx : ¬ 0 ≤ x) (HX : ∀ W, Calls Tryd.prog 9 #[.string S] W fun e w' => e = .returned (.int .i64 x) ∧ Below W.heap.size W w') (hz : (S : ByteArray).size ≤ 9223372036854775807) (T : ByteArray) (hTs : T.size ≤ 9223372036854775807) (ht : textV (VT.leaf 4 0 S) = (T, true)) (hv : cellV T = (VT.leaf 4 0 S, 0)) (f0 : T.toList.isEmpty = false) (f1 : (T.toList == (S : ByteArray).toList) = false) (f2 : (T.toList == ({ data := #[39] } ++ S : ByteArray).toList) = true) (hc2 : ¬ 9223372036854775807 < 1 + (S : ByteArray).size) : Calls Tryd.prog 4 #[.string s, .int .i64 n, .int .i64 how] w fun e w' => e = .returned (.bool true) ∧ Below w.heap.size w w' := by
  have HV := Lib.hid hw
  clear hw
  have HNh := Lib.hid HN
  clear HN
  have HXh := Lib.hid HX
  clear HX
  have hth := Lib.hid ht
  clear ht
  have hvh := Lib.hid hv
  clear hv
  subst hS0
  have hc : ¬ 9223372036854775807 < N.size + 4 := by omega
  have hS := Boxes.start w
  go_enter Tryd.func4, Tryd.ntmps4
  go_wp2_with (first | go_skip | (go_at_call 5; (with_reducible (refine (awake15_any _ (HV.out.step hS.below)).mono ?_)); rintro e wn ⟨rfl, hbn⟩; have hS1 := hS.step hbn; clear hS hbn; have hS := hS1; clear hS1) | (go_at_call 8; (with_reducible (refine (HNh.out _).mono ?_)); rintro e wn ⟨rfl, hbn⟩; have hS1 := hS.step hbn; clear hS hbn; have hS := hS1; clear hS1) | (go_at_call 9; (with_reducible (refine (HXh.out _).mono ?_)); rintro e wn ⟨rfl, hbn⟩; have hS1 := hS.step hbn; clear hS hbn; have hS := hS1; clear hS1) | (go_at_call 6; (with_reducible (refine (text_leaf _ _ _ _ hth.out _ (HV.out.step hS.below) (by decide) hz).mono ?_)); rintro e wn ⟨rfl, hbn⟩; have hS1 := hS.step hbn; clear hS hbn; have hS := hS1; clear hS1) | (go_at_call 7; (with_reducible (refine (val_is _ _ _ hvh.out _ (HV.out.step hS.below) hTs).mono ?_)); rintro e wn ⟨rfl, hbn⟩; have hS1 := hS.step hbn; clear hS hbn; have hS := hS1; clear hS1) | ((with_reducible refine gate_op (op := .alloc 29) rfl ?_); refine alloc_arm rfl 29 rfl (val_alloc _) ?_; intro wn hbn hgn; have hS1 := hS.new hbn hgn; clear hS hbn hgn; have hS := hS1; clear hS1) | ((with_reducible refine gate_op (op := .store 29 (.tmp 9) (.tmp 57)) rfl ?_); refine wpList_store_row rfl 29 (.tmp 9) (.tmp 57) rfl _ (VT.c (VT.leaf 4 0 (N ++ { data := #[46, 53, 101, 51] }))) rfl rfl 29 _ (hS.at_ 0 rfl) (VT.val_info _) rfl (VT.c_one _) ?_; intro wn hbn hgn hon hsn; have hS1 := hS.put 0 rfl hon hbn hgn; clear hS hbn hgn hon hsn; have hS := hS1; clear hS1; have x0 := (cell_of_row _ _ 0 _ _ _ (hS.at_ 0 rfl)).trans (show (VT.leaf 4 0 (N ++ { data := #[46, 53, 101, 51] })).c[0]? = some (.int .i64 4) from rfl); have x2 := (cell_of_row _ _ 2 _ _ _ (hS.at_ 0 rfl)).trans (show (VT.leaf 4 0 (N ++ { data := #[46, 53, 101, 51] })).c[2]? = some (.string (N ++ { data := #[46, 53, 101, 51] })) from rfl)))
  go_ret
  exact ⟨rfl, hS.below⟩
set_option maxRecDepth 100000 in
set_option maxHeartbeats 1000000 in
theorem cs4_p (q1 : (bits BinOp.and IntKind.i64 how 7 == 1) = false) (q2 : (bits BinOp.and IntKind.i64 how 7 == 2) = false) (q3 : (bits BinOp.and IntKind.i64 how 7 == 3) = false) (q4 : (bits BinOp.and IntKind.i64 how 7 == 4) = true) (N : ByteArray) (hN : N.size ≤ 21) (HN : ∀ W, Calls Tryd.prog 8 #[.int .i64 n] W fun e w' => e = .returned (.string N) ∧ Below W.heap.size W w') (S : ByteArray) (hS0 : (N ++ { data := #[46, 53, 101, 51] }) = S) (hl : ¬ 4000 < (N.size : Int) + 4) (x : Int) (hx : ¬ 0 ≤ x) (HX : ∀ W, Calls Tryd.prog 9 #[.string S] W fun e w' => e = .returned (.int .i64 x) ∧ Below W.heap.size W w') (hz : (S : ByteArray).size ≤ 9223372036854775807) (T : ByteArray) (hTs : T.size ≤ 9223372036854775807) (ht : textV (VT.leaf 4 0 S) = (T, true)) (hv : cellV T = (VT.leaf 4 0 S, 0)) (f0 : T.toList.isEmpty = false) (f1 : (T.toList == (S : ByteArray).toList) = true) : Calls Tryd.prog 4 #[.string s, .int .i64 n, .int .i64 how] w fun e w' => e = .returned (.bool true) ∧ Below w.heap.size w w' := by
  have HV := Lib.hid hw
  clear hw
  have HNh := Lib.hid HN
  clear HN
  have HXh := Lib.hid HX
  clear HX
  have hth := Lib.hid ht
  clear ht
  have hvh := Lib.hid hv
  clear hv
  subst hS0
  have hc : ¬ 9223372036854775807 < N.size + 4 := by omega
  have hS := Boxes.start w
  go_enter Tryd.func4, Tryd.ntmps4
  go_wp2_with (first | go_skip | (go_at_call 5; (with_reducible (refine (awake15_any _ (HV.out.step hS.below)).mono ?_)); rintro e wn ⟨rfl, hbn⟩; have hS1 := hS.step hbn; clear hS hbn; have hS := hS1; clear hS1) | (go_at_call 8; (with_reducible (refine (HNh.out _).mono ?_)); rintro e wn ⟨rfl, hbn⟩; have hS1 := hS.step hbn; clear hS hbn; have hS := hS1; clear hS1) | (go_at_call 9; (with_reducible (refine (HXh.out _).mono ?_)); rintro e wn ⟨rfl, hbn⟩; have hS1 := hS.step hbn; clear hS hbn; have hS := hS1; clear hS1) | (go_at_call 6; (with_reducible (refine (text_leaf _ _ _ _ hth.out _ (HV.out.step hS.below) (by decide) hz).mono ?_)); rintro e wn ⟨rfl, hbn⟩; have hS1 := hS.step hbn; clear hS hbn; have hS := hS1; clear hS1) | (go_at_call 7; (with_reducible (refine (val_is _ _ _ hvh.out _ (HV.out.step hS.below) hTs).mono ?_)); rintro e wn ⟨rfl, hbn⟩; have hS1 := hS.step hbn; clear hS hbn; have hS := hS1; clear hS1) | ((with_reducible refine gate_op (op := .alloc 29) rfl ?_); refine alloc_arm rfl 29 rfl (val_alloc _) ?_; intro wn hbn hgn; have hS1 := hS.new hbn hgn; clear hS hbn hgn; have hS := hS1; clear hS1) | ((with_reducible refine gate_op (op := .store 29 (.tmp 9) (.tmp 57)) rfl ?_); refine wpList_store_row rfl 29 (.tmp 9) (.tmp 57) rfl _ (VT.c (VT.leaf 4 0 (N ++ { data := #[46, 53, 101, 51] }))) rfl rfl 29 _ (hS.at_ 0 rfl) (VT.val_info _) rfl (VT.c_one _) ?_; intro wn hbn hgn hon hsn; have hS1 := hS.put 0 rfl hon hbn hgn; clear hS hbn hgn hon hsn; have hS := hS1; clear hS1; have x0 := (cell_of_row _ _ 0 _ _ _ (hS.at_ 0 rfl)).trans (show (VT.leaf 4 0 (N ++ { data := #[46, 53, 101, 51] })).c[0]? = some (.int .i64 4) from rfl); have x2 := (cell_of_row _ _ 2 _ _ _ (hS.at_ 0 rfl)).trans (show (VT.leaf 4 0 (N ++ { data := #[46, 53, 101, 51] })).c[2]? = some (.string (N ++ { data := #[46, 53, 101, 51] })) from rfl)))
  go_ret
  exact ⟨rfl, hS.below⟩
end
end Go.Proofs.YtnapebgkcjnnbaaDoor
