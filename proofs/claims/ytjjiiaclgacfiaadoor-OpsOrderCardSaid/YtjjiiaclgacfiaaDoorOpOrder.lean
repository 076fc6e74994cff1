/-
  OpsOrder, walked: true for all operations. Condition: the library's variables as it lays them; 64 numbers in each vector.
-/
import Derived.Test.YtjjiiaclgacfiaaDoorOpAwake
import Derived.Test.YtjjiiaclgacfiaaDoorOpenOp
namespace Go.Proofs.YtjjiiaclgacfiaaDoor
open Go.RowKit
set_option linter.unusedVariables false
set_option linter.unusedSimpArgs false
set_option linter.unusedSectionVars false
theorem after_anti {a b : OpV} (h : afterB a b = true) : afterB b a = false := by
  unfold afterB at *; simp at *; omega
theorem after_self (a : OpV) : afterB a a = false := by unfold afterB; simp
theorem after_trans {a b c : OpV} (h : afterB a b = true) (k : afterB b c = true) : afterB a c = true := by
  unfold afterB at *; simp at *; omega
theorem after_like {a b : OpV} (h : afterB a b = false) (k : afterB b a = false) : a.T = b.T ∧ a.R = b.R := by
  unfold afterB at *; simp at *; omega
theorem after_ne {a b : OpV} (h : afterB a b = true) : ¬ (a.T = b.T ∧ a.R = b.R) := by
  unfold afterB at *; simp at *; omega
theorem After_is {a b : OpV} {v : Bool} (h : afterB a b = v) (w : World) : Calls Tryd.prog 8 #[opv a, opv b] w fun e w' => e = .returned (.bool v) ∧ Below w.heap.size w w' := h ▸ After_any a b w
section
variable (a b c : OpV) (w : World) (hw : Vars w) (ha : a.seen.length = 64) (hb : b.seen.length = 64) (hc : c.seen.length = 64)
include hw ha hb hc
set_option maxRecDepth 100000 in
set_option maxHeartbeats 2000000 in
theorem order_a1 (hx : afterB a b = true) (hy : afterB b a = false) (ht : (a.T == b.T) = false) (hz : afterB b c = false) : Calls Tryd.prog 4 #[opv a, opv b, opv c] w fun e w' => e = .returned (.bool true) ∧ Below w.heap.size w w' := by
  have HV := Lib.hid hw
  clear hw
  have hS : Boxes w (((w.alloc (Obj.cells a.c 33)).alloc (Obj.cells b.c 33)).alloc (Obj.cells c.c 33)) [(w.heap.size, Obj.cells a.c 33), (w.heap.size + 1, Obj.cells b.c 33), (w.heap.size + 2, Obj.cells c.c 33)] := by
    have := (((Boxes.start w).alloc (Obj.cells a.c 33)).alloc (Obj.cells b.c 33)).alloc (Obj.cells c.c 33)
    simpa using this
  go_enter Tryd.func4, Tryd.ntmps4
  go_wp2_with (first | go_skip | (go_at_call 5; refine (awake21_any _ (HV.out.step hS.below)).mono ?_; rintro e wn ⟨rfl, hbn⟩; have hS1 := hS.step hbn; clear hS hbn; have hS := hS1; clear hS1))
  have g0 := hS.at_ 0 rfl
  have g1 := hS.at_ 1 rfl
  have d1 := grown_calls (w := wn) (fun W _ => After_is hx W)
  have d2 := grown_calls (w := wn) (fun W _ => After_is hy W)
  refine wp_region_quiet_below (by kernel_rfl) (by kernel_rfl) ?_
  repeat (first | (refine BigFrame.wpQuiet_want rfl (fun K hK => ?_); refine quiet_load_row 33 (.tmp 3) rfl _ rfl 33 _ (0, 0) _ (row_regrown g0) Tryd.underlying33 rfl (op_info _ ha) ?_; refine hK _ ?_; clear hK K) | (refine BigFrame.wpQuiet_want rfl (fun K hK => ?_); refine quiet_load_row 33 (.tmp 4) rfl _ rfl 33 _ (0, 0) _ (row_regrown g1) Tryd.underlying33 rfl (op_info _ hb) ?_; refine hK _ ?_; clear hK K) | (quiet_step (first | with_reducible exact d1 _ _ | with_reducible exact d2 _ _)))
  refine wpQuiet_nil ?_; rintro wq ⟨⟨dq, osq⟩, rfl⟩; have hbq := below_regrown wn dq osq; generalize Go.Sort.grow (redrawn wn dq) osq = wq at *
  have hS1 := hS.step hbq
  clear hS hbq g0 g1 d1 d2
  have hS := hS1
  clear hS1
  have xa0 : wq.cell? ⟨w.heap.size, 0, none⟩ = some (.int .i64 a.R) := (cell_of_row wq _ 0 _ _ _ (hS.at_ 0 rfl)).trans (OpV.g0 (o := a))
  have xa2 : wq.cell? ⟨w.heap.size, 2, none⟩ = some (.int .i64 a.T) := (cell_of_row wq _ 2 _ _ _ (hS.at_ 0 rfl)).trans (OpV.g2 (o := a))
  have xb0 : wq.cell? ⟨w.heap.size + 1, 0, none⟩ = some (.int .i64 b.R) := (cell_of_row wq _ 0 _ _ _ (hS.at_ 1 rfl)).trans (OpV.g0 (o := b))
  have xb2 : wq.cell? ⟨w.heap.size + 1, 2, none⟩ = some (.int .i64 b.T) := (cell_of_row wq _ 2 _ _ _ (hS.at_ 1 rfl)).trans (OpV.g2 (o := b))
  go_wp2_with (first | go_skip | ((with_reducible refine gate_op (op := .load 33 (.tmp 3)) rfl ?_); refine wpList_load_row' rfl 33 (.tmp 3) rfl _ rfl 33 _ (0, 0) _ (hS.at_ 0 rfl) Tryd.underlying33 rfl (op_info _ ha) ?_) | ((with_reducible refine gate_op (op := .load 33 (.tmp 4)) rfl ?_); refine wpList_load_row' rfl 33 (.tmp 4) rfl _ rfl 33 _ (0, 0) _ (hS.at_ 1 rfl) Tryd.underlying33 rfl (op_info _ hb) ?_) | ((with_reducible refine gate_op (op := .load 33 (.tmp 5)) rfl ?_); refine wpList_load_row' rfl 33 (.tmp 5) rfl _ rfl 33 _ (0, 0) _ (hS.at_ 2 rfl) Tryd.underlying33 rfl (op_info _ hc) ?_) | (go_at_call 8; (with_reducible (refine (After_is hz _).mono ?_)); rintro e wn ⟨rfl, hbn⟩; have hS1 := hS.step hbn; clear hS hbn; have hS := hS1; clear hS1) | (go_at_call 8; (with_reducible (refine (After_is (after_self _) _).mono ?_)); rintro e wn ⟨rfl, hbn⟩; have hS1 := hS.step hbn; clear hS hbn; have hS := hS1; clear hS1))
  go_ret
  exact ⟨rfl, hS.below⟩
set_option maxRecDepth 100000 in
set_option maxHeartbeats 2000000 in
theorem order_a2 (hx : afterB a b = true) (hy : afterB b a = false) (ht : (a.T == b.T) = false) (hz : afterB b c = true) (hu : afterB a c = true) : Calls Tryd.prog 4 #[opv a, opv b, opv c] w fun e w' => e = .returned (.bool true) ∧ Below w.heap.size w w' := by
  have HV := Lib.hid hw
  clear hw
  have hS : Boxes w (((w.alloc (Obj.cells a.c 33)).alloc (Obj.cells b.c 33)).alloc (Obj.cells c.c 33)) [(w.heap.size, Obj.cells a.c 33), (w.heap.size + 1, Obj.cells b.c 33), (w.heap.size + 2, Obj.cells c.c 33)] := by
    have := (((Boxes.start w).alloc (Obj.cells a.c 33)).alloc (Obj.cells b.c 33)).alloc (Obj.cells c.c 33)
    simpa using this
  go_enter Tryd.func4, Tryd.ntmps4
  go_wp2_with (first | go_skip | (go_at_call 5; refine (awake21_any _ (HV.out.step hS.below)).mono ?_; rintro e wn ⟨rfl, hbn⟩; have hS1 := hS.step hbn; clear hS hbn; have hS := hS1; clear hS1))
  have g0 := hS.at_ 0 rfl
  have g1 := hS.at_ 1 rfl
  have d1 := grown_calls (w := wn) (fun W _ => After_is hx W)
  have d2 := grown_calls (w := wn) (fun W _ => After_is hy W)
  refine wp_region_quiet_below (by kernel_rfl) (by kernel_rfl) ?_
  repeat (first | (refine BigFrame.wpQuiet_want rfl (fun K hK => ?_); refine quiet_load_row 33 (.tmp 3) rfl _ rfl 33 _ (0, 0) _ (row_regrown g0) Tryd.underlying33 rfl (op_info _ ha) ?_; refine hK _ ?_; clear hK K) | (refine BigFrame.wpQuiet_want rfl (fun K hK => ?_); refine quiet_load_row 33 (.tmp 4) rfl _ rfl 33 _ (0, 0) _ (row_regrown g1) Tryd.underlying33 rfl (op_info _ hb) ?_; refine hK _ ?_; clear hK K) | (quiet_step (first | with_reducible exact d1 _ _ | with_reducible exact d2 _ _)))
  refine wpQuiet_nil ?_; rintro wq ⟨⟨dq, osq⟩, rfl⟩; have hbq := below_regrown wn dq osq; generalize Go.Sort.grow (redrawn wn dq) osq = wq at *
  have hS1 := hS.step hbq
  clear hS hbq g0 g1 d1 d2
  have hS := hS1
  clear hS1
  have xa0 : wq.cell? ⟨w.heap.size, 0, none⟩ = some (.int .i64 a.R) := (cell_of_row wq _ 0 _ _ _ (hS.at_ 0 rfl)).trans (OpV.g0 (o := a))
  have xa2 : wq.cell? ⟨w.heap.size, 2, none⟩ = some (.int .i64 a.T) := (cell_of_row wq _ 2 _ _ _ (hS.at_ 0 rfl)).trans (OpV.g2 (o := a))
  have xb0 : wq.cell? ⟨w.heap.size + 1, 0, none⟩ = some (.int .i64 b.R) := (cell_of_row wq _ 0 _ _ _ (hS.at_ 1 rfl)).trans (OpV.g0 (o := b))
  have xb2 : wq.cell? ⟨w.heap.size + 1, 2, none⟩ = some (.int .i64 b.T) := (cell_of_row wq _ 2 _ _ _ (hS.at_ 1 rfl)).trans (OpV.g2 (o := b))
  go_wp2_with (first | go_skip | ((with_reducible refine gate_op (op := .load 33 (.tmp 3)) rfl ?_); refine wpList_load_row' rfl 33 (.tmp 3) rfl _ rfl 33 _ (0, 0) _ (hS.at_ 0 rfl) Tryd.underlying33 rfl (op_info _ ha) ?_) | ((with_reducible refine gate_op (op := .load 33 (.tmp 4)) rfl ?_); refine wpList_load_row' rfl 33 (.tmp 4) rfl _ rfl 33 _ (0, 0) _ (hS.at_ 1 rfl) Tryd.underlying33 rfl (op_info _ hb) ?_) | ((with_reducible refine gate_op (op := .load 33 (.tmp 5)) rfl ?_); refine wpList_load_row' rfl 33 (.tmp 5) rfl _ rfl 33 _ (0, 0) _ (hS.at_ 2 rfl) Tryd.underlying33 rfl (op_info _ hc) ?_) | (go_at_call 8; (with_reducible (refine (After_is hz _).mono ?_)); rintro e wn ⟨rfl, hbn⟩; have hS1 := hS.step hbn; clear hS hbn; have hS := hS1; clear hS1) | (go_at_call 8; (with_reducible (refine (After_is hu _).mono ?_)); rintro e wn ⟨rfl, hbn⟩; have hS1 := hS.step hbn; clear hS hbn; have hS := hS1; clear hS1) | (go_at_call 8; (with_reducible (refine (After_is (after_self _) _).mono ?_)); rintro e wn ⟨rfl, hbn⟩; have hS1 := hS.step hbn; clear hS hbn; have hS := hS1; clear hS1))
  go_ret
  exact ⟨rfl, hS.below⟩
set_option maxRecDepth 100000 in
set_option maxHeartbeats 2000000 in
theorem order_a3 (hx : afterB a b = true) (hy : afterB b a = false) (ht : (a.T == b.T) = true) (hr : (a.R == b.R) = false) (hz : afterB b c = false) : Calls Tryd.prog 4 #[opv a, opv b, opv c] w fun e w' => e = .returned (.bool true) ∧ Below w.heap.size w w' := by
  have HV := Lib.hid hw
  clear hw
  have hS : Boxes w (((w.alloc (Obj.cells a.c 33)).alloc (Obj.cells b.c 33)).alloc (Obj.cells c.c 33)) [(w.heap.size, Obj.cells a.c 33), (w.heap.size + 1, Obj.cells b.c 33), (w.heap.size + 2, Obj.cells c.c 33)] := by
    have := (((Boxes.start w).alloc (Obj.cells a.c 33)).alloc (Obj.cells b.c 33)).alloc (Obj.cells c.c 33)
    simpa using this
  go_enter Tryd.func4, Tryd.ntmps4
  go_wp2_with (first | go_skip | (go_at_call 5; refine (awake21_any _ (HV.out.step hS.below)).mono ?_; rintro e wn ⟨rfl, hbn⟩; have hS1 := hS.step hbn; clear hS hbn; have hS := hS1; clear hS1))
  have g0 := hS.at_ 0 rfl
  have g1 := hS.at_ 1 rfl
  have d1 := grown_calls (w := wn) (fun W _ => After_is hx W)
  have d2 := grown_calls (w := wn) (fun W _ => After_is hy W)
  refine wp_region_quiet_below (by kernel_rfl) (by kernel_rfl) ?_
  repeat (first | (refine BigFrame.wpQuiet_want rfl (fun K hK => ?_); refine quiet_load_row 33 (.tmp 3) rfl _ rfl 33 _ (0, 0) _ (row_regrown g0) Tryd.underlying33 rfl (op_info _ ha) ?_; refine hK _ ?_; clear hK K) | (refine BigFrame.wpQuiet_want rfl (fun K hK => ?_); refine quiet_load_row 33 (.tmp 4) rfl _ rfl 33 _ (0, 0) _ (row_regrown g1) Tryd.underlying33 rfl (op_info _ hb) ?_; refine hK _ ?_; clear hK K) | (quiet_step (first | with_reducible exact d1 _ _ | with_reducible exact d2 _ _)))
  refine wpQuiet_nil ?_; rintro wq ⟨⟨dq, osq⟩, rfl⟩; have hbq := below_regrown wn dq osq; generalize Go.Sort.grow (redrawn wn dq) osq = wq at *
  have hS1 := hS.step hbq
  clear hS hbq g0 g1 d1 d2
  have hS := hS1
  clear hS1
  have xa0 : wq.cell? ⟨w.heap.size, 0, none⟩ = some (.int .i64 a.R) := (cell_of_row wq _ 0 _ _ _ (hS.at_ 0 rfl)).trans (OpV.g0 (o := a))
  have xa2 : wq.cell? ⟨w.heap.size, 2, none⟩ = some (.int .i64 a.T) := (cell_of_row wq _ 2 _ _ _ (hS.at_ 0 rfl)).trans (OpV.g2 (o := a))
  have xb0 : wq.cell? ⟨w.heap.size + 1, 0, none⟩ = some (.int .i64 b.R) := (cell_of_row wq _ 0 _ _ _ (hS.at_ 1 rfl)).trans (OpV.g0 (o := b))
  have xb2 : wq.cell? ⟨w.heap.size + 1, 2, none⟩ = some (.int .i64 b.T) := (cell_of_row wq _ 2 _ _ _ (hS.at_ 1 rfl)).trans (OpV.g2 (o := b))
  go_wp2_with (first | go_skip | ((with_reducible refine gate_op (op := .load 33 (.tmp 3)) rfl ?_); refine wpList_load_row' rfl 33 (.tmp 3) rfl _ rfl 33 _ (0, 0) _ (hS.at_ 0 rfl) Tryd.underlying33 rfl (op_info _ ha) ?_) | ((with_reducible refine gate_op (op := .load 33 (.tmp 4)) rfl ?_); refine wpList_load_row' rfl 33 (.tmp 4) rfl _ rfl 33 _ (0, 0) _ (hS.at_ 1 rfl) Tryd.underlying33 rfl (op_info _ hb) ?_) | ((with_reducible refine gate_op (op := .load 33 (.tmp 5)) rfl ?_); refine wpList_load_row' rfl 33 (.tmp 5) rfl _ rfl 33 _ (0, 0) _ (hS.at_ 2 rfl) Tryd.underlying33 rfl (op_info _ hc) ?_) | (go_at_call 8; (with_reducible (refine (After_is hz _).mono ?_)); rintro e wn ⟨rfl, hbn⟩; have hS1 := hS.step hbn; clear hS hbn; have hS := hS1; clear hS1) | (go_at_call 8; (with_reducible (refine (After_is (after_self _) _).mono ?_)); rintro e wn ⟨rfl, hbn⟩; have hS1 := hS.step hbn; clear hS hbn; have hS := hS1; clear hS1))
  go_ret
  exact ⟨rfl, hS.below⟩
set_option maxRecDepth 100000 in
set_option maxHeartbeats 2000000 in
theorem order_a4 (hx : afterB a b = true) (hy : afterB b a = false) (ht : (a.T == b.T) = true) (hr : (a.R == b.R) = false) (hz : afterB b c = true) (hu : afterB a c = true) : Calls Tryd.prog 4 #[opv a, opv b, opv c] w fun e w' => e = .returned (.bool true) ∧ Below w.heap.size w w' := by
  have HV := Lib.hid hw
  clear hw
  have hS : Boxes w (((w.alloc (Obj.cells a.c 33)).alloc (Obj.cells b.c 33)).alloc (Obj.cells c.c 33)) [(w.heap.size, Obj.cells a.c 33), (w.heap.size + 1, Obj.cells b.c 33), (w.heap.size + 2, Obj.cells c.c 33)] := by
    have := (((Boxes.start w).alloc (Obj.cells a.c 33)).alloc (Obj.cells b.c 33)).alloc (Obj.cells c.c 33)
    simpa using this
  go_enter Tryd.func4, Tryd.ntmps4
  go_wp2_with (first | go_skip | (go_at_call 5; refine (awake21_any _ (HV.out.step hS.below)).mono ?_; rintro e wn ⟨rfl, hbn⟩; have hS1 := hS.step hbn; clear hS hbn; have hS := hS1; clear hS1))
  have g0 := hS.at_ 0 rfl
  have g1 := hS.at_ 1 rfl
  have d1 := grown_calls (w := wn) (fun W _ => After_is hx W)
  have d2 := grown_calls (w := wn) (fun W _ => After_is hy W)
  refine wp_region_quiet_below (by kernel_rfl) (by kernel_rfl) ?_
  repeat (first | (refine BigFrame.wpQuiet_want rfl (fun K hK => ?_); refine quiet_load_row 33 (.tmp 3) rfl _ rfl 33 _ (0, 0) _ (row_regrown g0) Tryd.underlying33 rfl (op_info _ ha) ?_; refine hK _ ?_; clear hK K) | (refine BigFrame.wpQuiet_want rfl (fun K hK => ?_); refine quiet_load_row 33 (.tmp 4) rfl _ rfl 33 _ (0, 0) _ (row_regrown g1) Tryd.underlying33 rfl (op_info _ hb) ?_; refine hK _ ?_; clear hK K) | (quiet_step (first | with_reducible exact d1 _ _ | with_reducible exact d2 _ _)))
  refine wpQuiet_nil ?_; rintro wq ⟨⟨dq, osq⟩, rfl⟩; have hbq := below_regrown wn dq osq; generalize Go.Sort.grow (redrawn wn dq) osq = wq at *
  have hS1 := hS.step hbq
  clear hS hbq g0 g1 d1 d2
  have hS := hS1
  clear hS1
  have xa0 : wq.cell? ⟨w.heap.size, 0, none⟩ = some (.int .i64 a.R) := (cell_of_row wq _ 0 _ _ _ (hS.at_ 0 rfl)).trans (OpV.g0 (o := a))
  have xa2 : wq.cell? ⟨w.heap.size, 2, none⟩ = some (.int .i64 a.T) := (cell_of_row wq _ 2 _ _ _ (hS.at_ 0 rfl)).trans (OpV.g2 (o := a))
  have xb0 : wq.cell? ⟨w.heap.size + 1, 0, none⟩ = some (.int .i64 b.R) := (cell_of_row wq _ 0 _ _ _ (hS.at_ 1 rfl)).trans (OpV.g0 (o := b))
  have xb2 : wq.cell? ⟨w.heap.size + 1, 2, none⟩ = some (.int .i64 b.T) := (cell_of_row wq _ 2 _ _ _ (hS.at_ 1 rfl)).trans (OpV.g2 (o := b))
  go_wp2_with (first | go_skip | ((with_reducible refine gate_op (op := .load 33 (.tmp 3)) rfl ?_); refine wpList_load_row' rfl 33 (.tmp 3) rfl _ rfl 33 _ (0, 0) _ (hS.at_ 0 rfl) Tryd.underlying33 rfl (op_info _ ha) ?_) | ((with_reducible refine gate_op (op := .load 33 (.tmp 4)) rfl ?_); refine wpList_load_row' rfl 33 (.tmp 4) rfl _ rfl 33 _ (0, 0) _ (hS.at_ 1 rfl) Tryd.underlying33 rfl (op_info _ hb) ?_) | ((with_reducible refine gate_op (op := .load 33 (.tmp 5)) rfl ?_); refine wpList_load_row' rfl 33 (.tmp 5) rfl _ rfl 33 _ (0, 0) _ (hS.at_ 2 rfl) Tryd.underlying33 rfl (op_info _ hc) ?_) | (go_at_call 8; (with_reducible (refine (After_is hz _).mono ?_)); rintro e wn ⟨rfl, hbn⟩; have hS1 := hS.step hbn; clear hS hbn; have hS := hS1; clear hS1) | (go_at_call 8; (with_reducible (refine (After_is hu _).mono ?_)); rintro e wn ⟨rfl, hbn⟩; have hS1 := hS.step hbn; clear hS hbn; have hS := hS1; clear hS1) | (go_at_call 8; (with_reducible (refine (After_is (after_self _) _).mono ?_)); rintro e wn ⟨rfl, hbn⟩; have hS1 := hS.step hbn; clear hS hbn; have hS := hS1; clear hS1))
  go_ret
  exact ⟨rfl, hS.below⟩
set_option maxRecDepth 100000 in
set_option maxHeartbeats 2000000 in
theorem order_b1 (hx : afterB a b = false) (hy : afterB b a = true) (ht : (a.T == b.T) = false) : Calls Tryd.prog 4 #[opv a, opv b, opv c] w fun e w' => e = .returned (.bool true) ∧ Below w.heap.size w w' := by
  have HV := Lib.hid hw
  clear hw
  have hS : Boxes w (((w.alloc (Obj.cells a.c 33)).alloc (Obj.cells b.c 33)).alloc (Obj.cells c.c 33)) [(w.heap.size, Obj.cells a.c 33), (w.heap.size + 1, Obj.cells b.c 33), (w.heap.size + 2, Obj.cells c.c 33)] := by
    have := (((Boxes.start w).alloc (Obj.cells a.c 33)).alloc (Obj.cells b.c 33)).alloc (Obj.cells c.c 33)
    simpa using this
  go_enter Tryd.func4, Tryd.ntmps4
  go_wp2_with (first | go_skip | (go_at_call 5; refine (awake21_any _ (HV.out.step hS.below)).mono ?_; rintro e wn ⟨rfl, hbn⟩; have hS1 := hS.step hbn; clear hS hbn; have hS := hS1; clear hS1))
  have g0 := hS.at_ 0 rfl
  have g1 := hS.at_ 1 rfl
  have d1 := grown_calls (w := wn) (fun W _ => After_is hx W)
  have d2 := grown_calls (w := wn) (fun W _ => After_is hy W)
  refine wp_region_quiet_below (by kernel_rfl) (by kernel_rfl) ?_
  repeat (first | (refine BigFrame.wpQuiet_want rfl (fun K hK => ?_); refine quiet_load_row 33 (.tmp 3) rfl _ rfl 33 _ (0, 0) _ (row_regrown g0) Tryd.underlying33 rfl (op_info _ ha) ?_; refine hK _ ?_; clear hK K) | (refine BigFrame.wpQuiet_want rfl (fun K hK => ?_); refine quiet_load_row 33 (.tmp 4) rfl _ rfl 33 _ (0, 0) _ (row_regrown g1) Tryd.underlying33 rfl (op_info _ hb) ?_; refine hK _ ?_; clear hK K) | (quiet_step (first | with_reducible exact d1 _ _ | with_reducible exact d2 _ _)))
  refine wpQuiet_nil ?_; rintro wq ⟨⟨dq, osq⟩, rfl⟩; have hbq := below_regrown wn dq osq; generalize Go.Sort.grow (redrawn wn dq) osq = wq at *
  have hS1 := hS.step hbq
  clear hS hbq g0 g1 d1 d2
  have hS := hS1
  clear hS1
  have xa0 : wq.cell? ⟨w.heap.size, 0, none⟩ = some (.int .i64 a.R) := (cell_of_row wq _ 0 _ _ _ (hS.at_ 0 rfl)).trans (OpV.g0 (o := a))
  have xa2 : wq.cell? ⟨w.heap.size, 2, none⟩ = some (.int .i64 a.T) := (cell_of_row wq _ 2 _ _ _ (hS.at_ 0 rfl)).trans (OpV.g2 (o := a))
  have xb0 : wq.cell? ⟨w.heap.size + 1, 0, none⟩ = some (.int .i64 b.R) := (cell_of_row wq _ 0 _ _ _ (hS.at_ 1 rfl)).trans (OpV.g0 (o := b))
  have xb2 : wq.cell? ⟨w.heap.size + 1, 2, none⟩ = some (.int .i64 b.T) := (cell_of_row wq _ 2 _ _ _ (hS.at_ 1 rfl)).trans (OpV.g2 (o := b))
  go_wp2_with (first | go_skip | ((with_reducible refine gate_op (op := .load 33 (.tmp 3)) rfl ?_); refine wpList_load_row' rfl 33 (.tmp 3) rfl _ rfl 33 _ (0, 0) _ (hS.at_ 0 rfl) Tryd.underlying33 rfl (op_info _ ha) ?_) | ((with_reducible refine gate_op (op := .load 33 (.tmp 4)) rfl ?_); refine wpList_load_row' rfl 33 (.tmp 4) rfl _ rfl 33 _ (0, 0) _ (hS.at_ 1 rfl) Tryd.underlying33 rfl (op_info _ hb) ?_) | ((with_reducible refine gate_op (op := .load 33 (.tmp 5)) rfl ?_); refine wpList_load_row' rfl 33 (.tmp 5) rfl _ rfl 33 _ (0, 0) _ (hS.at_ 2 rfl) Tryd.underlying33 rfl (op_info _ hc) ?_) | (go_at_call 8; (with_reducible (refine (After_is (after_self _) _).mono ?_)); rintro e wn ⟨rfl, hbn⟩; have hS1 := hS.step hbn; clear hS hbn; have hS := hS1; clear hS1))
  go_ret
  exact ⟨rfl, hS.below⟩
set_option maxRecDepth 100000 in
set_option maxHeartbeats 2000000 in
theorem order_b2 (hx : afterB a b = false) (hy : afterB b a = true) (ht : (a.T == b.T) = true) (hr : (a.R == b.R) = false) : Calls Tryd.prog 4 #[opv a, opv b, opv c] w fun e w' => e = .returned (.bool true) ∧ Below w.heap.size w w' := by
  have HV := Lib.hid hw
  clear hw
  have hS : Boxes w (((w.alloc (Obj.cells a.c 33)).alloc (Obj.cells b.c 33)).alloc (Obj.cells c.c 33)) [(w.heap.size, Obj.cells a.c 33), (w.heap.size + 1, Obj.cells b.c 33), (w.heap.size + 2, Obj.cells c.c 33)] := by
    have := (((Boxes.start w).alloc (Obj.cells a.c 33)).alloc (Obj.cells b.c 33)).alloc (Obj.cells c.c 33)
    simpa using this
  go_enter Tryd.func4, Tryd.ntmps4
  go_wp2_with (first | go_skip | (go_at_call 5; refine (awake21_any _ (HV.out.step hS.below)).mono ?_; rintro e wn ⟨rfl, hbn⟩; have hS1 := hS.step hbn; clear hS hbn; have hS := hS1; clear hS1))
  have g0 := hS.at_ 0 rfl
  have g1 := hS.at_ 1 rfl
  have d1 := grown_calls (w := wn) (fun W _ => After_is hx W)
  have d2 := grown_calls (w := wn) (fun W _ => After_is hy W)
  refine wp_region_quiet_below (by kernel_rfl) (by kernel_rfl) ?_
  repeat (first | (refine BigFrame.wpQuiet_want rfl (fun K hK => ?_); refine quiet_load_row 33 (.tmp 3) rfl _ rfl 33 _ (0, 0) _ (row_regrown g0) Tryd.underlying33 rfl (op_info _ ha) ?_; refine hK _ ?_; clear hK K) | (refine BigFrame.wpQuiet_want rfl (fun K hK => ?_); refine quiet_load_row 33 (.tmp 4) rfl _ rfl 33 _ (0, 0) _ (row_regrown g1) Tryd.underlying33 rfl (op_info _ hb) ?_; refine hK _ ?_; clear hK K) | (quiet_step (first | with_reducible exact d1 _ _ | with_reducible exact d2 _ _)))
  refine wpQuiet_nil ?_; rintro wq ⟨⟨dq, osq⟩, rfl⟩; have hbq := below_regrown wn dq osq; generalize Go.Sort.grow (redrawn wn dq) osq = wq at *
  have hS1 := hS.step hbq
  clear hS hbq g0 g1 d1 d2
  have hS := hS1
  clear hS1
  have xa0 : wq.cell? ⟨w.heap.size, 0, none⟩ = some (.int .i64 a.R) := (cell_of_row wq _ 0 _ _ _ (hS.at_ 0 rfl)).trans (OpV.g0 (o := a))
  have xa2 : wq.cell? ⟨w.heap.size, 2, none⟩ = some (.int .i64 a.T) := (cell_of_row wq _ 2 _ _ _ (hS.at_ 0 rfl)).trans (OpV.g2 (o := a))
  have xb0 : wq.cell? ⟨w.heap.size + 1, 0, none⟩ = some (.int .i64 b.R) := (cell_of_row wq _ 0 _ _ _ (hS.at_ 1 rfl)).trans (OpV.g0 (o := b))
  have xb2 : wq.cell? ⟨w.heap.size + 1, 2, none⟩ = some (.int .i64 b.T) := (cell_of_row wq _ 2 _ _ _ (hS.at_ 1 rfl)).trans (OpV.g2 (o := b))
  go_wp2_with (first | go_skip | ((with_reducible refine gate_op (op := .load 33 (.tmp 3)) rfl ?_); refine wpList_load_row' rfl 33 (.tmp 3) rfl _ rfl 33 _ (0, 0) _ (hS.at_ 0 rfl) Tryd.underlying33 rfl (op_info _ ha) ?_) | ((with_reducible refine gate_op (op := .load 33 (.tmp 4)) rfl ?_); refine wpList_load_row' rfl 33 (.tmp 4) rfl _ rfl 33 _ (0, 0) _ (hS.at_ 1 rfl) Tryd.underlying33 rfl (op_info _ hb) ?_) | ((with_reducible refine gate_op (op := .load 33 (.tmp 5)) rfl ?_); refine wpList_load_row' rfl 33 (.tmp 5) rfl _ rfl 33 _ (0, 0) _ (hS.at_ 2 rfl) Tryd.underlying33 rfl (op_info _ hc) ?_) | (go_at_call 8; (with_reducible (refine (After_is (after_self _) _).mono ?_)); rintro e wn ⟨rfl, hbn⟩; have hS1 := hS.step hbn; clear hS hbn; have hS := hS1; clear hS1))
  go_ret
  exact ⟨rfl, hS.below⟩
set_option maxRecDepth 100000 in
set_option maxHeartbeats 2000000 in
theorem order_c1 (hx : afterB a b = false) (hy : afterB b a = false) (ht : (a.T == b.T) = true) (hr : (a.R == b.R) = true) : Calls Tryd.prog 4 #[opv a, opv b, opv c] w fun e w' => e = .returned (.bool true) ∧ Below w.heap.size w w' := by
  have HV := Lib.hid hw
  clear hw
  have hS : Boxes w (((w.alloc (Obj.cells a.c 33)).alloc (Obj.cells b.c 33)).alloc (Obj.cells c.c 33)) [(w.heap.size, Obj.cells a.c 33), (w.heap.size + 1, Obj.cells b.c 33), (w.heap.size + 2, Obj.cells c.c 33)] := by
    have := (((Boxes.start w).alloc (Obj.cells a.c 33)).alloc (Obj.cells b.c 33)).alloc (Obj.cells c.c 33)
    simpa using this
  go_enter Tryd.func4, Tryd.ntmps4
  go_wp2_with (first | go_skip | (go_at_call 5; refine (awake21_any _ (HV.out.step hS.below)).mono ?_; rintro e wn ⟨rfl, hbn⟩; have hS1 := hS.step hbn; clear hS hbn; have hS := hS1; clear hS1))
  have g0 := hS.at_ 0 rfl
  have g1 := hS.at_ 1 rfl
  have d1 := grown_calls (w := wn) (fun W _ => After_is hx W)
  have d2 := grown_calls (w := wn) (fun W _ => After_is hy W)
  refine wp_region_quiet_below (by kernel_rfl) (by kernel_rfl) ?_
  repeat (first | (refine BigFrame.wpQuiet_want rfl (fun K hK => ?_); refine quiet_load_row 33 (.tmp 3) rfl _ rfl 33 _ (0, 0) _ (row_regrown g0) Tryd.underlying33 rfl (op_info _ ha) ?_; refine hK _ ?_; clear hK K) | (refine BigFrame.wpQuiet_want rfl (fun K hK => ?_); refine quiet_load_row 33 (.tmp 4) rfl _ rfl 33 _ (0, 0) _ (row_regrown g1) Tryd.underlying33 rfl (op_info _ hb) ?_; refine hK _ ?_; clear hK K) | (quiet_step (first | with_reducible exact d1 _ _ | with_reducible exact d2 _ _)))
  refine wpQuiet_nil ?_; rintro wq ⟨⟨dq, osq⟩, rfl⟩; have hbq := below_regrown wn dq osq; generalize Go.Sort.grow (redrawn wn dq) osq = wq at *
  have hS1 := hS.step hbq
  clear hS hbq g0 g1 d1 d2
  have hS := hS1
  clear hS1
  have xa0 : wq.cell? ⟨w.heap.size, 0, none⟩ = some (.int .i64 a.R) := (cell_of_row wq _ 0 _ _ _ (hS.at_ 0 rfl)).trans (OpV.g0 (o := a))
  have xa2 : wq.cell? ⟨w.heap.size, 2, none⟩ = some (.int .i64 a.T) := (cell_of_row wq _ 2 _ _ _ (hS.at_ 0 rfl)).trans (OpV.g2 (o := a))
  have xb0 : wq.cell? ⟨w.heap.size + 1, 0, none⟩ = some (.int .i64 b.R) := (cell_of_row wq _ 0 _ _ _ (hS.at_ 1 rfl)).trans (OpV.g0 (o := b))
  have xb2 : wq.cell? ⟨w.heap.size + 1, 2, none⟩ = some (.int .i64 b.T) := (cell_of_row wq _ 2 _ _ _ (hS.at_ 1 rfl)).trans (OpV.g2 (o := b))
  go_wp2_with (first | go_skip | ((with_reducible refine gate_op (op := .load 33 (.tmp 3)) rfl ?_); refine wpList_load_row' rfl 33 (.tmp 3) rfl _ rfl 33 _ (0, 0) _ (hS.at_ 0 rfl) Tryd.underlying33 rfl (op_info _ ha) ?_) | ((with_reducible refine gate_op (op := .load 33 (.tmp 4)) rfl ?_); refine wpList_load_row' rfl 33 (.tmp 4) rfl _ rfl 33 _ (0, 0) _ (hS.at_ 1 rfl) Tryd.underlying33 rfl (op_info _ hb) ?_) | ((with_reducible refine gate_op (op := .load 33 (.tmp 5)) rfl ?_); refine wpList_load_row' rfl 33 (.tmp 5) rfl _ rfl 33 _ (0, 0) _ (hS.at_ 2 rfl) Tryd.underlying33 rfl (op_info _ hc) ?_) | (go_at_call 8; (with_reducible (refine (After_is (after_self _) _).mono ?_)); rintro e wn ⟨rfl, hbn⟩; have hS1 := hS.step hbn; clear hS hbn; have hS := hS1; clear hS1))
  go_ret
  exact ⟨rfl, hS.below⟩
theorem opsOrder_walk : Calls Tryd.prog 4 #[opv a, opv b, opv c] w fun e w' => e = .returned (.bool true) ∧ Below w.heap.size w w' := by
  cases hx : afterB a b
  · cases hy : afterB b a
    · have h := after_like hx hy
      exact order_c1 a b c w hw ha hb hc hx hy (by simpa using h.1) (by simpa using h.2)
    · have h := after_ne hy
      by_cases ht : a.T = b.T
      · exact order_b2 a b c w hw ha hb hc hx hy (by simpa using ht) (by simpa using fun hr => h ⟨ht.symm, Eq.symm hr⟩)
      · exact order_b1 a b c w hw ha hb hc hx hy (by simpa using ht)
  · have hy := after_anti hx
    have h := after_ne hx
    by_cases ht : a.T = b.T
    · have hr : (a.R == b.R) = false := by simpa using fun hr => h ⟨ht, hr⟩
      cases hz : afterB b c
      · exact order_a3 a b c w hw ha hb hc hx hy (by simpa using ht) hr hz
      · exact order_a4 a b c w hw ha hb hc hx hy (by simpa using ht) hr hz (after_trans hx hz)
    · cases hz : afterB b c
      · exact order_a1 a b c w hw ha hb hc hx hy (by simpa using ht) hz
      · exact order_a2 a b c w hw ha hb hc hx hy (by simpa using ht) hz (after_trans hx hz)
end
theorem opsOrder_card (a : OpV) (ta : VT) (b : OpV) (tb : VT) (c : OpV) (tc : VT) (w : World) (hw : Vars w) (ha : OpIn w a ta) (hb : OpIn w b tb) (hc : OpIn w c tc) : Calls Tryd.prog 4 #[opv a, opv b, opv c] w fun e w' => e = .returned (.bool true) ∧ Below w.heap.size w w' :=
  opsOrder_walk a b c w hw ha.seen hb.seen hc.seen
end Go.Proofs.YtjjiiaclgacfiaaDoor
