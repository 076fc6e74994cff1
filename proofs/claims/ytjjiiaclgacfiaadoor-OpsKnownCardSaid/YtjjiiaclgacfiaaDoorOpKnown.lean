/-
  OpsKnown, walked: true. Condition: the library's variables as it lays them.
-/
import Derived.Test.YtjjiiaclgacfiaaDoorOpAwake
namespace Go.Proofs.YtjjiiaclgacfiaaDoor
open Go.RowKit
set_option linter.unusedVariables false
set_option linter.unusedSimpArgs false
theorem to_b {W : World} {g : Nat} (h : W.heap[g]? = some (.cells (setO.c.toList.take 74 ++ (leafL.c).toList ++ setO.c.toList.drop (74 + leafL.c.size)).toArray 33 (0, 0))) : W.heap[g]? = some (.cells opB'.c 33 (0, 0)) := by
  rw [h, ← s_b]; rfl
theorem to_c {W : World} {g : Nat} (h : W.heap[g]? = some (.cells (setO.c.toList.take 68 ++ (#[Value.int .i64 2, .int .i64 1] : Array Value).toList ++ setO.c.toList.drop (68 + (#[Value.int .i64 2, .int .i64 1] : Array Value).size)).toArray 33 (0, 0))) : W.heap[g]? = some (.cells opC.c 33 (0, 0)) := by
  rw [h, ← s_c]; rfl
theorem set_info : (Tryd.prog.info? 33).map (·.size) = some setO.c.size := op_info _ rfl
theorem zs_size : zeroO.c.size = setO.c.size := by rw [OpV.size rfl, OpV.size rfl]
theorem set_one : setO.c.all (·.oneCell') = true := op_one rfl rfl
theorem hc74 : 74 + leafL.c.size ≤ setO.c.size := by rw [OpV.size rfl]; decide
theorem hc68 : 68 + (#[Value.int .i64 2, .int .i64 1] : Array Value).size ≤ setO.c.size := by rw [OpV.size rfl]; decide
theorem one74 : ∀ v ∈ leafL.c.toList, v.oneCell' = true := by decide
theorem one68 : ∀ v ∈ (#[Value.int .i64 2, .int .i64 1] : Array Value).toList, v.oneCell' = true := by decide
theorem i1 : (Tryd.prog.info? 3).map (·.size) = some 1 := by kernel_rfl
theorem i2 : (Tryd.prog.info? 2).map (·.size) = some 1 := by kernel_rfl
theorem i5 : (Tryd.prog.info? 31).map (·.size) = some leafL.c.size := by kernel_rfl
theorem i24 : (Tryd.prog.info? 24).map (·.size) = some (#[Value.int .i64 2, .int .i64 1] : Array Value).size := by kernel_rfl
theorem g_73 : setO.c[73]? = some (.int .i64 0) := OpV.g73 (o := setO) rfl
theorem g_3 : setO.c[3]? = some (.int .i64 0) := OpV.gs (o := setO) rfl 0 (by decide)
theorem inf_a : (Tryd.prog.info? 33).map (·.size) = some opA.c.size := op_info _ rfl
theorem inf_b : (Tryd.prog.info? 33).map (·.size) = some opB'.c.size := op_info _ rfl
theorem inf_c : (Tryd.prog.info? 33).map (·.size) = some opC.c.size := op_info _ rfl
theorem inf_d : (Tryd.prog.info? 33).map (·.size) = some opD.c.size := op_info _ rfl
theorem inf_e : (Tryd.prog.info? 33).map (·.size) = some opE.c.size := op_info _ rfl
theorem build_l (W : World) : (Instr.build 31 #[(0, .int .i64 5)]).run Tryd.prog W = .ok (.agg leafL.c) W := by kernel_rfl
set_option maxRecDepth 100000 in
set_option maxHeartbeats 2000000 in
theorem opsKnown_walk (w : World) (hw : Vars w) : Calls Tryd.prog 3 #[] w fun e w' => e = .returned (.bool true) ∧ Below w.heap.size w w' := by
  have HV := Lib.hid hw
  clear hw
  have hl := build_l
  have hS := Boxes.start w
  go_enter Tryd.func3, Tryd.ntmps3
  go_wp2_with (first | go_skip | (go_at_call 5; (with_reducible (refine (awake21_any _ (HV.out.step hS.below)).mono ?_)); rintro e wn ⟨rfl, hbn⟩; have hS1 := hS.step hbn; clear hS hbn; have hS := hS1; clear hS1) | (go_at_call 6; (with_reducible (refine (set_any _).mono ?_)); rintro e wn ⟨rfl, hbn⟩; have hS1 := hS.step hbn; clear hS hbn; have hS := hS1; clear hS1) | ((with_reducible refine gate_op (op := .alloc 33) rfl ?_); refine alloc_arm rfl 33 rfl (op_alloc _) ?_; intro wn hbn hgn; have hS1 := hS.new hbn hgn; clear hS hbn hgn; have hS := hS1; clear hS1) | ((with_reducible refine gate_op (op := .store 33 (.tmp 1) (.tmp 8)) rfl ?_); refine wpList_store_row rfl 33 (.tmp 1) (.tmp 8) rfl _ setO.c rfl rfl 33 _ (hS.at_ 0 rfl) set_info zs_size set_one ?_; intro wn hbn hgn hon hsn; have hS1 := hS.put 0 rfl hon hbn hgn; clear hS hbn hgn hon hsn; have hS := hS1; clear hS1) | ((with_reducible refine gate_op (op := .store 33 (.tmp 2) (.tmp 9)) rfl ?_); refine wpList_store_row rfl 33 (.tmp 2) (.tmp 9) rfl _ setO.c rfl rfl 33 _ (hS.at_ 1 rfl) set_info zs_size set_one ?_; intro wn hbn hgn hon hsn; have hS1 := hS.put 1 rfl hon hbn hgn; clear hS hbn hgn hon hsn; have hS := hS1; clear hS1) | ((with_reducible refine gate_op (op := .store 33 (.tmp 3) (.tmp 10)) rfl ?_); refine wpList_store_row rfl 33 (.tmp 3) (.tmp 10) rfl _ setO.c rfl rfl 33 _ (hS.at_ 2 rfl) set_info zs_size set_one ?_; intro wn hbn hgn hon hsn; have hS1 := hS.put 2 rfl hon hbn hgn; clear hS hbn hgn hon hsn; have hS := hS1; clear hS1) | ((with_reducible refine gate_op (op := .store 33 (.tmp 4) (.tmp 11)) rfl ?_); refine wpList_store_row rfl 33 (.tmp 4) (.tmp 11) rfl _ setO.c rfl rfl 33 _ (hS.at_ 3 rfl) set_info zs_size set_one ?_; intro wn hbn hgn hon hsn; have hS1 := hS.put 3 rfl hon hbn hgn; clear hS hbn hgn hon hsn; have hS := hS1; clear hS1) | ((with_reducible refine gate_op (op := .store 33 (.tmp 5) (.tmp 12)) rfl ?_); refine wpList_store_row rfl 33 (.tmp 5) (.tmp 12) rfl _ setO.c rfl rfl 33 _ (hS.at_ 4 rfl) set_info zs_size set_one ?_; intro wn hbn hgn hon hsn; have hS1 := hS.put 4 rfl hon hbn hgn; clear hS hbn hgn hon hsn; have hS := hS1; clear hS1) | ((with_reducible refine gate_op (op := .store 3 (.tmp 13) (.const (.int .i64 3))) rfl ?_); refine store_elem rfl 3 (.tmp 13) _ rfl _ 73 (.int .i64 3) rfl rfl rfl 33 _ _ (hS.at_ 0 rfl) g_73 i1 ?_; rw [s_a]; intro wn hgn hon hbn hsn; have hS1 := hS.put 0 rfl hon hbn hgn; clear hS hgn hon hbn hsn; have hS := hS1; clear hS1) | ((with_reducible refine gate_op (op := .store 31 (.tmp 15) (.tmp 14)) rfl ?_); refine store_sub rfl 31 (.tmp 15) (.tmp 14) rfl _ 74 leafL.c rfl rfl one74 33 _ (hS.at_ 1 rfl) hc74 i5 ?_; intro wn hgn hon hbn hsn; have hgn2 := to_b hgn; have hS1 := hS.put 1 rfl hon hbn hgn2; clear hS hgn hgn2 hon hbn hsn; have hS := hS1; clear hS1) | ((with_reducible refine gate_op (op := .store 24 (.tmp 17) (.tmp 16)) rfl ?_); refine store_sub rfl 24 (.tmp 17) (.tmp 16) rfl _ 68 #[Value.int .i64 2, .int .i64 1] rfl rfl one68 33 _ (hS.at_ 2 rfl) hc68 i24 ?_; intro wn hgn hon hbn hsn; have hgn2 := to_c hgn; have hS1 := hS.put 2 rfl hon hbn hgn2; clear hS hgn hgn2 hon hbn hsn; have hS := hS1; clear hS1) | ((with_reducible refine gate_op (op := .store 2 (.tmp 19) (.const (.int .i64 1))) rfl ?_); refine store_elem rfl 2 (.tmp 19) _ rfl _ 3 (.int .i64 1) rfl rfl rfl 33 _ _ (hS.at_ 3 rfl) g_3 i2 ?_; rw [s_d]; intro wn hgn hon hbn hsn; have hS1 := hS.put 3 rfl hon hbn hgn; clear hS hgn hon hbn hsn; have hS := hS1; clear hS1) | ((with_reducible refine gate_op (op := .store 3 (.tmp 20) (.const (.int .i64 1))) rfl ?_); refine store_elem rfl 3 (.tmp 20) _ rfl _ 73 (.int .i64 1) rfl rfl rfl 33 _ _ (hS.at_ 4 rfl) g_73 i1 ?_; rw [s_e]; intro wn hgn hon hbn hsn; have hS1 := hS.put 4 rfl hon hbn hgn; clear hS hgn hon hbn hsn; have hS := hS1; clear hS1) | ((with_reducible refine gate_op (op := .load 33 (.tmp 1)) rfl ?_); refine wpList_load_row' rfl 33 (.tmp 1) rfl _ rfl 33 _ (0, 0) _ (hS.at_ 0 rfl) Tryd.underlying33 rfl inf_a ?_) | ((with_reducible refine gate_op (op := .load 33 (.tmp 2)) rfl ?_); refine wpList_load_row' rfl 33 (.tmp 2) rfl _ rfl 33 _ (0, 0) _ (hS.at_ 1 rfl) Tryd.underlying33 rfl inf_b ?_) | ((with_reducible refine gate_op (op := .load 33 (.tmp 3)) rfl ?_); refine wpList_load_row' rfl 33 (.tmp 3) rfl _ rfl 33 _ (0, 0) _ (hS.at_ 2 rfl) Tryd.underlying33 rfl inf_c ?_) | ((with_reducible refine gate_op (op := .load 33 (.tmp 4)) rfl ?_); refine wpList_load_row' rfl 33 (.tmp 4) rfl _ rfl 33 _ (0, 0) _ (hS.at_ 3 rfl) Tryd.underlying33 rfl inf_d ?_) | ((with_reducible refine gate_op (op := .load 33 (.tmp 5)) rfl ?_); refine wpList_load_row' rfl 33 (.tmp 5) rfl _ rfl 33 _ (0, 0) _ (hS.at_ 4 rfl) Tryd.underlying33 rfl inf_e ?_) | (go_at_call 7; (with_reducible (refine (k_a _ (HV.out.step hS.below)).mono ?_)); rintro e wn ⟨rfl, hbn⟩; have hS1 := hS.step hbn; clear hS hbn; have hS := hS1; clear hS1) | (go_at_call 7; (with_reducible (refine (k_b _ (HV.out.step hS.below)).mono ?_)); rintro e wn ⟨rfl, hbn⟩; have hS1 := hS.step hbn; clear hS hbn; have hS := hS1; clear hS1) | (go_at_call 7; (with_reducible (refine (k_c _ (HV.out.step hS.below)).mono ?_)); rintro e wn ⟨rfl, hbn⟩; have hS1 := hS.step hbn; clear hS hbn; have hS := hS1; clear hS1) | (go_at_call 7; (with_reducible (refine (k_d _ (HV.out.step hS.below)).mono ?_)); rintro e wn ⟨rfl, hbn⟩; have hS1 := hS.step hbn; clear hS hbn; have hS := hS1; clear hS1) | (go_at_call 7; (with_reducible (refine (k_e _ (HV.out.step hS.below)).mono ?_)); rintro e wn ⟨rfl, hbn⟩; have hS1 := hS.step hbn; clear hS hbn; have hS := hS1; clear hS1))
  go_ret
  exact ⟨rfl, hS.below⟩
end Go.Proofs.YtjjiiaclgacfiaaDoor
