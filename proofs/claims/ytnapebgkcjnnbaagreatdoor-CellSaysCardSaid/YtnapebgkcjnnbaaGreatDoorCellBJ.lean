/-
  cell.Text, for all values. Condition: the library's variables as it lays them.
-/
import Derived.Test.YtnapebgkcjnnbaaGreatDoorCellAJ
namespace Go.Proofs.YtnapebgkcjnnbaaGreatDoor
open Go.RowKit
set_option linter.unusedVariables false
set_option linter.unusedSimpArgs false
set_option linter.unusedSectionVars false
section
variable (t : VT) (w : World) (hw : Vars w) (ht : VT.In w.heap.size w t)
include hw ht
set_option maxRecDepth 100000 in
set_option maxHeartbeats 1000000 in
theorem ct_a (hx : decide ((0 : Int) < wrap64 ((t.ln : Int) + (t.mn : Int))) = true)  : Calls Tryz.prog 7 #[.agg t.c] w fun e w' => e = .returned (.tuple #[.string ⟨#[]⟩, .bool false]) ∧ Below w.heap.size w w' := by
  have HV := Lib.hid hw
  have hG := fun (W : World) (hW : Below w.heap.size w W) => goodT_any t W (hw.step hW) ((ht.move hW).up hW.size)
  have HA := ht.here
  have hn0 := HA.n0
  have hn1 := HA.n1
  have hS : Boxes w (w.alloc (Obj.cells t.c 26)) [(w.heap.size, Obj.cells t.c 26)] := (Boxes.start w).alloc _
  skip
  have HG := Lib.hid hG
  clear hG hw ht HA
  have c0 := (cell_of_row _ _ 0 _ _ _ (hS.at_ 0 rfl)).trans (show t.c[0]? = some (.int .i64 t.k) from rfl)
  have c1 := (cell_of_row _ _ 1 _ _ _ (hS.at_ 0 rfl)).trans (show t.c[1]? = some (.int .i64 t.n) from rfl)
  have c2 := (cell_of_row _ _ 2 _ _ _ (hS.at_ 0 rfl)).trans (show t.c[2]? = some (.string t.s) from rfl)
  have c3 := (cell_of_row _ _ 3 _ _ _ (hS.at_ 0 rfl)).trans (show t.c[3]? = some (.slice t.lA t.ln t.lc) from rfl)
  have c4 := (cell_of_row _ _ 4 _ _ _ (hS.at_ 0 rfl)).trans (show t.c[4]? = some (.slice t.mA t.mn t.mc) from rfl)
  go_enter Tryz.func7, Tryz.ntmps7
  go_wp2_with (first | go_skip | ((with_reducible refine gate_op (op := .load 26 (.tmp 1)) rfl ?_); refine wpList_load_row' rfl 26 (.tmp 1) rfl _ rfl 26 _ (0, 0) _ (hS.at_ 0 rfl) Tryz.underlying26 rfl (VT.val_info _) ?_) | (go_at_call 13; with_reducible (refine (HG.out _ hS.below).mono ?_); rintro e wn ⟨rfl, hbn⟩; have hS1 := hS.step hbn; clear hS hbn c0 c1 c2 c3 c4; have hS := hS1; clear hS1; have c0 := (cell_of_row _ _ 0 _ _ _ (hS.at_ 0 rfl)).trans (show t.c[0]? = some (.int .i64 t.k) from rfl); have c1 := (cell_of_row _ _ 1 _ _ _ (hS.at_ 0 rfl)).trans (show t.c[1]? = some (.int .i64 t.n) from rfl); have c2 := (cell_of_row _ _ 2 _ _ _ (hS.at_ 0 rfl)).trans (show t.c[2]? = some (.string t.s) from rfl); have c3 := (cell_of_row _ _ 3 _ _ _ (hS.at_ 0 rfl)).trans (show t.c[3]? = some (.slice t.lA t.ln t.lc) from rfl); have c4 := (cell_of_row _ _ 4 _ _ _ (hS.at_ 0 rfl)).trans (show t.c[4]? = some (.slice t.mA t.mn t.mc) from rfl)) | (go_at_call 14; with_reducible (refine (text_any _ _ hn0 hn1 (HV.out.step hS.below).tab).mono ?_); rintro e wn ⟨rfl, hbn⟩; have hS1 := hS.step hbn; clear hS hbn c0 c1 c2 c3 c4; have hS := hS1; clear hS1; have c0 := (cell_of_row _ _ 0 _ _ _ (hS.at_ 0 rfl)).trans (show t.c[0]? = some (.int .i64 t.k) from rfl); have c1 := (cell_of_row _ _ 1 _ _ _ (hS.at_ 0 rfl)).trans (show t.c[1]? = some (.int .i64 t.n) from rfl); have c2 := (cell_of_row _ _ 2 _ _ _ (hS.at_ 0 rfl)).trans (show t.c[2]? = some (.string t.s) from rfl); have c3 := (cell_of_row _ _ 3 _ _ _ (hS.at_ 0 rfl)).trans (show t.c[3]? = some (.slice t.lA t.ln t.lc) from rfl); have c4 := (cell_of_row _ _ 4 _ _ _ (hS.at_ 0 rfl)).trans (show t.c[4]? = some (.slice t.mA t.mn t.mc) from rfl)))
  go_ret2
  exact ⟨rfl, hS.below⟩
set_option maxRecDepth 100000 in
set_option maxHeartbeats 1000000 in
theorem ct_b (hx : decide ((0 : Int) < wrap64 ((t.ln : Int) + (t.mn : Int))) = false) (hg : goodT t = false) : Calls Tryz.prog 7 #[.agg t.c] w fun e w' => e = .returned (.tuple #[.string ⟨#[]⟩, .bool false]) ∧ Below w.heap.size w w' := by
  have HV := Lib.hid hw
  have hG := fun (W : World) (hW : Below w.heap.size w W) => goodT_any t W (hw.step hW) ((ht.move hW).up hW.size)
  have HA := ht.here
  have hn0 := HA.n0
  have hn1 := HA.n1
  have hS : Boxes w (w.alloc (Obj.cells t.c 26)) [(w.heap.size, Obj.cells t.c 26)] := (Boxes.start w).alloc _
  rw [hg] at hG
  have HG := Lib.hid hG
  clear hG hw ht HA
  have c0 := (cell_of_row _ _ 0 _ _ _ (hS.at_ 0 rfl)).trans (show t.c[0]? = some (.int .i64 t.k) from rfl)
  have c1 := (cell_of_row _ _ 1 _ _ _ (hS.at_ 0 rfl)).trans (show t.c[1]? = some (.int .i64 t.n) from rfl)
  have c2 := (cell_of_row _ _ 2 _ _ _ (hS.at_ 0 rfl)).trans (show t.c[2]? = some (.string t.s) from rfl)
  have c3 := (cell_of_row _ _ 3 _ _ _ (hS.at_ 0 rfl)).trans (show t.c[3]? = some (.slice t.lA t.ln t.lc) from rfl)
  have c4 := (cell_of_row _ _ 4 _ _ _ (hS.at_ 0 rfl)).trans (show t.c[4]? = some (.slice t.mA t.mn t.mc) from rfl)
  go_enter Tryz.func7, Tryz.ntmps7
  go_wp2_with (first | go_skip | ((with_reducible refine gate_op (op := .load 26 (.tmp 1)) rfl ?_); refine wpList_load_row' rfl 26 (.tmp 1) rfl _ rfl 26 _ (0, 0) _ (hS.at_ 0 rfl) Tryz.underlying26 rfl (VT.val_info _) ?_) | (go_at_call 13; with_reducible (refine (HG.out _ hS.below).mono ?_); rintro e wn ⟨rfl, hbn⟩; have hS1 := hS.step hbn; clear hS hbn c0 c1 c2 c3 c4; have hS := hS1; clear hS1; have c0 := (cell_of_row _ _ 0 _ _ _ (hS.at_ 0 rfl)).trans (show t.c[0]? = some (.int .i64 t.k) from rfl); have c1 := (cell_of_row _ _ 1 _ _ _ (hS.at_ 0 rfl)).trans (show t.c[1]? = some (.int .i64 t.n) from rfl); have c2 := (cell_of_row _ _ 2 _ _ _ (hS.at_ 0 rfl)).trans (show t.c[2]? = some (.string t.s) from rfl); have c3 := (cell_of_row _ _ 3 _ _ _ (hS.at_ 0 rfl)).trans (show t.c[3]? = some (.slice t.lA t.ln t.lc) from rfl); have c4 := (cell_of_row _ _ 4 _ _ _ (hS.at_ 0 rfl)).trans (show t.c[4]? = some (.slice t.mA t.mn t.mc) from rfl)) | (go_at_call 14; with_reducible (refine (text_any _ _ hn0 hn1 (HV.out.step hS.below).tab).mono ?_); rintro e wn ⟨rfl, hbn⟩; have hS1 := hS.step hbn; clear hS hbn c0 c1 c2 c3 c4; have hS := hS1; clear hS1; have c0 := (cell_of_row _ _ 0 _ _ _ (hS.at_ 0 rfl)).trans (show t.c[0]? = some (.int .i64 t.k) from rfl); have c1 := (cell_of_row _ _ 1 _ _ _ (hS.at_ 0 rfl)).trans (show t.c[1]? = some (.int .i64 t.n) from rfl); have c2 := (cell_of_row _ _ 2 _ _ _ (hS.at_ 0 rfl)).trans (show t.c[2]? = some (.string t.s) from rfl); have c3 := (cell_of_row _ _ 3 _ _ _ (hS.at_ 0 rfl)).trans (show t.c[3]? = some (.slice t.lA t.ln t.lc) from rfl); have c4 := (cell_of_row _ _ 4 _ _ _ (hS.at_ 0 rfl)).trans (show t.c[4]? = some (.slice t.mA t.mn t.mc) from rfl)))
  go_ret2
  exact ⟨rfl, hS.below⟩
set_option maxRecDepth 100000 in
set_option maxHeartbeats 1000000 in
theorem ct_0 (hx : decide ((0 : Int) < wrap64 ((t.ln : Int) + (t.mn : Int))) = false) (hg : goodT t = true) (hk : t.k = 0) : Calls Tryz.prog 7 #[.agg t.c] w fun e w' => e = .returned (.tuple #[.string ⟨#[110, 117, 108, 108]⟩, .bool true]) ∧ Below w.heap.size w w' := by
  have HV := Lib.hid hw
  have hG := fun (W : World) (hW : Below w.heap.size w W) => goodT_any t W (hw.step hW) ((ht.move hW).up hW.size)
  have HA := ht.here
  have hn0 := HA.n0
  have hn1 := HA.n1
  have hS : Boxes w (w.alloc (Obj.cells t.c 26)) [(w.heap.size, Obj.cells t.c 26)] := (Boxes.start w).alloc _
  rw [hg] at hG
  have HG := Lib.hid hG
  clear hG hw ht HA
  have c0 := (cell_of_row _ _ 0 _ _ _ (hS.at_ 0 rfl)).trans (show t.c[0]? = some (.int .i64 t.k) from rfl)
  have c1 := (cell_of_row _ _ 1 _ _ _ (hS.at_ 0 rfl)).trans (show t.c[1]? = some (.int .i64 t.n) from rfl)
  have c2 := (cell_of_row _ _ 2 _ _ _ (hS.at_ 0 rfl)).trans (show t.c[2]? = some (.string t.s) from rfl)
  have c3 := (cell_of_row _ _ 3 _ _ _ (hS.at_ 0 rfl)).trans (show t.c[3]? = some (.slice t.lA t.ln t.lc) from rfl)
  have c4 := (cell_of_row _ _ 4 _ _ _ (hS.at_ 0 rfl)).trans (show t.c[4]? = some (.slice t.mA t.mn t.mc) from rfl)
  go_enter Tryz.func7, Tryz.ntmps7
  go_wp2_with (first | go_skip | ((with_reducible refine gate_op (op := .load 26 (.tmp 1)) rfl ?_); refine wpList_load_row' rfl 26 (.tmp 1) rfl _ rfl 26 _ (0, 0) _ (hS.at_ 0 rfl) Tryz.underlying26 rfl (VT.val_info _) ?_) | (go_at_call 13; with_reducible (refine (HG.out _ hS.below).mono ?_); rintro e wn ⟨rfl, hbn⟩; have hS1 := hS.step hbn; clear hS hbn c0 c1 c2 c3 c4; have hS := hS1; clear hS1; have c0 := (cell_of_row _ _ 0 _ _ _ (hS.at_ 0 rfl)).trans (show t.c[0]? = some (.int .i64 t.k) from rfl); have c1 := (cell_of_row _ _ 1 _ _ _ (hS.at_ 0 rfl)).trans (show t.c[1]? = some (.int .i64 t.n) from rfl); have c2 := (cell_of_row _ _ 2 _ _ _ (hS.at_ 0 rfl)).trans (show t.c[2]? = some (.string t.s) from rfl); have c3 := (cell_of_row _ _ 3 _ _ _ (hS.at_ 0 rfl)).trans (show t.c[3]? = some (.slice t.lA t.ln t.lc) from rfl); have c4 := (cell_of_row _ _ 4 _ _ _ (hS.at_ 0 rfl)).trans (show t.c[4]? = some (.slice t.mA t.mn t.mc) from rfl)) | (go_at_call 14; with_reducible (refine (text_any _ _ hn0 hn1 (HV.out.step hS.below).tab).mono ?_); rintro e wn ⟨rfl, hbn⟩; have hS1 := hS.step hbn; clear hS hbn c0 c1 c2 c3 c4; have hS := hS1; clear hS1; have c0 := (cell_of_row _ _ 0 _ _ _ (hS.at_ 0 rfl)).trans (show t.c[0]? = some (.int .i64 t.k) from rfl); have c1 := (cell_of_row _ _ 1 _ _ _ (hS.at_ 0 rfl)).trans (show t.c[1]? = some (.int .i64 t.n) from rfl); have c2 := (cell_of_row _ _ 2 _ _ _ (hS.at_ 0 rfl)).trans (show t.c[2]? = some (.string t.s) from rfl); have c3 := (cell_of_row _ _ 3 _ _ _ (hS.at_ 0 rfl)).trans (show t.c[3]? = some (.slice t.lA t.ln t.lc) from rfl); have c4 := (cell_of_row _ _ 4 _ _ _ (hS.at_ 0 rfl)).trans (show t.c[4]? = some (.slice t.mA t.mn t.mc) from rfl)))
  go_ret2
  exact ⟨rfl, hS.below⟩
set_option maxRecDepth 100000 in
set_option maxHeartbeats 1000000 in
theorem ct_1 (hx : decide ((0 : Int) < wrap64 ((t.ln : Int) + (t.mn : Int))) = false) (hg : goodT t = true) (hk : t.k = 1) (hn : (t.n == 1) = true) : Calls Tryz.prog 7 #[.agg t.c] w fun e w' => e = .returned (.tuple #[.string ⟨#[116, 114, 117, 101]⟩, .bool true]) ∧ Below w.heap.size w w' := by
  have HV := Lib.hid hw
  have hG := fun (W : World) (hW : Below w.heap.size w W) => goodT_any t W (hw.step hW) ((ht.move hW).up hW.size)
  have HA := ht.here
  have hn0 := HA.n0
  have hn1 := HA.n1
  have hS : Boxes w (w.alloc (Obj.cells t.c 26)) [(w.heap.size, Obj.cells t.c 26)] := (Boxes.start w).alloc _
  rw [hg] at hG
  have HG := Lib.hid hG
  clear hG hw ht HA
  have c0 := (cell_of_row _ _ 0 _ _ _ (hS.at_ 0 rfl)).trans (show t.c[0]? = some (.int .i64 t.k) from rfl)
  have c1 := (cell_of_row _ _ 1 _ _ _ (hS.at_ 0 rfl)).trans (show t.c[1]? = some (.int .i64 t.n) from rfl)
  have c2 := (cell_of_row _ _ 2 _ _ _ (hS.at_ 0 rfl)).trans (show t.c[2]? = some (.string t.s) from rfl)
  have c3 := (cell_of_row _ _ 3 _ _ _ (hS.at_ 0 rfl)).trans (show t.c[3]? = some (.slice t.lA t.ln t.lc) from rfl)
  have c4 := (cell_of_row _ _ 4 _ _ _ (hS.at_ 0 rfl)).trans (show t.c[4]? = some (.slice t.mA t.mn t.mc) from rfl)
  go_enter Tryz.func7, Tryz.ntmps7
  go_wp2_with (first | go_skip | ((with_reducible refine gate_op (op := .load 26 (.tmp 1)) rfl ?_); refine wpList_load_row' rfl 26 (.tmp 1) rfl _ rfl 26 _ (0, 0) _ (hS.at_ 0 rfl) Tryz.underlying26 rfl (VT.val_info _) ?_) | (go_at_call 13; with_reducible (refine (HG.out _ hS.below).mono ?_); rintro e wn ⟨rfl, hbn⟩; have hS1 := hS.step hbn; clear hS hbn c0 c1 c2 c3 c4; have hS := hS1; clear hS1; have c0 := (cell_of_row _ _ 0 _ _ _ (hS.at_ 0 rfl)).trans (show t.c[0]? = some (.int .i64 t.k) from rfl); have c1 := (cell_of_row _ _ 1 _ _ _ (hS.at_ 0 rfl)).trans (show t.c[1]? = some (.int .i64 t.n) from rfl); have c2 := (cell_of_row _ _ 2 _ _ _ (hS.at_ 0 rfl)).trans (show t.c[2]? = some (.string t.s) from rfl); have c3 := (cell_of_row _ _ 3 _ _ _ (hS.at_ 0 rfl)).trans (show t.c[3]? = some (.slice t.lA t.ln t.lc) from rfl); have c4 := (cell_of_row _ _ 4 _ _ _ (hS.at_ 0 rfl)).trans (show t.c[4]? = some (.slice t.mA t.mn t.mc) from rfl)) | (go_at_call 14; with_reducible (refine (text_any _ _ hn0 hn1 (HV.out.step hS.below).tab).mono ?_); rintro e wn ⟨rfl, hbn⟩; have hS1 := hS.step hbn; clear hS hbn c0 c1 c2 c3 c4; have hS := hS1; clear hS1; have c0 := (cell_of_row _ _ 0 _ _ _ (hS.at_ 0 rfl)).trans (show t.c[0]? = some (.int .i64 t.k) from rfl); have c1 := (cell_of_row _ _ 1 _ _ _ (hS.at_ 0 rfl)).trans (show t.c[1]? = some (.int .i64 t.n) from rfl); have c2 := (cell_of_row _ _ 2 _ _ _ (hS.at_ 0 rfl)).trans (show t.c[2]? = some (.string t.s) from rfl); have c3 := (cell_of_row _ _ 3 _ _ _ (hS.at_ 0 rfl)).trans (show t.c[3]? = some (.slice t.lA t.ln t.lc) from rfl); have c4 := (cell_of_row _ _ 4 _ _ _ (hS.at_ 0 rfl)).trans (show t.c[4]? = some (.slice t.mA t.mn t.mc) from rfl)))
  go_ret2
  exact ⟨rfl, hS.below⟩
set_option maxRecDepth 100000 in
set_option maxHeartbeats 1000000 in
theorem ct_2 (hx : decide ((0 : Int) < wrap64 ((t.ln : Int) + (t.mn : Int))) = false) (hg : goodT t = true) (hk : t.k = 1) (hn : (t.n == 1) = false) : Calls Tryz.prog 7 #[.agg t.c] w fun e w' => e = .returned (.tuple #[.string ⟨#[102, 97, 108, 115, 101]⟩, .bool true]) ∧ Below w.heap.size w w' := by
  have HV := Lib.hid hw
  have hG := fun (W : World) (hW : Below w.heap.size w W) => goodT_any t W (hw.step hW) ((ht.move hW).up hW.size)
  have HA := ht.here
  have hn0 := HA.n0
  have hn1 := HA.n1
  have hS : Boxes w (w.alloc (Obj.cells t.c 26)) [(w.heap.size, Obj.cells t.c 26)] := (Boxes.start w).alloc _
  rw [hg] at hG
  have HG := Lib.hid hG
  clear hG hw ht HA
  have c0 := (cell_of_row _ _ 0 _ _ _ (hS.at_ 0 rfl)).trans (show t.c[0]? = some (.int .i64 t.k) from rfl)
  have c1 := (cell_of_row _ _ 1 _ _ _ (hS.at_ 0 rfl)).trans (show t.c[1]? = some (.int .i64 t.n) from rfl)
  have c2 := (cell_of_row _ _ 2 _ _ _ (hS.at_ 0 rfl)).trans (show t.c[2]? = some (.string t.s) from rfl)
  have c3 := (cell_of_row _ _ 3 _ _ _ (hS.at_ 0 rfl)).trans (show t.c[3]? = some (.slice t.lA t.ln t.lc) from rfl)
  have c4 := (cell_of_row _ _ 4 _ _ _ (hS.at_ 0 rfl)).trans (show t.c[4]? = some (.slice t.mA t.mn t.mc) from rfl)
  go_enter Tryz.func7, Tryz.ntmps7
  go_wp2_with (first | go_skip | ((with_reducible refine gate_op (op := .load 26 (.tmp 1)) rfl ?_); refine wpList_load_row' rfl 26 (.tmp 1) rfl _ rfl 26 _ (0, 0) _ (hS.at_ 0 rfl) Tryz.underlying26 rfl (VT.val_info _) ?_) | (go_at_call 13; with_reducible (refine (HG.out _ hS.below).mono ?_); rintro e wn ⟨rfl, hbn⟩; have hS1 := hS.step hbn; clear hS hbn c0 c1 c2 c3 c4; have hS := hS1; clear hS1; have c0 := (cell_of_row _ _ 0 _ _ _ (hS.at_ 0 rfl)).trans (show t.c[0]? = some (.int .i64 t.k) from rfl); have c1 := (cell_of_row _ _ 1 _ _ _ (hS.at_ 0 rfl)).trans (show t.c[1]? = some (.int .i64 t.n) from rfl); have c2 := (cell_of_row _ _ 2 _ _ _ (hS.at_ 0 rfl)).trans (show t.c[2]? = some (.string t.s) from rfl); have c3 := (cell_of_row _ _ 3 _ _ _ (hS.at_ 0 rfl)).trans (show t.c[3]? = some (.slice t.lA t.ln t.lc) from rfl); have c4 := (cell_of_row _ _ 4 _ _ _ (hS.at_ 0 rfl)).trans (show t.c[4]? = some (.slice t.mA t.mn t.mc) from rfl)) | (go_at_call 14; with_reducible (refine (text_any _ _ hn0 hn1 (HV.out.step hS.below).tab).mono ?_); rintro e wn ⟨rfl, hbn⟩; have hS1 := hS.step hbn; clear hS hbn c0 c1 c2 c3 c4; have hS := hS1; clear hS1; have c0 := (cell_of_row _ _ 0 _ _ _ (hS.at_ 0 rfl)).trans (show t.c[0]? = some (.int .i64 t.k) from rfl); have c1 := (cell_of_row _ _ 1 _ _ _ (hS.at_ 0 rfl)).trans (show t.c[1]? = some (.int .i64 t.n) from rfl); have c2 := (cell_of_row _ _ 2 _ _ _ (hS.at_ 0 rfl)).trans (show t.c[2]? = some (.string t.s) from rfl); have c3 := (cell_of_row _ _ 3 _ _ _ (hS.at_ 0 rfl)).trans (show t.c[3]? = some (.slice t.lA t.ln t.lc) from rfl); have c4 := (cell_of_row _ _ 4 _ _ _ (hS.at_ 0 rfl)).trans (show t.c[4]? = some (.slice t.mA t.mn t.mc) from rfl)))
  go_ret2
  exact ⟨rfl, hS.below⟩
set_option maxRecDepth 100000 in
set_option maxHeartbeats 1000000 in
theorem ct_i (hx : decide ((0 : Int) < wrap64 ((t.ln : Int) + (t.mn : Int))) = false) (hg : goodT t = true) (hk : t.k = 2) : Calls Tryz.prog 7 #[.agg t.c] w fun e w' => e = .returned (.tuple #[.string ⟨(Lib.itoa t.n).toArray⟩, .bool true]) ∧ Below w.heap.size w w' := by
  have HV := Lib.hid hw
  have hG := fun (W : World) (hW : Below w.heap.size w W) => goodT_any t W (hw.step hW) ((ht.move hW).up hW.size)
  have HA := ht.here
  have hn0 := HA.n0
  have hn1 := HA.n1
  have hS : Boxes w (w.alloc (Obj.cells t.c 26)) [(w.heap.size, Obj.cells t.c 26)] := (Boxes.start w).alloc _
  rw [hg] at hG
  have HG := Lib.hid hG
  clear hG hw ht HA
  have c0 := (cell_of_row _ _ 0 _ _ _ (hS.at_ 0 rfl)).trans (show t.c[0]? = some (.int .i64 t.k) from rfl)
  have c1 := (cell_of_row _ _ 1 _ _ _ (hS.at_ 0 rfl)).trans (show t.c[1]? = some (.int .i64 t.n) from rfl)
  have c2 := (cell_of_row _ _ 2 _ _ _ (hS.at_ 0 rfl)).trans (show t.c[2]? = some (.string t.s) from rfl)
  have c3 := (cell_of_row _ _ 3 _ _ _ (hS.at_ 0 rfl)).trans (show t.c[3]? = some (.slice t.lA t.ln t.lc) from rfl)
  have c4 := (cell_of_row _ _ 4 _ _ _ (hS.at_ 0 rfl)).trans (show t.c[4]? = some (.slice t.mA t.mn t.mc) from rfl)
  go_enter Tryz.func7, Tryz.ntmps7
  go_wp2_with (first | go_skip | ((with_reducible refine gate_op (op := .load 26 (.tmp 1)) rfl ?_); refine wpList_load_row' rfl 26 (.tmp 1) rfl _ rfl 26 _ (0, 0) _ (hS.at_ 0 rfl) Tryz.underlying26 rfl (VT.val_info _) ?_) | (go_at_call 13; with_reducible (refine (HG.out _ hS.below).mono ?_); rintro e wn ⟨rfl, hbn⟩; have hS1 := hS.step hbn; clear hS hbn c0 c1 c2 c3 c4; have hS := hS1; clear hS1; have c0 := (cell_of_row _ _ 0 _ _ _ (hS.at_ 0 rfl)).trans (show t.c[0]? = some (.int .i64 t.k) from rfl); have c1 := (cell_of_row _ _ 1 _ _ _ (hS.at_ 0 rfl)).trans (show t.c[1]? = some (.int .i64 t.n) from rfl); have c2 := (cell_of_row _ _ 2 _ _ _ (hS.at_ 0 rfl)).trans (show t.c[2]? = some (.string t.s) from rfl); have c3 := (cell_of_row _ _ 3 _ _ _ (hS.at_ 0 rfl)).trans (show t.c[3]? = some (.slice t.lA t.ln t.lc) from rfl); have c4 := (cell_of_row _ _ 4 _ _ _ (hS.at_ 0 rfl)).trans (show t.c[4]? = some (.slice t.mA t.mn t.mc) from rfl)) | (go_at_call 14; with_reducible (refine (text_any _ _ hn0 hn1 (HV.out.step hS.below).tab).mono ?_); rintro e wn ⟨rfl, hbn⟩; have hS1 := hS.step hbn; clear hS hbn c0 c1 c2 c3 c4; have hS := hS1; clear hS1; have c0 := (cell_of_row _ _ 0 _ _ _ (hS.at_ 0 rfl)).trans (show t.c[0]? = some (.int .i64 t.k) from rfl); have c1 := (cell_of_row _ _ 1 _ _ _ (hS.at_ 0 rfl)).trans (show t.c[1]? = some (.int .i64 t.n) from rfl); have c2 := (cell_of_row _ _ 2 _ _ _ (hS.at_ 0 rfl)).trans (show t.c[2]? = some (.string t.s) from rfl); have c3 := (cell_of_row _ _ 3 _ _ _ (hS.at_ 0 rfl)).trans (show t.c[3]? = some (.slice t.lA t.ln t.lc) from rfl); have c4 := (cell_of_row _ _ 4 _ _ _ (hS.at_ 0 rfl)).trans (show t.c[4]? = some (.slice t.mA t.mn t.mc) from rfl)))
  go_ret2
  exact ⟨rfl, hS.below⟩
set_option maxRecDepth 100000 in
set_option maxHeartbeats 1000000 in
theorem ct_n (hx : decide ((0 : Int) < wrap64 ((t.ln : Int) + (t.mn : Int))) = false) (hg : goodT t = true) (hk : t.k = 3) : Calls Tryz.prog 7 #[.agg t.c] w fun e w' => e = .returned (.tuple #[.string t.s, .bool true]) ∧ Below w.heap.size w w' := by
  have HV := Lib.hid hw
  have hG := fun (W : World) (hW : Below w.heap.size w W) => goodT_any t W (hw.step hW) ((ht.move hW).up hW.size)
  have HA := ht.here
  have hn0 := HA.n0
  have hn1 := HA.n1
  have hS : Boxes w (w.alloc (Obj.cells t.c 26)) [(w.heap.size, Obj.cells t.c 26)] := (Boxes.start w).alloc _
  rw [hg] at hG
  have HG := Lib.hid hG
  clear hG hw ht HA
  have c0 := (cell_of_row _ _ 0 _ _ _ (hS.at_ 0 rfl)).trans (show t.c[0]? = some (.int .i64 t.k) from rfl)
  have c1 := (cell_of_row _ _ 1 _ _ _ (hS.at_ 0 rfl)).trans (show t.c[1]? = some (.int .i64 t.n) from rfl)
  have c2 := (cell_of_row _ _ 2 _ _ _ (hS.at_ 0 rfl)).trans (show t.c[2]? = some (.string t.s) from rfl)
  have c3 := (cell_of_row _ _ 3 _ _ _ (hS.at_ 0 rfl)).trans (show t.c[3]? = some (.slice t.lA t.ln t.lc) from rfl)
  have c4 := (cell_of_row _ _ 4 _ _ _ (hS.at_ 0 rfl)).trans (show t.c[4]? = some (.slice t.mA t.mn t.mc) from rfl)
  go_enter Tryz.func7, Tryz.ntmps7
  go_wp2_with (first | go_skip | ((with_reducible refine gate_op (op := .load 26 (.tmp 1)) rfl ?_); refine wpList_load_row' rfl 26 (.tmp 1) rfl _ rfl 26 _ (0, 0) _ (hS.at_ 0 rfl) Tryz.underlying26 rfl (VT.val_info _) ?_) | (go_at_call 13; with_reducible (refine (HG.out _ hS.below).mono ?_); rintro e wn ⟨rfl, hbn⟩; have hS1 := hS.step hbn; clear hS hbn c0 c1 c2 c3 c4; have hS := hS1; clear hS1; have c0 := (cell_of_row _ _ 0 _ _ _ (hS.at_ 0 rfl)).trans (show t.c[0]? = some (.int .i64 t.k) from rfl); have c1 := (cell_of_row _ _ 1 _ _ _ (hS.at_ 0 rfl)).trans (show t.c[1]? = some (.int .i64 t.n) from rfl); have c2 := (cell_of_row _ _ 2 _ _ _ (hS.at_ 0 rfl)).trans (show t.c[2]? = some (.string t.s) from rfl); have c3 := (cell_of_row _ _ 3 _ _ _ (hS.at_ 0 rfl)).trans (show t.c[3]? = some (.slice t.lA t.ln t.lc) from rfl); have c4 := (cell_of_row _ _ 4 _ _ _ (hS.at_ 0 rfl)).trans (show t.c[4]? = some (.slice t.mA t.mn t.mc) from rfl)) | (go_at_call 14; with_reducible (refine (text_any _ _ hn0 hn1 (HV.out.step hS.below).tab).mono ?_); rintro e wn ⟨rfl, hbn⟩; have hS1 := hS.step hbn; clear hS hbn c0 c1 c2 c3 c4; have hS := hS1; clear hS1; have c0 := (cell_of_row _ _ 0 _ _ _ (hS.at_ 0 rfl)).trans (show t.c[0]? = some (.int .i64 t.k) from rfl); have c1 := (cell_of_row _ _ 1 _ _ _ (hS.at_ 0 rfl)).trans (show t.c[1]? = some (.int .i64 t.n) from rfl); have c2 := (cell_of_row _ _ 2 _ _ _ (hS.at_ 0 rfl)).trans (show t.c[2]? = some (.string t.s) from rfl); have c3 := (cell_of_row _ _ 3 _ _ _ (hS.at_ 0 rfl)).trans (show t.c[3]? = some (.slice t.lA t.ln t.lc) from rfl); have c4 := (cell_of_row _ _ 4 _ _ _ (hS.at_ 0 rfl)).trans (show t.c[4]? = some (.slice t.mA t.mn t.mc) from rfl)))
  go_ret2
  exact ⟨rfl, hS.below⟩
set_option maxRecDepth 100000 in
set_option maxHeartbeats 1000000 in
theorem ct_s (hx : decide ((0 : Int) < wrap64 ((t.ln : Int) + (t.mn : Int))) = false) (hg : goodT t = true) (hk : t.k = 7) (hz : t.s.size ≤ 64) : Calls Tryz.prog 7 #[.agg t.c] w fun e w' => e = .returned (.tuple #[.string (atS t.s), .bool true]) ∧ Below w.heap.size w w' := by
  have HV := Lib.hid hw
  have hG := fun (W : World) (hW : Below w.heap.size w W) => goodT_any t W (hw.step hW) ((ht.move hW).up hW.size)
  have HA := ht.here
  have hn0 := HA.n0
  have hn1 := HA.n1
  have hS : Boxes w (w.alloc (Obj.cells t.c 26)) [(w.heap.size, Obj.cells t.c 26)] := (Boxes.start w).alloc _
  rw [hg] at hG
  have HG := Lib.hid hG
  clear hG hw ht HA
  have c0 := (cell_of_row _ _ 0 _ _ _ (hS.at_ 0 rfl)).trans (show t.c[0]? = some (.int .i64 t.k) from rfl)
  have c1 := (cell_of_row _ _ 1 _ _ _ (hS.at_ 0 rfl)).trans (show t.c[1]? = some (.int .i64 t.n) from rfl)
  have c2 := (cell_of_row _ _ 2 _ _ _ (hS.at_ 0 rfl)).trans (show t.c[2]? = some (.string t.s) from rfl)
  have c3 := (cell_of_row _ _ 3 _ _ _ (hS.at_ 0 rfl)).trans (show t.c[3]? = some (.slice t.lA t.ln t.lc) from rfl)
  have c4 := (cell_of_row _ _ 4 _ _ _ (hS.at_ 0 rfl)).trans (show t.c[4]? = some (.slice t.mA t.mn t.mc) from rfl)
  go_enter Tryz.func7, Tryz.ntmps7
  go_wp2_with (first | go_skip | ((with_reducible refine gate_op (op := .load 26 (.tmp 1)) rfl ?_); refine wpList_load_row' rfl 26 (.tmp 1) rfl _ rfl 26 _ (0, 0) _ (hS.at_ 0 rfl) Tryz.underlying26 rfl (VT.val_info _) ?_) | (go_at_call 13; with_reducible (refine (HG.out _ hS.below).mono ?_); rintro e wn ⟨rfl, hbn⟩; have hS1 := hS.step hbn; clear hS hbn c0 c1 c2 c3 c4; have hS := hS1; clear hS1; have c0 := (cell_of_row _ _ 0 _ _ _ (hS.at_ 0 rfl)).trans (show t.c[0]? = some (.int .i64 t.k) from rfl); have c1 := (cell_of_row _ _ 1 _ _ _ (hS.at_ 0 rfl)).trans (show t.c[1]? = some (.int .i64 t.n) from rfl); have c2 := (cell_of_row _ _ 2 _ _ _ (hS.at_ 0 rfl)).trans (show t.c[2]? = some (.string t.s) from rfl); have c3 := (cell_of_row _ _ 3 _ _ _ (hS.at_ 0 rfl)).trans (show t.c[3]? = some (.slice t.lA t.ln t.lc) from rfl); have c4 := (cell_of_row _ _ 4 _ _ _ (hS.at_ 0 rfl)).trans (show t.c[4]? = some (.slice t.mA t.mn t.mc) from rfl)) | (go_at_call 14; with_reducible (refine (text_any _ _ hn0 hn1 (HV.out.step hS.below).tab).mono ?_); rintro e wn ⟨rfl, hbn⟩; have hS1 := hS.step hbn; clear hS hbn c0 c1 c2 c3 c4; have hS := hS1; clear hS1; have c0 := (cell_of_row _ _ 0 _ _ _ (hS.at_ 0 rfl)).trans (show t.c[0]? = some (.int .i64 t.k) from rfl); have c1 := (cell_of_row _ _ 1 _ _ _ (hS.at_ 0 rfl)).trans (show t.c[1]? = some (.int .i64 t.n) from rfl); have c2 := (cell_of_row _ _ 2 _ _ _ (hS.at_ 0 rfl)).trans (show t.c[2]? = some (.string t.s) from rfl); have c3 := (cell_of_row _ _ 3 _ _ _ (hS.at_ 0 rfl)).trans (show t.c[3]? = some (.slice t.lA t.ln t.lc) from rfl); have c4 := (cell_of_row _ _ 4 _ _ _ (hS.at_ 0 rfl)).trans (show t.c[4]? = some (.slice t.mA t.mn t.mc) from rfl)))
  go_ret2
  exact ⟨rfl, hS.below⟩
set_option maxRecDepth 100000 in
set_option maxHeartbeats 1000000 in
theorem ct_l (hx : decide ((0 : Int) < wrap64 ((t.ln : Int) + (t.mn : Int))) = false) (hg : goodT t = true) (hk : t.k = 5) : Calls Tryz.prog 7 #[.agg t.c] w fun e w' => e = .returned (.tuple #[.string ⟨#[91, 93]⟩, .bool true]) ∧ Below w.heap.size w w' := by
  have HV := Lib.hid hw
  have hG := fun (W : World) (hW : Below w.heap.size w W) => goodT_any t W (hw.step hW) ((ht.move hW).up hW.size)
  have HA := ht.here
  have hn0 := HA.n0
  have hn1 := HA.n1
  have hS : Boxes w (w.alloc (Obj.cells t.c 26)) [(w.heap.size, Obj.cells t.c 26)] := (Boxes.start w).alloc _
  rw [hg] at hG
  have HG := Lib.hid hG
  clear hG hw ht HA
  have c0 := (cell_of_row _ _ 0 _ _ _ (hS.at_ 0 rfl)).trans (show t.c[0]? = some (.int .i64 t.k) from rfl)
  have c1 := (cell_of_row _ _ 1 _ _ _ (hS.at_ 0 rfl)).trans (show t.c[1]? = some (.int .i64 t.n) from rfl)
  have c2 := (cell_of_row _ _ 2 _ _ _ (hS.at_ 0 rfl)).trans (show t.c[2]? = some (.string t.s) from rfl)
  have c3 := (cell_of_row _ _ 3 _ _ _ (hS.at_ 0 rfl)).trans (show t.c[3]? = some (.slice t.lA t.ln t.lc) from rfl)
  have c4 := (cell_of_row _ _ 4 _ _ _ (hS.at_ 0 rfl)).trans (show t.c[4]? = some (.slice t.mA t.mn t.mc) from rfl)
  go_enter Tryz.func7, Tryz.ntmps7
  go_wp2_with (first | go_skip | ((with_reducible refine gate_op (op := .load 26 (.tmp 1)) rfl ?_); refine wpList_load_row' rfl 26 (.tmp 1) rfl _ rfl 26 _ (0, 0) _ (hS.at_ 0 rfl) Tryz.underlying26 rfl (VT.val_info _) ?_) | (go_at_call 13; with_reducible (refine (HG.out _ hS.below).mono ?_); rintro e wn ⟨rfl, hbn⟩; have hS1 := hS.step hbn; clear hS hbn c0 c1 c2 c3 c4; have hS := hS1; clear hS1; have c0 := (cell_of_row _ _ 0 _ _ _ (hS.at_ 0 rfl)).trans (show t.c[0]? = some (.int .i64 t.k) from rfl); have c1 := (cell_of_row _ _ 1 _ _ _ (hS.at_ 0 rfl)).trans (show t.c[1]? = some (.int .i64 t.n) from rfl); have c2 := (cell_of_row _ _ 2 _ _ _ (hS.at_ 0 rfl)).trans (show t.c[2]? = some (.string t.s) from rfl); have c3 := (cell_of_row _ _ 3 _ _ _ (hS.at_ 0 rfl)).trans (show t.c[3]? = some (.slice t.lA t.ln t.lc) from rfl); have c4 := (cell_of_row _ _ 4 _ _ _ (hS.at_ 0 rfl)).trans (show t.c[4]? = some (.slice t.mA t.mn t.mc) from rfl)) | (go_at_call 14; with_reducible (refine (text_any _ _ hn0 hn1 (HV.out.step hS.below).tab).mono ?_); rintro e wn ⟨rfl, hbn⟩; have hS1 := hS.step hbn; clear hS hbn c0 c1 c2 c3 c4; have hS := hS1; clear hS1; have c0 := (cell_of_row _ _ 0 _ _ _ (hS.at_ 0 rfl)).trans (show t.c[0]? = some (.int .i64 t.k) from rfl); have c1 := (cell_of_row _ _ 1 _ _ _ (hS.at_ 0 rfl)).trans (show t.c[1]? = some (.int .i64 t.n) from rfl); have c2 := (cell_of_row _ _ 2 _ _ _ (hS.at_ 0 rfl)).trans (show t.c[2]? = some (.string t.s) from rfl); have c3 := (cell_of_row _ _ 3 _ _ _ (hS.at_ 0 rfl)).trans (show t.c[3]? = some (.slice t.lA t.ln t.lc) from rfl); have c4 := (cell_of_row _ _ 4 _ _ _ (hS.at_ 0 rfl)).trans (show t.c[4]? = some (.slice t.mA t.mn t.mc) from rfl)))
  go_ret2
  exact ⟨rfl, hS.below⟩
set_option maxRecDepth 100000 in
set_option maxHeartbeats 1000000 in
theorem ct_m (hx : decide ((0 : Int) < wrap64 ((t.ln : Int) + (t.mn : Int))) = false) (hg : goodT t = true) (hk : t.k = 6) : Calls Tryz.prog 7 #[.agg t.c] w fun e w' => e = .returned (.tuple #[.string ⟨#[123, 125]⟩, .bool true]) ∧ Below w.heap.size w w' := by
  have HV := Lib.hid hw
  have hG := fun (W : World) (hW : Below w.heap.size w W) => goodT_any t W (hw.step hW) ((ht.move hW).up hW.size)
  have HA := ht.here
  have hn0 := HA.n0
  have hn1 := HA.n1
  have hS : Boxes w (w.alloc (Obj.cells t.c 26)) [(w.heap.size, Obj.cells t.c 26)] := (Boxes.start w).alloc _
  rw [hg] at hG
  have HG := Lib.hid hG
  clear hG hw ht HA
  have c0 := (cell_of_row _ _ 0 _ _ _ (hS.at_ 0 rfl)).trans (show t.c[0]? = some (.int .i64 t.k) from rfl)
  have c1 := (cell_of_row _ _ 1 _ _ _ (hS.at_ 0 rfl)).trans (show t.c[1]? = some (.int .i64 t.n) from rfl)
  have c2 := (cell_of_row _ _ 2 _ _ _ (hS.at_ 0 rfl)).trans (show t.c[2]? = some (.string t.s) from rfl)
  have c3 := (cell_of_row _ _ 3 _ _ _ (hS.at_ 0 rfl)).trans (show t.c[3]? = some (.slice t.lA t.ln t.lc) from rfl)
  have c4 := (cell_of_row _ _ 4 _ _ _ (hS.at_ 0 rfl)).trans (show t.c[4]? = some (.slice t.mA t.mn t.mc) from rfl)
  go_enter Tryz.func7, Tryz.ntmps7
  go_wp2_with (first | go_skip | ((with_reducible refine gate_op (op := .load 26 (.tmp 1)) rfl ?_); refine wpList_load_row' rfl 26 (.tmp 1) rfl _ rfl 26 _ (0, 0) _ (hS.at_ 0 rfl) Tryz.underlying26 rfl (VT.val_info _) ?_) | (go_at_call 13; with_reducible (refine (HG.out _ hS.below).mono ?_); rintro e wn ⟨rfl, hbn⟩; have hS1 := hS.step hbn; clear hS hbn c0 c1 c2 c3 c4; have hS := hS1; clear hS1; have c0 := (cell_of_row _ _ 0 _ _ _ (hS.at_ 0 rfl)).trans (show t.c[0]? = some (.int .i64 t.k) from rfl); have c1 := (cell_of_row _ _ 1 _ _ _ (hS.at_ 0 rfl)).trans (show t.c[1]? = some (.int .i64 t.n) from rfl); have c2 := (cell_of_row _ _ 2 _ _ _ (hS.at_ 0 rfl)).trans (show t.c[2]? = some (.string t.s) from rfl); have c3 := (cell_of_row _ _ 3 _ _ _ (hS.at_ 0 rfl)).trans (show t.c[3]? = some (.slice t.lA t.ln t.lc) from rfl); have c4 := (cell_of_row _ _ 4 _ _ _ (hS.at_ 0 rfl)).trans (show t.c[4]? = some (.slice t.mA t.mn t.mc) from rfl)) | (go_at_call 14; with_reducible (refine (text_any _ _ hn0 hn1 (HV.out.step hS.below).tab).mono ?_); rintro e wn ⟨rfl, hbn⟩; have hS1 := hS.step hbn; clear hS hbn c0 c1 c2 c3 c4; have hS := hS1; clear hS1; have c0 := (cell_of_row _ _ 0 _ _ _ (hS.at_ 0 rfl)).trans (show t.c[0]? = some (.int .i64 t.k) from rfl); have c1 := (cell_of_row _ _ 1 _ _ _ (hS.at_ 0 rfl)).trans (show t.c[1]? = some (.int .i64 t.n) from rfl); have c2 := (cell_of_row _ _ 2 _ _ _ (hS.at_ 0 rfl)).trans (show t.c[2]? = some (.string t.s) from rfl); have c3 := (cell_of_row _ _ 3 _ _ _ (hS.at_ 0 rfl)).trans (show t.c[3]? = some (.slice t.lA t.ln t.lc) from rfl); have c4 := (cell_of_row _ _ 4 _ _ _ (hS.at_ 0 rfl)).trans (show t.c[4]? = some (.slice t.mA t.mn t.mc) from rfl)))
  go_ret2
  exact ⟨rfl, hS.below⟩
set_option maxRecDepth 100000 in
set_option maxHeartbeats 1000000 in
theorem ct_t (hx : decide ((0 : Int) < wrap64 ((t.ln : Int) + (t.mn : Int))) = false) (hg : goodT t = true) (hk : t.k = 4) (hz : t.s.size ≤ 4096) : Calls Tryz.prog 7 #[.agg t.c] w fun e w' => e = .returned (.tuple #[.string (textS t.s), .bool true]) ∧ Below w.heap.size w w' := by
  have HV := Lib.hid hw
  have hG := fun (W : World) (hW : Below w.heap.size w W) => goodT_any t W (hw.step hW) ((ht.move hW).up hW.size)
  have HA := ht.here
  have hn0 := HA.n0
  have hn1 := HA.n1
  have hS : Boxes w (w.alloc (Obj.cells t.c 26)) [(w.heap.size, Obj.cells t.c 26)] := (Boxes.start w).alloc _
  rw [hg] at hG
  have HG := Lib.hid hG
  clear hG hw ht HA
  have c0 := (cell_of_row _ _ 0 _ _ _ (hS.at_ 0 rfl)).trans (show t.c[0]? = some (.int .i64 t.k) from rfl)
  have c1 := (cell_of_row _ _ 1 _ _ _ (hS.at_ 0 rfl)).trans (show t.c[1]? = some (.int .i64 t.n) from rfl)
  have c2 := (cell_of_row _ _ 2 _ _ _ (hS.at_ 0 rfl)).trans (show t.c[2]? = some (.string t.s) from rfl)
  have c3 := (cell_of_row _ _ 3 _ _ _ (hS.at_ 0 rfl)).trans (show t.c[3]? = some (.slice t.lA t.ln t.lc) from rfl)
  have c4 := (cell_of_row _ _ 4 _ _ _ (hS.at_ 0 rfl)).trans (show t.c[4]? = some (.slice t.mA t.mn t.mc) from rfl)
  go_enter Tryz.func7, Tryz.ntmps7
  go_wp2_with (first | go_skip | ((with_reducible refine gate_op (op := .load 26 (.tmp 1)) rfl ?_); refine wpList_load_row' rfl 26 (.tmp 1) rfl _ rfl 26 _ (0, 0) _ (hS.at_ 0 rfl) Tryz.underlying26 rfl (VT.val_info _) ?_) | (go_at_call 13; with_reducible (refine (HG.out _ hS.below).mono ?_); rintro e wn ⟨rfl, hbn⟩; have hS1 := hS.step hbn; clear hS hbn c0 c1 c2 c3 c4; have hS := hS1; clear hS1; have c0 := (cell_of_row _ _ 0 _ _ _ (hS.at_ 0 rfl)).trans (show t.c[0]? = some (.int .i64 t.k) from rfl); have c1 := (cell_of_row _ _ 1 _ _ _ (hS.at_ 0 rfl)).trans (show t.c[1]? = some (.int .i64 t.n) from rfl); have c2 := (cell_of_row _ _ 2 _ _ _ (hS.at_ 0 rfl)).trans (show t.c[2]? = some (.string t.s) from rfl); have c3 := (cell_of_row _ _ 3 _ _ _ (hS.at_ 0 rfl)).trans (show t.c[3]? = some (.slice t.lA t.ln t.lc) from rfl); have c4 := (cell_of_row _ _ 4 _ _ _ (hS.at_ 0 rfl)).trans (show t.c[4]? = some (.slice t.mA t.mn t.mc) from rfl)) | (go_at_call 14; with_reducible (refine (text_any _ _ hn0 hn1 (HV.out.step hS.below).tab).mono ?_); rintro e wn ⟨rfl, hbn⟩; have hS1 := hS.step hbn; clear hS hbn c0 c1 c2 c3 c4; have hS := hS1; clear hS1; have c0 := (cell_of_row _ _ 0 _ _ _ (hS.at_ 0 rfl)).trans (show t.c[0]? = some (.int .i64 t.k) from rfl); have c1 := (cell_of_row _ _ 1 _ _ _ (hS.at_ 0 rfl)).trans (show t.c[1]? = some (.int .i64 t.n) from rfl); have c2 := (cell_of_row _ _ 2 _ _ _ (hS.at_ 0 rfl)).trans (show t.c[2]? = some (.string t.s) from rfl); have c3 := (cell_of_row _ _ 3 _ _ _ (hS.at_ 0 rfl)).trans (show t.c[3]? = some (.slice t.lA t.ln t.lc) from rfl); have c4 := (cell_of_row _ _ 4 _ _ _ (hS.at_ 0 rfl)).trans (show t.c[4]? = some (.slice t.mA t.mn t.mc) from rfl)) | (go_at_call 15; with_reducible (refine (ctext_any _ _ (HV.out.step hS.below) hz).mono ?_); rintro e wn ⟨rfl, hbn⟩; have hS1 := hS.step hbn; clear hS hbn c0 c1 c2 c3 c4; have hS := hS1; clear hS1; have c0 := (cell_of_row _ _ 0 _ _ _ (hS.at_ 0 rfl)).trans (show t.c[0]? = some (.int .i64 t.k) from rfl); have c1 := (cell_of_row _ _ 1 _ _ _ (hS.at_ 0 rfl)).trans (show t.c[1]? = some (.int .i64 t.n) from rfl); have c2 := (cell_of_row _ _ 2 _ _ _ (hS.at_ 0 rfl)).trans (show t.c[2]? = some (.string t.s) from rfl); have c3 := (cell_of_row _ _ 3 _ _ _ (hS.at_ 0 rfl)).trans (show t.c[3]? = some (.slice t.lA t.ln t.lc) from rfl); have c4 := (cell_of_row _ _ 4 _ _ _ (hS.at_ 0 rfl)).trans (show t.c[4]? = some (.slice t.mA t.mn t.mc) from rfl)))
  go_ret2
  exact ⟨rfl, hS.below⟩
theorem cText_any : Calls Tryz.prog 7 #[.agg t.c] w fun e w' => e = .returned (.tuple #[.string (textV t).1, .bool (textV t).2]) ∧ Below w.heap.size w w' := by
  have go : ∀ {r : ByteArray × Bool}, textV t = r → (Calls Tryz.prog 7 #[.agg t.c] w fun e w' => e = .returned (.tuple #[.string r.1, .bool r.2]) ∧ Below w.heap.size w w') → Calls Tryz.prog 7 #[.agg t.c] w fun e w' => e = .returned (.tuple #[.string (textV t).1, .bool (textV t).2]) ∧ Below w.heap.size w w' := fun h k => by rw [h]; exact k
  have HA := ht.here
  have hll := HA.ll
  have hml := HA.ml
  have w0 : t.ln = 0 → t.mn = 0 → decide ((0 : Int) < wrap64 ((t.ln : Int) + (t.mn : Int))) = false := fun a b => decide_eq_false (by rw [a, b]; unfold wrap64; omega)
  by_cases hc : (decide (t.ln + t.mn > 0) || !goodT t) = true
  · have e : textV t = (⟨#[]⟩, false) := by unfold textV; rw [if_pos hc]
    cases hx : decide ((0 : Int) < wrap64 ((t.ln : Int) + (t.mn : Int)))
    case true => exact go e (ct_a t w hw ht hx)
    cases hg : goodT t
    case false => exact go e (ct_b t w hw ht hx hg)
    exfalso
    have ho : ownV t = true := by
      unfold goodT at hg
      rw [judgeT_eq] at hg
      cases h : ownV t
      · rw [h] at hg; simp at hg
      · rfl
    have hone : t.ln = 0 ∨ t.mn = 0 := by
      unfold ownV ownB at ho
      by_cases h0 : t.ln = 0
      · exact .inl h0
      by_cases h1 : t.mn = 0
      · exact .inr h1
      · simp [h0, h1] at ho
    rw [hg] at hc
    have hpos : 0 < t.ln + t.mn := by simpa using hc
    rw [show wrap64 ((t.ln : Int) + (t.mn : Int)) = (t.ln : Int) + (t.mn : Int) by unfold wrap64; omega] at hx
    simp at hx
    omega
  · simp only [Bool.or_eq_true, decide_eq_true_eq, Bool.not_eq_true', not_or] at hc
    have hl : t.ln = 0 := by omega
    have hm : t.mn = 0 := by omega
    have hg : goodT t = true := by simpa using hc.2
    have hx := w0 hl hm
    have ho := hg
    rw [flat_good t hl hm] at ho
    unfold ownV ownB at ho
    have e0 : textV t = if t.k = 0 then (⟨#[110, 117, 108, 108]⟩, true)
  else if t.k = 1 then (if t.n = 1 then (⟨#[116, 114, 117, 101]⟩, true) else (⟨#[102, 97, 108, 115, 101]⟩, true))
  else if t.k = 2 then (⟨(Lib.itoa t.n).toArray⟩, true)
  else if t.k = 3 then (t.s, true)
  else if t.k = 7 then (atS t.s, true)
  else if t.k = 5 then (⟨#[91, 93]⟩, true)
  else if t.k = 6 then (⟨#[123, 125]⟩, true)
  else (textS t.s, true) := by unfold textV; rw [if_neg (by rw [hl, hm, hg]; simp)]
    by_cases k0 : t.k = 0
    · exact go (by rw [e0, if_pos k0]) (ct_0 t w hw ht hx hg k0)
    by_cases k1 : t.k = 1
    · by_cases n1 : t.n = 1
      · exact go (by rw [e0, if_neg k0, if_pos k1, if_pos n1]) (ct_1 t w hw ht hx hg k1 (by simpa using n1))
      · exact go (by rw [e0, if_neg k0, if_pos k1, if_neg n1]) (ct_2 t w hw ht hx hg k1 (by simpa using n1))
    by_cases k2 : t.k = 2
    · exact go (by rw [e0, if_neg k0, if_neg k1, if_pos k2]) (ct_i t w hw ht hx hg k2)
    by_cases k3 : t.k = 3
    · exact go (by rw [e0, if_neg k0, if_neg k1, if_neg k2, if_pos k3]) (ct_n t w hw ht hx hg k3)
    by_cases k7 : t.k = 7
    · have hz : t.s.size ≤ 64 := by
        simp [k7, hl, hm] at ho
        have h2 := ho.2
        unfold stampB at h2
        simp at h2
        omega
      exact go (by rw [e0, if_neg k0, if_neg k1, if_neg k2, if_neg k3, if_pos k7]) (ct_s t w hw ht hx hg k7 hz)
    by_cases k5 : t.k = 5
    · exact go (by rw [e0, if_neg k0, if_neg k1, if_neg k2, if_neg k3, if_neg k7, if_pos k5]) (ct_l t w hw ht hx hg k5)
    by_cases k6 : t.k = 6
    · exact go (by rw [e0, if_neg k0, if_neg k1, if_neg k2, if_neg k3, if_neg k7, if_neg k5, if_pos k6]) (ct_m t w hw ht hx hg k6)
    by_cases k4 : t.k = 4
    · have hz : t.s.size ≤ 4096 := by
        simp [k4, hl, hm] at ho
        have h2 := ho.2
        unfold letC at h2
        split at h2
        · split at h2
          · cases h2
          · omega
        · cases h2
      exact go (by rw [e0, if_neg k0, if_neg k1, if_neg k2, if_neg k3, if_neg k7, if_neg k5, if_neg k6]) (ct_t t w hw ht hx hg k4 hz)
    · simp [k0, k1, k2, k3, k4, k5, k6, k7] at ho
end
end Go.Proofs.YtnapebgkcjnnbaaGreatDoor
