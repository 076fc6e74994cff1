/-
  The reference's CellText, for all values. No condition.
-/
import Derived.Test.YtnapebgkcjnnbaaGreatDoorCellBJ
import Derived.Test.YtnapebgkcjnnbaaGreatDoorRCellAJ
import Derived.Test.YtnapebgkcjnnbaaGreatDoorJ13
import Derived.Test.YtnapebgkcjnnbaaGreatDoorRTextJ
namespace Go.Proofs.YtnapebgkcjnnbaaGreatDoor
open Go.RowKit
set_option linter.unusedVariables false
set_option linter.unusedSimpArgs false
set_option linter.unusedSectionVars false
section
variable (t : VT) (w : World) (ht : VT.In w.heap.size w t)
include ht
set_option maxRecDepth 100000 in
set_option maxHeartbeats 1000000 in
theorem rct_a (hg : goodT t = false)  : Calls Tryz.prog 8 #[.agg t.c] w fun e w' => e = .returned (.tuple #[.string ⟨#[]⟩, .bool false]) ∧ Below w.heap.size w w' := by
  have hG := fun (W : World) (hW : Below w.heap.size w W) => rvalue_any plain_ok t W ((ht.move hW).up hW.size)
  rw [← good_value, hg] at hG
  have HA := ht.here
  have hn0 := HA.n0
  have hn1 := HA.n1
  have hS : Boxes w (w.alloc (Obj.cells t.c 26)) [(w.heap.size, Obj.cells t.c 26)] := (Boxes.start w).alloc _
  have HG := Lib.hid hG
  clear hG ht HA
  skip
  have c0 := (cell_of_row _ _ 0 _ _ _ (hS.at_ 0 rfl)).trans (show t.c[0]? = some (.int .i64 t.k) from rfl)
  have c1 := (cell_of_row _ _ 1 _ _ _ (hS.at_ 0 rfl)).trans (show t.c[1]? = some (.int .i64 t.n) from rfl)
  have c2 := (cell_of_row _ _ 2 _ _ _ (hS.at_ 0 rfl)).trans (show t.c[2]? = some (.string t.s) from rfl)
  have c3 := (cell_of_row _ _ 3 _ _ _ (hS.at_ 0 rfl)).trans (show t.c[3]? = some (.slice t.lA t.ln t.lc) from rfl)
  have c4 := (cell_of_row _ _ 4 _ _ _ (hS.at_ 0 rfl)).trans (show t.c[4]? = some (.slice t.mA t.mn t.mc) from rfl)
  go_enter Tryz.func8, Tryz.ntmps8
  go_wp2_with (first | go_skip | ((with_reducible refine gate_op (op := .load 26 (.tmp 1)) rfl ?_); refine wpList_load_row' rfl 26 (.tmp 1) rfl _ rfl 26 _ (0, 0) _ (hS.at_ 0 rfl) Tryz.underlying26 rfl (VT.val_info _) ?_) | (go_at_call 16; with_reducible (refine (HG.out _ hS.below).mono ?_); rintro e wn ⟨rfl, hbn⟩; have hS1 := hS.step hbn; clear hS hbn c0 c1 c2 c3 c4; have hS := hS1; clear hS1; have c0 := (cell_of_row _ _ 0 _ _ _ (hS.at_ 0 rfl)).trans (show t.c[0]? = some (.int .i64 t.k) from rfl); have c1 := (cell_of_row _ _ 1 _ _ _ (hS.at_ 0 rfl)).trans (show t.c[1]? = some (.int .i64 t.n) from rfl); have c2 := (cell_of_row _ _ 2 _ _ _ (hS.at_ 0 rfl)).trans (show t.c[2]? = some (.string t.s) from rfl); have c3 := (cell_of_row _ _ 3 _ _ _ (hS.at_ 0 rfl)).trans (show t.c[3]? = some (.slice t.lA t.ln t.lc) from rfl); have c4 := (cell_of_row _ _ 4 _ _ _ (hS.at_ 0 rfl)).trans (show t.c[4]? = some (.slice t.mA t.mn t.mc) from rfl)) | (go_at_call 17; with_reducible (refine (rtext_any _ _ hn0 hn1).mono ?_); rintro e wn ⟨rfl, hbn⟩; have hS1 := hS.step hbn; clear hS hbn c0 c1 c2 c3 c4; have hS := hS1; clear hS1; have c0 := (cell_of_row _ _ 0 _ _ _ (hS.at_ 0 rfl)).trans (show t.c[0]? = some (.int .i64 t.k) from rfl); have c1 := (cell_of_row _ _ 1 _ _ _ (hS.at_ 0 rfl)).trans (show t.c[1]? = some (.int .i64 t.n) from rfl); have c2 := (cell_of_row _ _ 2 _ _ _ (hS.at_ 0 rfl)).trans (show t.c[2]? = some (.string t.s) from rfl); have c3 := (cell_of_row _ _ 3 _ _ _ (hS.at_ 0 rfl)).trans (show t.c[3]? = some (.slice t.lA t.ln t.lc) from rfl); have c4 := (cell_of_row _ _ 4 _ _ _ (hS.at_ 0 rfl)).trans (show t.c[4]? = some (.slice t.mA t.mn t.mc) from rfl)))
  go_ret2
  exact ⟨rfl, hS.below⟩
set_option maxRecDepth 100000 in
set_option maxHeartbeats 1000000 in
theorem rct_b (hg : goodT t = true) (hx : decide ((0 : Int) < wrap64 ((t.ln : Int) + (t.mn : Int))) = true) : Calls Tryz.prog 8 #[.agg t.c] w fun e w' => e = .returned (.tuple #[.string ⟨#[]⟩, .bool false]) ∧ Below w.heap.size w w' := by
  have hG := fun (W : World) (hW : Below w.heap.size w W) => rvalue_any plain_ok t W ((ht.move hW).up hW.size)
  rw [← good_value, hg] at hG
  have HA := ht.here
  have hn0 := HA.n0
  have hn1 := HA.n1
  have hS : Boxes w (w.alloc (Obj.cells t.c 26)) [(w.heap.size, Obj.cells t.c 26)] := (Boxes.start w).alloc _
  have HG := Lib.hid hG
  clear hG ht HA
  skip
  have c0 := (cell_of_row _ _ 0 _ _ _ (hS.at_ 0 rfl)).trans (show t.c[0]? = some (.int .i64 t.k) from rfl)
  have c1 := (cell_of_row _ _ 1 _ _ _ (hS.at_ 0 rfl)).trans (show t.c[1]? = some (.int .i64 t.n) from rfl)
  have c2 := (cell_of_row _ _ 2 _ _ _ (hS.at_ 0 rfl)).trans (show t.c[2]? = some (.string t.s) from rfl)
  have c3 := (cell_of_row _ _ 3 _ _ _ (hS.at_ 0 rfl)).trans (show t.c[3]? = some (.slice t.lA t.ln t.lc) from rfl)
  have c4 := (cell_of_row _ _ 4 _ _ _ (hS.at_ 0 rfl)).trans (show t.c[4]? = some (.slice t.mA t.mn t.mc) from rfl)
  go_enter Tryz.func8, Tryz.ntmps8
  go_wp2_with (first | go_skip | ((with_reducible refine gate_op (op := .load 26 (.tmp 1)) rfl ?_); refine wpList_load_row' rfl 26 (.tmp 1) rfl _ rfl 26 _ (0, 0) _ (hS.at_ 0 rfl) Tryz.underlying26 rfl (VT.val_info _) ?_) | (go_at_call 16; with_reducible (refine (HG.out _ hS.below).mono ?_); rintro e wn ⟨rfl, hbn⟩; have hS1 := hS.step hbn; clear hS hbn c0 c1 c2 c3 c4; have hS := hS1; clear hS1; have c0 := (cell_of_row _ _ 0 _ _ _ (hS.at_ 0 rfl)).trans (show t.c[0]? = some (.int .i64 t.k) from rfl); have c1 := (cell_of_row _ _ 1 _ _ _ (hS.at_ 0 rfl)).trans (show t.c[1]? = some (.int .i64 t.n) from rfl); have c2 := (cell_of_row _ _ 2 _ _ _ (hS.at_ 0 rfl)).trans (show t.c[2]? = some (.string t.s) from rfl); have c3 := (cell_of_row _ _ 3 _ _ _ (hS.at_ 0 rfl)).trans (show t.c[3]? = some (.slice t.lA t.ln t.lc) from rfl); have c4 := (cell_of_row _ _ 4 _ _ _ (hS.at_ 0 rfl)).trans (show t.c[4]? = some (.slice t.mA t.mn t.mc) from rfl)) | (go_at_call 17; with_reducible (refine (rtext_any _ _ hn0 hn1).mono ?_); rintro e wn ⟨rfl, hbn⟩; have hS1 := hS.step hbn; clear hS hbn c0 c1 c2 c3 c4; have hS := hS1; clear hS1; have c0 := (cell_of_row _ _ 0 _ _ _ (hS.at_ 0 rfl)).trans (show t.c[0]? = some (.int .i64 t.k) from rfl); have c1 := (cell_of_row _ _ 1 _ _ _ (hS.at_ 0 rfl)).trans (show t.c[1]? = some (.int .i64 t.n) from rfl); have c2 := (cell_of_row _ _ 2 _ _ _ (hS.at_ 0 rfl)).trans (show t.c[2]? = some (.string t.s) from rfl); have c3 := (cell_of_row _ _ 3 _ _ _ (hS.at_ 0 rfl)).trans (show t.c[3]? = some (.slice t.lA t.ln t.lc) from rfl); have c4 := (cell_of_row _ _ 4 _ _ _ (hS.at_ 0 rfl)).trans (show t.c[4]? = some (.slice t.mA t.mn t.mc) from rfl)))
  go_ret2
  exact ⟨rfl, hS.below⟩
set_option maxRecDepth 100000 in
set_option maxHeartbeats 1000000 in
theorem rct_0 (hg : goodT t = true) (hx : decide ((0 : Int) < wrap64 ((t.ln : Int) + (t.mn : Int))) = false) (hk : t.k = 0) : Calls Tryz.prog 8 #[.agg t.c] w fun e w' => e = .returned (.tuple #[.string ⟨#[110, 117, 108, 108]⟩, .bool true]) ∧ Below w.heap.size w w' := by
  have hG := fun (W : World) (hW : Below w.heap.size w W) => rvalue_any plain_ok t W ((ht.move hW).up hW.size)
  rw [← good_value, hg] at hG
  have HA := ht.here
  have hn0 := HA.n0
  have hn1 := HA.n1
  have hS : Boxes w (w.alloc (Obj.cells t.c 26)) [(w.heap.size, Obj.cells t.c 26)] := (Boxes.start w).alloc _
  have HG := Lib.hid hG
  clear hG ht HA
  skip
  have c0 := (cell_of_row _ _ 0 _ _ _ (hS.at_ 0 rfl)).trans (show t.c[0]? = some (.int .i64 t.k) from rfl)
  have c1 := (cell_of_row _ _ 1 _ _ _ (hS.at_ 0 rfl)).trans (show t.c[1]? = some (.int .i64 t.n) from rfl)
  have c2 := (cell_of_row _ _ 2 _ _ _ (hS.at_ 0 rfl)).trans (show t.c[2]? = some (.string t.s) from rfl)
  have c3 := (cell_of_row _ _ 3 _ _ _ (hS.at_ 0 rfl)).trans (show t.c[3]? = some (.slice t.lA t.ln t.lc) from rfl)
  have c4 := (cell_of_row _ _ 4 _ _ _ (hS.at_ 0 rfl)).trans (show t.c[4]? = some (.slice t.mA t.mn t.mc) from rfl)
  go_enter Tryz.func8, Tryz.ntmps8
  go_wp2_with (first | go_skip | ((with_reducible refine gate_op (op := .load 26 (.tmp 1)) rfl ?_); refine wpList_load_row' rfl 26 (.tmp 1) rfl _ rfl 26 _ (0, 0) _ (hS.at_ 0 rfl) Tryz.underlying26 rfl (VT.val_info _) ?_) | (go_at_call 16; with_reducible (refine (HG.out _ hS.below).mono ?_); rintro e wn ⟨rfl, hbn⟩; have hS1 := hS.step hbn; clear hS hbn c0 c1 c2 c3 c4; have hS := hS1; clear hS1; have c0 := (cell_of_row _ _ 0 _ _ _ (hS.at_ 0 rfl)).trans (show t.c[0]? = some (.int .i64 t.k) from rfl); have c1 := (cell_of_row _ _ 1 _ _ _ (hS.at_ 0 rfl)).trans (show t.c[1]? = some (.int .i64 t.n) from rfl); have c2 := (cell_of_row _ _ 2 _ _ _ (hS.at_ 0 rfl)).trans (show t.c[2]? = some (.string t.s) from rfl); have c3 := (cell_of_row _ _ 3 _ _ _ (hS.at_ 0 rfl)).trans (show t.c[3]? = some (.slice t.lA t.ln t.lc) from rfl); have c4 := (cell_of_row _ _ 4 _ _ _ (hS.at_ 0 rfl)).trans (show t.c[4]? = some (.slice t.mA t.mn t.mc) from rfl)) | (go_at_call 17; with_reducible (refine (rtext_any _ _ hn0 hn1).mono ?_); rintro e wn ⟨rfl, hbn⟩; have hS1 := hS.step hbn; clear hS hbn c0 c1 c2 c3 c4; have hS := hS1; clear hS1; have c0 := (cell_of_row _ _ 0 _ _ _ (hS.at_ 0 rfl)).trans (show t.c[0]? = some (.int .i64 t.k) from rfl); have c1 := (cell_of_row _ _ 1 _ _ _ (hS.at_ 0 rfl)).trans (show t.c[1]? = some (.int .i64 t.n) from rfl); have c2 := (cell_of_row _ _ 2 _ _ _ (hS.at_ 0 rfl)).trans (show t.c[2]? = some (.string t.s) from rfl); have c3 := (cell_of_row _ _ 3 _ _ _ (hS.at_ 0 rfl)).trans (show t.c[3]? = some (.slice t.lA t.ln t.lc) from rfl); have c4 := (cell_of_row _ _ 4 _ _ _ (hS.at_ 0 rfl)).trans (show t.c[4]? = some (.slice t.mA t.mn t.mc) from rfl)))
  go_ret2
  exact ⟨rfl, hS.below⟩
set_option maxRecDepth 100000 in
set_option maxHeartbeats 1000000 in
theorem rct_1 (hg : goodT t = true) (hx : decide ((0 : Int) < wrap64 ((t.ln : Int) + (t.mn : Int))) = false) (hk : t.k = 1) (hn : (t.n == 1) = true) : Calls Tryz.prog 8 #[.agg t.c] w fun e w' => e = .returned (.tuple #[.string ⟨#[116, 114, 117, 101]⟩, .bool true]) ∧ Below w.heap.size w w' := by
  have hG := fun (W : World) (hW : Below w.heap.size w W) => rvalue_any plain_ok t W ((ht.move hW).up hW.size)
  rw [← good_value, hg] at hG
  have HA := ht.here
  have hn0 := HA.n0
  have hn1 := HA.n1
  have hS : Boxes w (w.alloc (Obj.cells t.c 26)) [(w.heap.size, Obj.cells t.c 26)] := (Boxes.start w).alloc _
  have HG := Lib.hid hG
  clear hG ht HA
  skip
  have c0 := (cell_of_row _ _ 0 _ _ _ (hS.at_ 0 rfl)).trans (show t.c[0]? = some (.int .i64 t.k) from rfl)
  have c1 := (cell_of_row _ _ 1 _ _ _ (hS.at_ 0 rfl)).trans (show t.c[1]? = some (.int .i64 t.n) from rfl)
  have c2 := (cell_of_row _ _ 2 _ _ _ (hS.at_ 0 rfl)).trans (show t.c[2]? = some (.string t.s) from rfl)
  have c3 := (cell_of_row _ _ 3 _ _ _ (hS.at_ 0 rfl)).trans (show t.c[3]? = some (.slice t.lA t.ln t.lc) from rfl)
  have c4 := (cell_of_row _ _ 4 _ _ _ (hS.at_ 0 rfl)).trans (show t.c[4]? = some (.slice t.mA t.mn t.mc) from rfl)
  go_enter Tryz.func8, Tryz.ntmps8
  go_wp2_with (first | go_skip | ((with_reducible refine gate_op (op := .load 26 (.tmp 1)) rfl ?_); refine wpList_load_row' rfl 26 (.tmp 1) rfl _ rfl 26 _ (0, 0) _ (hS.at_ 0 rfl) Tryz.underlying26 rfl (VT.val_info _) ?_) | (go_at_call 16; with_reducible (refine (HG.out _ hS.below).mono ?_); rintro e wn ⟨rfl, hbn⟩; have hS1 := hS.step hbn; clear hS hbn c0 c1 c2 c3 c4; have hS := hS1; clear hS1; have c0 := (cell_of_row _ _ 0 _ _ _ (hS.at_ 0 rfl)).trans (show t.c[0]? = some (.int .i64 t.k) from rfl); have c1 := (cell_of_row _ _ 1 _ _ _ (hS.at_ 0 rfl)).trans (show t.c[1]? = some (.int .i64 t.n) from rfl); have c2 := (cell_of_row _ _ 2 _ _ _ (hS.at_ 0 rfl)).trans (show t.c[2]? = some (.string t.s) from rfl); have c3 := (cell_of_row _ _ 3 _ _ _ (hS.at_ 0 rfl)).trans (show t.c[3]? = some (.slice t.lA t.ln t.lc) from rfl); have c4 := (cell_of_row _ _ 4 _ _ _ (hS.at_ 0 rfl)).trans (show t.c[4]? = some (.slice t.mA t.mn t.mc) from rfl)) | (go_at_call 17; with_reducible (refine (rtext_any _ _ hn0 hn1).mono ?_); rintro e wn ⟨rfl, hbn⟩; have hS1 := hS.step hbn; clear hS hbn c0 c1 c2 c3 c4; have hS := hS1; clear hS1; have c0 := (cell_of_row _ _ 0 _ _ _ (hS.at_ 0 rfl)).trans (show t.c[0]? = some (.int .i64 t.k) from rfl); have c1 := (cell_of_row _ _ 1 _ _ _ (hS.at_ 0 rfl)).trans (show t.c[1]? = some (.int .i64 t.n) from rfl); have c2 := (cell_of_row _ _ 2 _ _ _ (hS.at_ 0 rfl)).trans (show t.c[2]? = some (.string t.s) from rfl); have c3 := (cell_of_row _ _ 3 _ _ _ (hS.at_ 0 rfl)).trans (show t.c[3]? = some (.slice t.lA t.ln t.lc) from rfl); have c4 := (cell_of_row _ _ 4 _ _ _ (hS.at_ 0 rfl)).trans (show t.c[4]? = some (.slice t.mA t.mn t.mc) from rfl)))
  go_ret2
  exact ⟨rfl, hS.below⟩
set_option maxRecDepth 100000 in
set_option maxHeartbeats 1000000 in
theorem rct_2 (hg : goodT t = true) (hx : decide ((0 : Int) < wrap64 ((t.ln : Int) + (t.mn : Int))) = false) (hk : t.k = 1) (hn : (t.n == 1) = false) : Calls Tryz.prog 8 #[.agg t.c] w fun e w' => e = .returned (.tuple #[.string ⟨#[102, 97, 108, 115, 101]⟩, .bool true]) ∧ Below w.heap.size w w' := by
  have hG := fun (W : World) (hW : Below w.heap.size w W) => rvalue_any plain_ok t W ((ht.move hW).up hW.size)
  rw [← good_value, hg] at hG
  have HA := ht.here
  have hn0 := HA.n0
  have hn1 := HA.n1
  have hS : Boxes w (w.alloc (Obj.cells t.c 26)) [(w.heap.size, Obj.cells t.c 26)] := (Boxes.start w).alloc _
  have HG := Lib.hid hG
  clear hG ht HA
  skip
  have c0 := (cell_of_row _ _ 0 _ _ _ (hS.at_ 0 rfl)).trans (show t.c[0]? = some (.int .i64 t.k) from rfl)
  have c1 := (cell_of_row _ _ 1 _ _ _ (hS.at_ 0 rfl)).trans (show t.c[1]? = some (.int .i64 t.n) from rfl)
  have c2 := (cell_of_row _ _ 2 _ _ _ (hS.at_ 0 rfl)).trans (show t.c[2]? = some (.string t.s) from rfl)
  have c3 := (cell_of_row _ _ 3 _ _ _ (hS.at_ 0 rfl)).trans (show t.c[3]? = some (.slice t.lA t.ln t.lc) from rfl)
  have c4 := (cell_of_row _ _ 4 _ _ _ (hS.at_ 0 rfl)).trans (show t.c[4]? = some (.slice t.mA t.mn t.mc) from rfl)
  go_enter Tryz.func8, Tryz.ntmps8
  go_wp2_with (first | go_skip | ((with_reducible refine gate_op (op := .load 26 (.tmp 1)) rfl ?_); refine wpList_load_row' rfl 26 (.tmp 1) rfl _ rfl 26 _ (0, 0) _ (hS.at_ 0 rfl) Tryz.underlying26 rfl (VT.val_info _) ?_) | (go_at_call 16; with_reducible (refine (HG.out _ hS.below).mono ?_); rintro e wn ⟨rfl, hbn⟩; have hS1 := hS.step hbn; clear hS hbn c0 c1 c2 c3 c4; have hS := hS1; clear hS1; have c0 := (cell_of_row _ _ 0 _ _ _ (hS.at_ 0 rfl)).trans (show t.c[0]? = some (.int .i64 t.k) from rfl); have c1 := (cell_of_row _ _ 1 _ _ _ (hS.at_ 0 rfl)).trans (show t.c[1]? = some (.int .i64 t.n) from rfl); have c2 := (cell_of_row _ _ 2 _ _ _ (hS.at_ 0 rfl)).trans (show t.c[2]? = some (.string t.s) from rfl); have c3 := (cell_of_row _ _ 3 _ _ _ (hS.at_ 0 rfl)).trans (show t.c[3]? = some (.slice t.lA t.ln t.lc) from rfl); have c4 := (cell_of_row _ _ 4 _ _ _ (hS.at_ 0 rfl)).trans (show t.c[4]? = some (.slice t.mA t.mn t.mc) from rfl)) | (go_at_call 17; with_reducible (refine (rtext_any _ _ hn0 hn1).mono ?_); rintro e wn ⟨rfl, hbn⟩; have hS1 := hS.step hbn; clear hS hbn c0 c1 c2 c3 c4; have hS := hS1; clear hS1; have c0 := (cell_of_row _ _ 0 _ _ _ (hS.at_ 0 rfl)).trans (show t.c[0]? = some (.int .i64 t.k) from rfl); have c1 := (cell_of_row _ _ 1 _ _ _ (hS.at_ 0 rfl)).trans (show t.c[1]? = some (.int .i64 t.n) from rfl); have c2 := (cell_of_row _ _ 2 _ _ _ (hS.at_ 0 rfl)).trans (show t.c[2]? = some (.string t.s) from rfl); have c3 := (cell_of_row _ _ 3 _ _ _ (hS.at_ 0 rfl)).trans (show t.c[3]? = some (.slice t.lA t.ln t.lc) from rfl); have c4 := (cell_of_row _ _ 4 _ _ _ (hS.at_ 0 rfl)).trans (show t.c[4]? = some (.slice t.mA t.mn t.mc) from rfl)))
  go_ret2
  exact ⟨rfl, hS.below⟩
set_option maxRecDepth 100000 in
set_option maxHeartbeats 1000000 in
theorem rct_i (hg : goodT t = true) (hx : decide ((0 : Int) < wrap64 ((t.ln : Int) + (t.mn : Int))) = false) (hk : t.k = 2) : Calls Tryz.prog 8 #[.agg t.c] w fun e w' => e = .returned (.tuple #[.string ⟨(Lib.itoa t.n).toArray⟩, .bool true]) ∧ Below w.heap.size w w' := by
  have hG := fun (W : World) (hW : Below w.heap.size w W) => rvalue_any plain_ok t W ((ht.move hW).up hW.size)
  rw [← good_value, hg] at hG
  have HA := ht.here
  have hn0 := HA.n0
  have hn1 := HA.n1
  have hS : Boxes w (w.alloc (Obj.cells t.c 26)) [(w.heap.size, Obj.cells t.c 26)] := (Boxes.start w).alloc _
  have HG := Lib.hid hG
  clear hG ht HA
  skip
  have c0 := (cell_of_row _ _ 0 _ _ _ (hS.at_ 0 rfl)).trans (show t.c[0]? = some (.int .i64 t.k) from rfl)
  have c1 := (cell_of_row _ _ 1 _ _ _ (hS.at_ 0 rfl)).trans (show t.c[1]? = some (.int .i64 t.n) from rfl)
  have c2 := (cell_of_row _ _ 2 _ _ _ (hS.at_ 0 rfl)).trans (show t.c[2]? = some (.string t.s) from rfl)
  have c3 := (cell_of_row _ _ 3 _ _ _ (hS.at_ 0 rfl)).trans (show t.c[3]? = some (.slice t.lA t.ln t.lc) from rfl)
  have c4 := (cell_of_row _ _ 4 _ _ _ (hS.at_ 0 rfl)).trans (show t.c[4]? = some (.slice t.mA t.mn t.mc) from rfl)
  go_enter Tryz.func8, Tryz.ntmps8
  go_wp2_with (first | go_skip | ((with_reducible refine gate_op (op := .load 26 (.tmp 1)) rfl ?_); refine wpList_load_row' rfl 26 (.tmp 1) rfl _ rfl 26 _ (0, 0) _ (hS.at_ 0 rfl) Tryz.underlying26 rfl (VT.val_info _) ?_) | (go_at_call 16; with_reducible (refine (HG.out _ hS.below).mono ?_); rintro e wn ⟨rfl, hbn⟩; have hS1 := hS.step hbn; clear hS hbn c0 c1 c2 c3 c4; have hS := hS1; clear hS1; have c0 := (cell_of_row _ _ 0 _ _ _ (hS.at_ 0 rfl)).trans (show t.c[0]? = some (.int .i64 t.k) from rfl); have c1 := (cell_of_row _ _ 1 _ _ _ (hS.at_ 0 rfl)).trans (show t.c[1]? = some (.int .i64 t.n) from rfl); have c2 := (cell_of_row _ _ 2 _ _ _ (hS.at_ 0 rfl)).trans (show t.c[2]? = some (.string t.s) from rfl); have c3 := (cell_of_row _ _ 3 _ _ _ (hS.at_ 0 rfl)).trans (show t.c[3]? = some (.slice t.lA t.ln t.lc) from rfl); have c4 := (cell_of_row _ _ 4 _ _ _ (hS.at_ 0 rfl)).trans (show t.c[4]? = some (.slice t.mA t.mn t.mc) from rfl)) | (go_at_call 17; with_reducible (refine (rtext_any _ _ hn0 hn1).mono ?_); rintro e wn ⟨rfl, hbn⟩; have hS1 := hS.step hbn; clear hS hbn c0 c1 c2 c3 c4; have hS := hS1; clear hS1; have c0 := (cell_of_row _ _ 0 _ _ _ (hS.at_ 0 rfl)).trans (show t.c[0]? = some (.int .i64 t.k) from rfl); have c1 := (cell_of_row _ _ 1 _ _ _ (hS.at_ 0 rfl)).trans (show t.c[1]? = some (.int .i64 t.n) from rfl); have c2 := (cell_of_row _ _ 2 _ _ _ (hS.at_ 0 rfl)).trans (show t.c[2]? = some (.string t.s) from rfl); have c3 := (cell_of_row _ _ 3 _ _ _ (hS.at_ 0 rfl)).trans (show t.c[3]? = some (.slice t.lA t.ln t.lc) from rfl); have c4 := (cell_of_row _ _ 4 _ _ _ (hS.at_ 0 rfl)).trans (show t.c[4]? = some (.slice t.mA t.mn t.mc) from rfl)))
  go_ret2
  exact ⟨rfl, hS.below⟩
set_option maxRecDepth 100000 in
set_option maxHeartbeats 1000000 in
theorem rct_n (hg : goodT t = true) (hx : decide ((0 : Int) < wrap64 ((t.ln : Int) + (t.mn : Int))) = false) (hk : t.k = 3) : Calls Tryz.prog 8 #[.agg t.c] w fun e w' => e = .returned (.tuple #[.string t.s, .bool true]) ∧ Below w.heap.size w w' := by
  have hG := fun (W : World) (hW : Below w.heap.size w W) => rvalue_any plain_ok t W ((ht.move hW).up hW.size)
  rw [← good_value, hg] at hG
  have HA := ht.here
  have hn0 := HA.n0
  have hn1 := HA.n1
  have hS : Boxes w (w.alloc (Obj.cells t.c 26)) [(w.heap.size, Obj.cells t.c 26)] := (Boxes.start w).alloc _
  have HG := Lib.hid hG
  clear hG ht HA
  skip
  have c0 := (cell_of_row _ _ 0 _ _ _ (hS.at_ 0 rfl)).trans (show t.c[0]? = some (.int .i64 t.k) from rfl)
  have c1 := (cell_of_row _ _ 1 _ _ _ (hS.at_ 0 rfl)).trans (show t.c[1]? = some (.int .i64 t.n) from rfl)
  have c2 := (cell_of_row _ _ 2 _ _ _ (hS.at_ 0 rfl)).trans (show t.c[2]? = some (.string t.s) from rfl)
  have c3 := (cell_of_row _ _ 3 _ _ _ (hS.at_ 0 rfl)).trans (show t.c[3]? = some (.slice t.lA t.ln t.lc) from rfl)
  have c4 := (cell_of_row _ _ 4 _ _ _ (hS.at_ 0 rfl)).trans (show t.c[4]? = some (.slice t.mA t.mn t.mc) from rfl)
  go_enter Tryz.func8, Tryz.ntmps8
  go_wp2_with (first | go_skip | ((with_reducible refine gate_op (op := .load 26 (.tmp 1)) rfl ?_); refine wpList_load_row' rfl 26 (.tmp 1) rfl _ rfl 26 _ (0, 0) _ (hS.at_ 0 rfl) Tryz.underlying26 rfl (VT.val_info _) ?_) | (go_at_call 16; with_reducible (refine (HG.out _ hS.below).mono ?_); rintro e wn ⟨rfl, hbn⟩; have hS1 := hS.step hbn; clear hS hbn c0 c1 c2 c3 c4; have hS := hS1; clear hS1; have c0 := (cell_of_row _ _ 0 _ _ _ (hS.at_ 0 rfl)).trans (show t.c[0]? = some (.int .i64 t.k) from rfl); have c1 := (cell_of_row _ _ 1 _ _ _ (hS.at_ 0 rfl)).trans (show t.c[1]? = some (.int .i64 t.n) from rfl); have c2 := (cell_of_row _ _ 2 _ _ _ (hS.at_ 0 rfl)).trans (show t.c[2]? = some (.string t.s) from rfl); have c3 := (cell_of_row _ _ 3 _ _ _ (hS.at_ 0 rfl)).trans (show t.c[3]? = some (.slice t.lA t.ln t.lc) from rfl); have c4 := (cell_of_row _ _ 4 _ _ _ (hS.at_ 0 rfl)).trans (show t.c[4]? = some (.slice t.mA t.mn t.mc) from rfl)) | (go_at_call 17; with_reducible (refine (rtext_any _ _ hn0 hn1).mono ?_); rintro e wn ⟨rfl, hbn⟩; have hS1 := hS.step hbn; clear hS hbn c0 c1 c2 c3 c4; have hS := hS1; clear hS1; have c0 := (cell_of_row _ _ 0 _ _ _ (hS.at_ 0 rfl)).trans (show t.c[0]? = some (.int .i64 t.k) from rfl); have c1 := (cell_of_row _ _ 1 _ _ _ (hS.at_ 0 rfl)).trans (show t.c[1]? = some (.int .i64 t.n) from rfl); have c2 := (cell_of_row _ _ 2 _ _ _ (hS.at_ 0 rfl)).trans (show t.c[2]? = some (.string t.s) from rfl); have c3 := (cell_of_row _ _ 3 _ _ _ (hS.at_ 0 rfl)).trans (show t.c[3]? = some (.slice t.lA t.ln t.lc) from rfl); have c4 := (cell_of_row _ _ 4 _ _ _ (hS.at_ 0 rfl)).trans (show t.c[4]? = some (.slice t.mA t.mn t.mc) from rfl)))
  go_ret2
  exact ⟨rfl, hS.below⟩
set_option maxRecDepth 100000 in
set_option maxHeartbeats 1000000 in
theorem rct_s (hg : goodT t = true) (hx : decide ((0 : Int) < wrap64 ((t.ln : Int) + (t.mn : Int))) = false) (hk : t.k = 7) (hz : t.s.size ≤ 64) : Calls Tryz.prog 8 #[.agg t.c] w fun e w' => e = .returned (.tuple #[.string (atS t.s), .bool true]) ∧ Below w.heap.size w w' := by
  have hG := fun (W : World) (hW : Below w.heap.size w W) => rvalue_any plain_ok t W ((ht.move hW).up hW.size)
  rw [← good_value, hg] at hG
  have HA := ht.here
  have hn0 := HA.n0
  have hn1 := HA.n1
  have hS : Boxes w (w.alloc (Obj.cells t.c 26)) [(w.heap.size, Obj.cells t.c 26)] := (Boxes.start w).alloc _
  have HG := Lib.hid hG
  clear hG ht HA
  skip
  have c0 := (cell_of_row _ _ 0 _ _ _ (hS.at_ 0 rfl)).trans (show t.c[0]? = some (.int .i64 t.k) from rfl)
  have c1 := (cell_of_row _ _ 1 _ _ _ (hS.at_ 0 rfl)).trans (show t.c[1]? = some (.int .i64 t.n) from rfl)
  have c2 := (cell_of_row _ _ 2 _ _ _ (hS.at_ 0 rfl)).trans (show t.c[2]? = some (.string t.s) from rfl)
  have c3 := (cell_of_row _ _ 3 _ _ _ (hS.at_ 0 rfl)).trans (show t.c[3]? = some (.slice t.lA t.ln t.lc) from rfl)
  have c4 := (cell_of_row _ _ 4 _ _ _ (hS.at_ 0 rfl)).trans (show t.c[4]? = some (.slice t.mA t.mn t.mc) from rfl)
  go_enter Tryz.func8, Tryz.ntmps8
  go_wp2_with (first | go_skip | ((with_reducible refine gate_op (op := .load 26 (.tmp 1)) rfl ?_); refine wpList_load_row' rfl 26 (.tmp 1) rfl _ rfl 26 _ (0, 0) _ (hS.at_ 0 rfl) Tryz.underlying26 rfl (VT.val_info _) ?_) | (go_at_call 16; with_reducible (refine (HG.out _ hS.below).mono ?_); rintro e wn ⟨rfl, hbn⟩; have hS1 := hS.step hbn; clear hS hbn c0 c1 c2 c3 c4; have hS := hS1; clear hS1; have c0 := (cell_of_row _ _ 0 _ _ _ (hS.at_ 0 rfl)).trans (show t.c[0]? = some (.int .i64 t.k) from rfl); have c1 := (cell_of_row _ _ 1 _ _ _ (hS.at_ 0 rfl)).trans (show t.c[1]? = some (.int .i64 t.n) from rfl); have c2 := (cell_of_row _ _ 2 _ _ _ (hS.at_ 0 rfl)).trans (show t.c[2]? = some (.string t.s) from rfl); have c3 := (cell_of_row _ _ 3 _ _ _ (hS.at_ 0 rfl)).trans (show t.c[3]? = some (.slice t.lA t.ln t.lc) from rfl); have c4 := (cell_of_row _ _ 4 _ _ _ (hS.at_ 0 rfl)).trans (show t.c[4]? = some (.slice t.mA t.mn t.mc) from rfl)) | (go_at_call 17; with_reducible (refine (rtext_any _ _ hn0 hn1).mono ?_); rintro e wn ⟨rfl, hbn⟩; have hS1 := hS.step hbn; clear hS hbn c0 c1 c2 c3 c4; have hS := hS1; clear hS1; have c0 := (cell_of_row _ _ 0 _ _ _ (hS.at_ 0 rfl)).trans (show t.c[0]? = some (.int .i64 t.k) from rfl); have c1 := (cell_of_row _ _ 1 _ _ _ (hS.at_ 0 rfl)).trans (show t.c[1]? = some (.int .i64 t.n) from rfl); have c2 := (cell_of_row _ _ 2 _ _ _ (hS.at_ 0 rfl)).trans (show t.c[2]? = some (.string t.s) from rfl); have c3 := (cell_of_row _ _ 3 _ _ _ (hS.at_ 0 rfl)).trans (show t.c[3]? = some (.slice t.lA t.ln t.lc) from rfl); have c4 := (cell_of_row _ _ 4 _ _ _ (hS.at_ 0 rfl)).trans (show t.c[4]? = some (.slice t.mA t.mn t.mc) from rfl)))
  go_ret2
  exact ⟨rfl, hS.below⟩
set_option maxRecDepth 100000 in
set_option maxHeartbeats 1000000 in
theorem rct_l (hg : goodT t = true) (hx : decide ((0 : Int) < wrap64 ((t.ln : Int) + (t.mn : Int))) = false) (hk : t.k = 5) : Calls Tryz.prog 8 #[.agg t.c] w fun e w' => e = .returned (.tuple #[.string ⟨#[91, 93]⟩, .bool true]) ∧ Below w.heap.size w w' := by
  have hG := fun (W : World) (hW : Below w.heap.size w W) => rvalue_any plain_ok t W ((ht.move hW).up hW.size)
  rw [← good_value, hg] at hG
  have HA := ht.here
  have hn0 := HA.n0
  have hn1 := HA.n1
  have hS : Boxes w (w.alloc (Obj.cells t.c 26)) [(w.heap.size, Obj.cells t.c 26)] := (Boxes.start w).alloc _
  have HG := Lib.hid hG
  clear hG ht HA
  skip
  have c0 := (cell_of_row _ _ 0 _ _ _ (hS.at_ 0 rfl)).trans (show t.c[0]? = some (.int .i64 t.k) from rfl)
  have c1 := (cell_of_row _ _ 1 _ _ _ (hS.at_ 0 rfl)).trans (show t.c[1]? = some (.int .i64 t.n) from rfl)
  have c2 := (cell_of_row _ _ 2 _ _ _ (hS.at_ 0 rfl)).trans (show t.c[2]? = some (.string t.s) from rfl)
  have c3 := (cell_of_row _ _ 3 _ _ _ (hS.at_ 0 rfl)).trans (show t.c[3]? = some (.slice t.lA t.ln t.lc) from rfl)
  have c4 := (cell_of_row _ _ 4 _ _ _ (hS.at_ 0 rfl)).trans (show t.c[4]? = some (.slice t.mA t.mn t.mc) from rfl)
  go_enter Tryz.func8, Tryz.ntmps8
  go_wp2_with (first | go_skip | ((with_reducible refine gate_op (op := .load 26 (.tmp 1)) rfl ?_); refine wpList_load_row' rfl 26 (.tmp 1) rfl _ rfl 26 _ (0, 0) _ (hS.at_ 0 rfl) Tryz.underlying26 rfl (VT.val_info _) ?_) | (go_at_call 16; with_reducible (refine (HG.out _ hS.below).mono ?_); rintro e wn ⟨rfl, hbn⟩; have hS1 := hS.step hbn; clear hS hbn c0 c1 c2 c3 c4; have hS := hS1; clear hS1; have c0 := (cell_of_row _ _ 0 _ _ _ (hS.at_ 0 rfl)).trans (show t.c[0]? = some (.int .i64 t.k) from rfl); have c1 := (cell_of_row _ _ 1 _ _ _ (hS.at_ 0 rfl)).trans (show t.c[1]? = some (.int .i64 t.n) from rfl); have c2 := (cell_of_row _ _ 2 _ _ _ (hS.at_ 0 rfl)).trans (show t.c[2]? = some (.string t.s) from rfl); have c3 := (cell_of_row _ _ 3 _ _ _ (hS.at_ 0 rfl)).trans (show t.c[3]? = some (.slice t.lA t.ln t.lc) from rfl); have c4 := (cell_of_row _ _ 4 _ _ _ (hS.at_ 0 rfl)).trans (show t.c[4]? = some (.slice t.mA t.mn t.mc) from rfl)) | (go_at_call 17; with_reducible (refine (rtext_any _ _ hn0 hn1).mono ?_); rintro e wn ⟨rfl, hbn⟩; have hS1 := hS.step hbn; clear hS hbn c0 c1 c2 c3 c4; have hS := hS1; clear hS1; have c0 := (cell_of_row _ _ 0 _ _ _ (hS.at_ 0 rfl)).trans (show t.c[0]? = some (.int .i64 t.k) from rfl); have c1 := (cell_of_row _ _ 1 _ _ _ (hS.at_ 0 rfl)).trans (show t.c[1]? = some (.int .i64 t.n) from rfl); have c2 := (cell_of_row _ _ 2 _ _ _ (hS.at_ 0 rfl)).trans (show t.c[2]? = some (.string t.s) from rfl); have c3 := (cell_of_row _ _ 3 _ _ _ (hS.at_ 0 rfl)).trans (show t.c[3]? = some (.slice t.lA t.ln t.lc) from rfl); have c4 := (cell_of_row _ _ 4 _ _ _ (hS.at_ 0 rfl)).trans (show t.c[4]? = some (.slice t.mA t.mn t.mc) from rfl)))
  go_ret2
  exact ⟨rfl, hS.below⟩
set_option maxRecDepth 100000 in
set_option maxHeartbeats 1000000 in
theorem rct_m (hg : goodT t = true) (hx : decide ((0 : Int) < wrap64 ((t.ln : Int) + (t.mn : Int))) = false) (hk : t.k = 6) : Calls Tryz.prog 8 #[.agg t.c] w fun e w' => e = .returned (.tuple #[.string ⟨#[123, 125]⟩, .bool true]) ∧ Below w.heap.size w w' := by
  have hG := fun (W : World) (hW : Below w.heap.size w W) => rvalue_any plain_ok t W ((ht.move hW).up hW.size)
  rw [← good_value, hg] at hG
  have HA := ht.here
  have hn0 := HA.n0
  have hn1 := HA.n1
  have hS : Boxes w (w.alloc (Obj.cells t.c 26)) [(w.heap.size, Obj.cells t.c 26)] := (Boxes.start w).alloc _
  have HG := Lib.hid hG
  clear hG ht HA
  skip
  have c0 := (cell_of_row _ _ 0 _ _ _ (hS.at_ 0 rfl)).trans (show t.c[0]? = some (.int .i64 t.k) from rfl)
  have c1 := (cell_of_row _ _ 1 _ _ _ (hS.at_ 0 rfl)).trans (show t.c[1]? = some (.int .i64 t.n) from rfl)
  have c2 := (cell_of_row _ _ 2 _ _ _ (hS.at_ 0 rfl)).trans (show t.c[2]? = some (.string t.s) from rfl)
  have c3 := (cell_of_row _ _ 3 _ _ _ (hS.at_ 0 rfl)).trans (show t.c[3]? = some (.slice t.lA t.ln t.lc) from rfl)
  have c4 := (cell_of_row _ _ 4 _ _ _ (hS.at_ 0 rfl)).trans (show t.c[4]? = some (.slice t.mA t.mn t.mc) from rfl)
  go_enter Tryz.func8, Tryz.ntmps8
  go_wp2_with (first | go_skip | ((with_reducible refine gate_op (op := .load 26 (.tmp 1)) rfl ?_); refine wpList_load_row' rfl 26 (.tmp 1) rfl _ rfl 26 _ (0, 0) _ (hS.at_ 0 rfl) Tryz.underlying26 rfl (VT.val_info _) ?_) | (go_at_call 16; with_reducible (refine (HG.out _ hS.below).mono ?_); rintro e wn ⟨rfl, hbn⟩; have hS1 := hS.step hbn; clear hS hbn c0 c1 c2 c3 c4; have hS := hS1; clear hS1; have c0 := (cell_of_row _ _ 0 _ _ _ (hS.at_ 0 rfl)).trans (show t.c[0]? = some (.int .i64 t.k) from rfl); have c1 := (cell_of_row _ _ 1 _ _ _ (hS.at_ 0 rfl)).trans (show t.c[1]? = some (.int .i64 t.n) from rfl); have c2 := (cell_of_row _ _ 2 _ _ _ (hS.at_ 0 rfl)).trans (show t.c[2]? = some (.string t.s) from rfl); have c3 := (cell_of_row _ _ 3 _ _ _ (hS.at_ 0 rfl)).trans (show t.c[3]? = some (.slice t.lA t.ln t.lc) from rfl); have c4 := (cell_of_row _ _ 4 _ _ _ (hS.at_ 0 rfl)).trans (show t.c[4]? = some (.slice t.mA t.mn t.mc) from rfl)) | (go_at_call 17; with_reducible (refine (rtext_any _ _ hn0 hn1).mono ?_); rintro e wn ⟨rfl, hbn⟩; have hS1 := hS.step hbn; clear hS hbn c0 c1 c2 c3 c4; have hS := hS1; clear hS1; have c0 := (cell_of_row _ _ 0 _ _ _ (hS.at_ 0 rfl)).trans (show t.c[0]? = some (.int .i64 t.k) from rfl); have c1 := (cell_of_row _ _ 1 _ _ _ (hS.at_ 0 rfl)).trans (show t.c[1]? = some (.int .i64 t.n) from rfl); have c2 := (cell_of_row _ _ 2 _ _ _ (hS.at_ 0 rfl)).trans (show t.c[2]? = some (.string t.s) from rfl); have c3 := (cell_of_row _ _ 3 _ _ _ (hS.at_ 0 rfl)).trans (show t.c[3]? = some (.slice t.lA t.ln t.lc) from rfl); have c4 := (cell_of_row _ _ 4 _ _ _ (hS.at_ 0 rfl)).trans (show t.c[4]? = some (.slice t.mA t.mn t.mc) from rfl)))
  go_ret2
  exact ⟨rfl, hS.below⟩
set_option maxRecDepth 100000 in
set_option maxHeartbeats 1000000 in
theorem rct_t0 (hg : goodT t = true) (hx : decide ((0 : Int) < wrap64 ((t.ln : Int) + (t.mn : Int))) = false) (hk : t.k = 4) (hs : t.s.size ≤ 4096) (h0 : t.s.toList = []) : Calls Tryz.prog 8 #[.agg t.c] w fun e w' => e = .returned (.tuple #[.string (quo t.s), .bool true]) ∧ Below w.heap.size w w' := by
  have hG := fun (W : World) (hW : Below w.heap.size w W) => rvalue_any plain_ok t W ((ht.move hW).up hW.size)
  rw [← good_value, hg] at hG
  have HA := ht.here
  have hn0 := HA.n0
  have hn1 := HA.n1
  have hS : Boxes w (w.alloc (Obj.cells t.c 26)) [(w.heap.size, Obj.cells t.c 26)] := (Boxes.start w).alloc _
  have HG := Lib.hid hG
  clear hG ht HA
  have hie : t.s.toList.isEmpty = true := (by simp [h0])
  have c0 := (cell_of_row _ _ 0 _ _ _ (hS.at_ 0 rfl)).trans (show t.c[0]? = some (.int .i64 t.k) from rfl)
  have c1 := (cell_of_row _ _ 1 _ _ _ (hS.at_ 0 rfl)).trans (show t.c[1]? = some (.int .i64 t.n) from rfl)
  have c2 := (cell_of_row _ _ 2 _ _ _ (hS.at_ 0 rfl)).trans (show t.c[2]? = some (.string t.s) from rfl)
  have c3 := (cell_of_row _ _ 3 _ _ _ (hS.at_ 0 rfl)).trans (show t.c[3]? = some (.slice t.lA t.ln t.lc) from rfl)
  have c4 := (cell_of_row _ _ 4 _ _ _ (hS.at_ 0 rfl)).trans (show t.c[4]? = some (.slice t.mA t.mn t.mc) from rfl)
  go_enter Tryz.func8, Tryz.ntmps8
  go_wp2_with (first | go_skip | ((with_reducible refine gate_op (op := .load 26 (.tmp 1)) rfl ?_); refine wpList_load_row' rfl 26 (.tmp 1) rfl _ rfl 26 _ (0, 0) _ (hS.at_ 0 rfl) Tryz.underlying26 rfl (VT.val_info _) ?_) | (go_at_call 16; with_reducible (refine (HG.out _ hS.below).mono ?_); rintro e wn ⟨rfl, hbn⟩; have hS1 := hS.step hbn; clear hS hbn c0 c1 c2 c3 c4; have hS := hS1; clear hS1; have c0 := (cell_of_row _ _ 0 _ _ _ (hS.at_ 0 rfl)).trans (show t.c[0]? = some (.int .i64 t.k) from rfl); have c1 := (cell_of_row _ _ 1 _ _ _ (hS.at_ 0 rfl)).trans (show t.c[1]? = some (.int .i64 t.n) from rfl); have c2 := (cell_of_row _ _ 2 _ _ _ (hS.at_ 0 rfl)).trans (show t.c[2]? = some (.string t.s) from rfl); have c3 := (cell_of_row _ _ 3 _ _ _ (hS.at_ 0 rfl)).trans (show t.c[3]? = some (.slice t.lA t.ln t.lc) from rfl); have c4 := (cell_of_row _ _ 4 _ _ _ (hS.at_ 0 rfl)).trans (show t.c[4]? = some (.slice t.mA t.mn t.mc) from rfl)) | (go_at_call 17; with_reducible (refine (rtext_any _ _ hn0 hn1).mono ?_); rintro e wn ⟨rfl, hbn⟩; have hS1 := hS.step hbn; clear hS hbn c0 c1 c2 c3 c4; have hS := hS1; clear hS1; have c0 := (cell_of_row _ _ 0 _ _ _ (hS.at_ 0 rfl)).trans (show t.c[0]? = some (.int .i64 t.k) from rfl); have c1 := (cell_of_row _ _ 1 _ _ _ (hS.at_ 0 rfl)).trans (show t.c[1]? = some (.int .i64 t.n) from rfl); have c2 := (cell_of_row _ _ 2 _ _ _ (hS.at_ 0 rfl)).trans (show t.c[2]? = some (.string t.s) from rfl); have c3 := (cell_of_row _ _ 3 _ _ _ (hS.at_ 0 rfl)).trans (show t.c[3]? = some (.slice t.lA t.ln t.lc) from rfl); have c4 := (cell_of_row _ _ 4 _ _ _ (hS.at_ 0 rfl)).trans (show t.c[4]? = some (.slice t.mA t.mn t.mc) from rfl)))
  go_ret2
  exact ⟨rfl, hS.below⟩
set_option maxRecDepth 100000 in
set_option maxHeartbeats 1000000 in
theorem rct_t1 (hg : goodT t = true) (hx : decide ((0 : Int) < wrap64 ((t.ln : Int) + (t.mn : Int))) = false) (hk : t.k = 4) (hs : t.s.size ≤ 4096) (h0 : ¬ t.s.toList = []) (hz : 0 < t.s.size) (h39 : ((t.s[0]'hz).toNat : Int) = 39) : Calls Tryz.prog 8 #[.agg t.c] w fun e w' => e = .returned (.tuple #[.string (quo t.s), .bool true]) ∧ Below w.heap.size w w' := by
  have hG := fun (W : World) (hW : Below w.heap.size w W) => rvalue_any plain_ok t W ((ht.move hW).up hW.size)
  rw [← good_value, hg] at hG
  have HA := ht.here
  have hn0 := HA.n0
  have hn1 := HA.n1
  have hS : Boxes w (w.alloc (Obj.cells t.c 26)) [(w.heap.size, Obj.cells t.c 26)] := (Boxes.start w).alloc _
  have HG := Lib.hid hG
  clear hG ht HA
  have hie : t.s.toList.isEmpty = false := (by simp [h0]); have b39 : (((t.s[0]'hz).toNat : Int) == 39) = true := (by simp [h39])
  have c0 := (cell_of_row _ _ 0 _ _ _ (hS.at_ 0 rfl)).trans (show t.c[0]? = some (.int .i64 t.k) from rfl)
  have c1 := (cell_of_row _ _ 1 _ _ _ (hS.at_ 0 rfl)).trans (show t.c[1]? = some (.int .i64 t.n) from rfl)
  have c2 := (cell_of_row _ _ 2 _ _ _ (hS.at_ 0 rfl)).trans (show t.c[2]? = some (.string t.s) from rfl)
  have c3 := (cell_of_row _ _ 3 _ _ _ (hS.at_ 0 rfl)).trans (show t.c[3]? = some (.slice t.lA t.ln t.lc) from rfl)
  have c4 := (cell_of_row _ _ 4 _ _ _ (hS.at_ 0 rfl)).trans (show t.c[4]? = some (.slice t.mA t.mn t.mc) from rfl)
  go_enter Tryz.func8, Tryz.ntmps8
  go_wp2_with (first | go_skip | ((with_reducible refine gate_op (op := .load 26 (.tmp 1)) rfl ?_); refine wpList_load_row' rfl 26 (.tmp 1) rfl _ rfl 26 _ (0, 0) _ (hS.at_ 0 rfl) Tryz.underlying26 rfl (VT.val_info _) ?_) | (go_at_call 16; with_reducible (refine (HG.out _ hS.below).mono ?_); rintro e wn ⟨rfl, hbn⟩; have hS1 := hS.step hbn; clear hS hbn c0 c1 c2 c3 c4; have hS := hS1; clear hS1; have c0 := (cell_of_row _ _ 0 _ _ _ (hS.at_ 0 rfl)).trans (show t.c[0]? = some (.int .i64 t.k) from rfl); have c1 := (cell_of_row _ _ 1 _ _ _ (hS.at_ 0 rfl)).trans (show t.c[1]? = some (.int .i64 t.n) from rfl); have c2 := (cell_of_row _ _ 2 _ _ _ (hS.at_ 0 rfl)).trans (show t.c[2]? = some (.string t.s) from rfl); have c3 := (cell_of_row _ _ 3 _ _ _ (hS.at_ 0 rfl)).trans (show t.c[3]? = some (.slice t.lA t.ln t.lc) from rfl); have c4 := (cell_of_row _ _ 4 _ _ _ (hS.at_ 0 rfl)).trans (show t.c[4]? = some (.slice t.mA t.mn t.mc) from rfl)) | (go_at_call 17; with_reducible (refine (rtext_any _ _ hn0 hn1).mono ?_); rintro e wn ⟨rfl, hbn⟩; have hS1 := hS.step hbn; clear hS hbn c0 c1 c2 c3 c4; have hS := hS1; clear hS1; have c0 := (cell_of_row _ _ 0 _ _ _ (hS.at_ 0 rfl)).trans (show t.c[0]? = some (.int .i64 t.k) from rfl); have c1 := (cell_of_row _ _ 1 _ _ _ (hS.at_ 0 rfl)).trans (show t.c[1]? = some (.int .i64 t.n) from rfl); have c2 := (cell_of_row _ _ 2 _ _ _ (hS.at_ 0 rfl)).trans (show t.c[2]? = some (.string t.s) from rfl); have c3 := (cell_of_row _ _ 3 _ _ _ (hS.at_ 0 rfl)).trans (show t.c[3]? = some (.slice t.lA t.ln t.lc) from rfl); have c4 := (cell_of_row _ _ 4 _ _ _ (hS.at_ 0 rfl)).trans (show t.c[4]? = some (.slice t.mA t.mn t.mc) from rfl)))
  go_ret2
  exact ⟨rfl, hS.below⟩
set_option maxRecDepth 100000 in
set_option maxHeartbeats 1000000 in
theorem rct_t2 (hg : goodT t = true) (hx : decide ((0 : Int) < wrap64 ((t.ln : Int) + (t.mn : Int))) = false) (hk : t.k = 4) (hs : t.s.size ≤ 4096) (h0 : ¬ t.s.toList = []) (hz : 0 < t.s.size) (h39 : ¬ ((t.s[0]'hz).toNat : Int) = 39) (h64 : ((t.s[0]'hz).toNat : Int) = 64) : Calls Tryz.prog 8 #[.agg t.c] w fun e w' => e = .returned (.tuple #[.string (quo t.s), .bool true]) ∧ Below w.heap.size w w' := by
  have hG := fun (W : World) (hW : Below w.heap.size w W) => rvalue_any plain_ok t W ((ht.move hW).up hW.size)
  rw [← good_value, hg] at hG
  have HA := ht.here
  have hn0 := HA.n0
  have hn1 := HA.n1
  have hS : Boxes w (w.alloc (Obj.cells t.c 26)) [(w.heap.size, Obj.cells t.c 26)] := (Boxes.start w).alloc _
  have HG := Lib.hid hG
  clear hG ht HA
  have hie : t.s.toList.isEmpty = false := (by simp [h0]); have b39 : (((t.s[0]'hz).toNat : Int) == 39) = false := (by simp [h39]); have b64 : (((t.s[0]'hz).toNat : Int) == 64) = true := (by simp [h64])
  have c0 := (cell_of_row _ _ 0 _ _ _ (hS.at_ 0 rfl)).trans (show t.c[0]? = some (.int .i64 t.k) from rfl)
  have c1 := (cell_of_row _ _ 1 _ _ _ (hS.at_ 0 rfl)).trans (show t.c[1]? = some (.int .i64 t.n) from rfl)
  have c2 := (cell_of_row _ _ 2 _ _ _ (hS.at_ 0 rfl)).trans (show t.c[2]? = some (.string t.s) from rfl)
  have c3 := (cell_of_row _ _ 3 _ _ _ (hS.at_ 0 rfl)).trans (show t.c[3]? = some (.slice t.lA t.ln t.lc) from rfl)
  have c4 := (cell_of_row _ _ 4 _ _ _ (hS.at_ 0 rfl)).trans (show t.c[4]? = some (.slice t.mA t.mn t.mc) from rfl)
  go_enter Tryz.func8, Tryz.ntmps8
  go_wp2_with (first | go_skip | ((with_reducible refine gate_op (op := .load 26 (.tmp 1)) rfl ?_); refine wpList_load_row' rfl 26 (.tmp 1) rfl _ rfl 26 _ (0, 0) _ (hS.at_ 0 rfl) Tryz.underlying26 rfl (VT.val_info _) ?_) | (go_at_call 16; with_reducible (refine (HG.out _ hS.below).mono ?_); rintro e wn ⟨rfl, hbn⟩; have hS1 := hS.step hbn; clear hS hbn c0 c1 c2 c3 c4; have hS := hS1; clear hS1; have c0 := (cell_of_row _ _ 0 _ _ _ (hS.at_ 0 rfl)).trans (show t.c[0]? = some (.int .i64 t.k) from rfl); have c1 := (cell_of_row _ _ 1 _ _ _ (hS.at_ 0 rfl)).trans (show t.c[1]? = some (.int .i64 t.n) from rfl); have c2 := (cell_of_row _ _ 2 _ _ _ (hS.at_ 0 rfl)).trans (show t.c[2]? = some (.string t.s) from rfl); have c3 := (cell_of_row _ _ 3 _ _ _ (hS.at_ 0 rfl)).trans (show t.c[3]? = some (.slice t.lA t.ln t.lc) from rfl); have c4 := (cell_of_row _ _ 4 _ _ _ (hS.at_ 0 rfl)).trans (show t.c[4]? = some (.slice t.mA t.mn t.mc) from rfl)) | (go_at_call 17; with_reducible (refine (rtext_any _ _ hn0 hn1).mono ?_); rintro e wn ⟨rfl, hbn⟩; have hS1 := hS.step hbn; clear hS hbn c0 c1 c2 c3 c4; have hS := hS1; clear hS1; have c0 := (cell_of_row _ _ 0 _ _ _ (hS.at_ 0 rfl)).trans (show t.c[0]? = some (.int .i64 t.k) from rfl); have c1 := (cell_of_row _ _ 1 _ _ _ (hS.at_ 0 rfl)).trans (show t.c[1]? = some (.int .i64 t.n) from rfl); have c2 := (cell_of_row _ _ 2 _ _ _ (hS.at_ 0 rfl)).trans (show t.c[2]? = some (.string t.s) from rfl); have c3 := (cell_of_row _ _ 3 _ _ _ (hS.at_ 0 rfl)).trans (show t.c[3]? = some (.slice t.lA t.ln t.lc) from rfl); have c4 := (cell_of_row _ _ 4 _ _ _ (hS.at_ 0 rfl)).trans (show t.c[4]? = some (.slice t.mA t.mn t.mc) from rfl)))
  go_ret2
  exact ⟨rfl, hS.below⟩
set_option maxRecDepth 100000 in
set_option maxHeartbeats 1000000 in
theorem rct_t3 (hg : goodT t = true) (hx : decide ((0 : Int) < wrap64 ((t.ln : Int) + (t.mn : Int))) = false) (hk : t.k = 4) (hs : t.s.size ≤ 4096) (h0 : ¬ t.s.toList = []) (hz : 0 < t.s.size) (h39 : ¬ ((t.s[0]'hz).toNat : Int) = 39) (h64 : ¬ ((t.s[0]'hz).toNat : Int) = 64) (v : VT) (e0 : Int) (HV : ∀ W, Calls Tryz.prog 10 #[.string t.s] W fun e w' => e = .returned (.tuple #[.agg v.c, .int .i64 e0]) ∧ Below W.heap.size W w') (he : (e0 != 0) = true) : Calls Tryz.prog 8 #[.agg t.c] w fun e w' => e = .returned (.tuple #[.string (quo t.s), .bool true]) ∧ Below w.heap.size w w' := by
  have hG := fun (W : World) (hW : Below w.heap.size w W) => rvalue_any plain_ok t W ((ht.move hW).up hW.size)
  rw [← good_value, hg] at hG
  have HA := ht.here
  have hn0 := HA.n0
  have hn1 := HA.n1
  have hS : Boxes w (w.alloc (Obj.cells t.c 26)) [(w.heap.size, Obj.cells t.c 26)] := (Boxes.start w).alloc _
  have HG := Lib.hid hG
  clear hG ht HA
  have hie : t.s.toList.isEmpty = false := (by simp [h0]); have b39 : (((t.s[0]'hz).toNat : Int) == 39) = false := (by simp [h39]); have b64 : (((t.s[0]'hz).toNat : Int) == 64) = false := (by simp [h64]); have H := Lib.hid HV; clear HV
  have c0 := (cell_of_row _ _ 0 _ _ _ (hS.at_ 0 rfl)).trans (show t.c[0]? = some (.int .i64 t.k) from rfl)
  have c1 := (cell_of_row _ _ 1 _ _ _ (hS.at_ 0 rfl)).trans (show t.c[1]? = some (.int .i64 t.n) from rfl)
  have c2 := (cell_of_row _ _ 2 _ _ _ (hS.at_ 0 rfl)).trans (show t.c[2]? = some (.string t.s) from rfl)
  have c3 := (cell_of_row _ _ 3 _ _ _ (hS.at_ 0 rfl)).trans (show t.c[3]? = some (.slice t.lA t.ln t.lc) from rfl)
  have c4 := (cell_of_row _ _ 4 _ _ _ (hS.at_ 0 rfl)).trans (show t.c[4]? = some (.slice t.mA t.mn t.mc) from rfl)
  go_enter Tryz.func8, Tryz.ntmps8
  go_wp2_with (first | go_skip | ((with_reducible refine gate_op (op := .load 26 (.tmp 1)) rfl ?_); refine wpList_load_row' rfl 26 (.tmp 1) rfl _ rfl 26 _ (0, 0) _ (hS.at_ 0 rfl) Tryz.underlying26 rfl (VT.val_info _) ?_) | (go_at_call 16; with_reducible (refine (HG.out _ hS.below).mono ?_); rintro e wn ⟨rfl, hbn⟩; have hS1 := hS.step hbn; clear hS hbn c0 c1 c2 c3 c4; have hS := hS1; clear hS1; have c0 := (cell_of_row _ _ 0 _ _ _ (hS.at_ 0 rfl)).trans (show t.c[0]? = some (.int .i64 t.k) from rfl); have c1 := (cell_of_row _ _ 1 _ _ _ (hS.at_ 0 rfl)).trans (show t.c[1]? = some (.int .i64 t.n) from rfl); have c2 := (cell_of_row _ _ 2 _ _ _ (hS.at_ 0 rfl)).trans (show t.c[2]? = some (.string t.s) from rfl); have c3 := (cell_of_row _ _ 3 _ _ _ (hS.at_ 0 rfl)).trans (show t.c[3]? = some (.slice t.lA t.ln t.lc) from rfl); have c4 := (cell_of_row _ _ 4 _ _ _ (hS.at_ 0 rfl)).trans (show t.c[4]? = some (.slice t.mA t.mn t.mc) from rfl)) | (go_at_call 17; with_reducible (refine (rtext_any _ _ hn0 hn1).mono ?_); rintro e wn ⟨rfl, hbn⟩; have hS1 := hS.step hbn; clear hS hbn c0 c1 c2 c3 c4; have hS := hS1; clear hS1; have c0 := (cell_of_row _ _ 0 _ _ _ (hS.at_ 0 rfl)).trans (show t.c[0]? = some (.int .i64 t.k) from rfl); have c1 := (cell_of_row _ _ 1 _ _ _ (hS.at_ 0 rfl)).trans (show t.c[1]? = some (.int .i64 t.n) from rfl); have c2 := (cell_of_row _ _ 2 _ _ _ (hS.at_ 0 rfl)).trans (show t.c[2]? = some (.string t.s) from rfl); have c3 := (cell_of_row _ _ 3 _ _ _ (hS.at_ 0 rfl)).trans (show t.c[3]? = some (.slice t.lA t.ln t.lc) from rfl); have c4 := (cell_of_row _ _ 4 _ _ _ (hS.at_ 0 rfl)).trans (show t.c[4]? = some (.slice t.mA t.mn t.mc) from rfl)) | (go_at_call 10; with_reducible (refine (H.out _).mono ?_); rintro e wn ⟨rfl, hbn⟩; have hS1 := hS.step hbn; clear hS hbn c0 c1 c2 c3 c4; have hS := hS1; clear hS1; have c0 := (cell_of_row _ _ 0 _ _ _ (hS.at_ 0 rfl)).trans (show t.c[0]? = some (.int .i64 t.k) from rfl); have c1 := (cell_of_row _ _ 1 _ _ _ (hS.at_ 0 rfl)).trans (show t.c[1]? = some (.int .i64 t.n) from rfl); have c2 := (cell_of_row _ _ 2 _ _ _ (hS.at_ 0 rfl)).trans (show t.c[2]? = some (.string t.s) from rfl); have c3 := (cell_of_row _ _ 3 _ _ _ (hS.at_ 0 rfl)).trans (show t.c[3]? = some (.slice t.lA t.ln t.lc) from rfl); have c4 := (cell_of_row _ _ 4 _ _ _ (hS.at_ 0 rfl)).trans (show t.c[4]? = some (.slice t.mA t.mn t.mc) from rfl)) | ((with_reducible refine gate_op (op := .alloc 26) rfl ?_); refine alloc_arm rfl 26 rfl (val_alloc _) ?_; intro wn hbn hgn; have hS1 := hS.new hbn hgn; clear hS hbn hgn; have hS := hS1; clear hS1) | ((with_reducible refine gate_op (op := .store 26 (.tmp 4) (.tmp 68)) rfl ?_); refine wpList_store_row rfl 26 (.tmp 4) (.tmp 68) rfl _ (VT.c v) rfl rfl 26 _ (hS.at_ 1 rfl) (VT.val_info _) rfl (VT.c_one _) ?_; intro wn hbn hgn hon hsn; have hS1 := hS.put 1 rfl hon hbn hgn; clear hS hbn hgn hon hsn c0 c1 c2 c3 c4; have hS := hS1; clear hS1; have c2 := (cell_of_row _ _ 2 _ _ _ (hS.at_ 0 rfl)).trans (show t.c[2]? = some (.string t.s) from rfl); have x0 := (cell_of_row _ _ 0 _ _ _ (hS.at_ 1 rfl)).trans (show v.c[0]? = some (.int .i64 v.k) from rfl); have x2 := (cell_of_row _ _ 2 _ _ _ (hS.at_ 1 rfl)).trans (show v.c[2]? = some (.string v.s) from rfl)))
  go_ret2
  exact ⟨rfl, hS.below⟩
set_option maxRecDepth 100000 in
set_option maxHeartbeats 1000000 in
theorem rct_t4 (hg : goodT t = true) (hx : decide ((0 : Int) < wrap64 ((t.ln : Int) + (t.mn : Int))) = false) (hk : t.k = 4) (hs : t.s.size ≤ 4096) (h0 : ¬ t.s.toList = []) (hz : 0 < t.s.size) (h39 : ¬ ((t.s[0]'hz).toNat : Int) = 39) (h64 : ¬ ((t.s[0]'hz).toNat : Int) = 64) (v : VT) (e0 : Int) (HV : ∀ W, Calls Tryz.prog 10 #[.string t.s] W fun e w' => e = .returned (.tuple #[.agg v.c, .int .i64 e0]) ∧ Below W.heap.size W w') (he : (e0 != 0) = false) (hk4 : (v.k != 4) = true) : Calls Tryz.prog 8 #[.agg t.c] w fun e w' => e = .returned (.tuple #[.string (quo t.s), .bool true]) ∧ Below w.heap.size w w' := by
  have hG := fun (W : World) (hW : Below w.heap.size w W) => rvalue_any plain_ok t W ((ht.move hW).up hW.size)
  rw [← good_value, hg] at hG
  have HA := ht.here
  have hn0 := HA.n0
  have hn1 := HA.n1
  have hS : Boxes w (w.alloc (Obj.cells t.c 26)) [(w.heap.size, Obj.cells t.c 26)] := (Boxes.start w).alloc _
  have HG := Lib.hid hG
  clear hG ht HA
  have hie : t.s.toList.isEmpty = false := (by simp [h0]); have b39 : (((t.s[0]'hz).toNat : Int) == 39) = false := (by simp [h39]); have b64 : (((t.s[0]'hz).toNat : Int) == 64) = false := (by simp [h64]); have H := Lib.hid HV; clear HV
  have c0 := (cell_of_row _ _ 0 _ _ _ (hS.at_ 0 rfl)).trans (show t.c[0]? = some (.int .i64 t.k) from rfl)
  have c1 := (cell_of_row _ _ 1 _ _ _ (hS.at_ 0 rfl)).trans (show t.c[1]? = some (.int .i64 t.n) from rfl)
  have c2 := (cell_of_row _ _ 2 _ _ _ (hS.at_ 0 rfl)).trans (show t.c[2]? = some (.string t.s) from rfl)
  have c3 := (cell_of_row _ _ 3 _ _ _ (hS.at_ 0 rfl)).trans (show t.c[3]? = some (.slice t.lA t.ln t.lc) from rfl)
  have c4 := (cell_of_row _ _ 4 _ _ _ (hS.at_ 0 rfl)).trans (show t.c[4]? = some (.slice t.mA t.mn t.mc) from rfl)
  go_enter Tryz.func8, Tryz.ntmps8
  go_wp2_with (first | go_skip | ((with_reducible refine gate_op (op := .load 26 (.tmp 1)) rfl ?_); refine wpList_load_row' rfl 26 (.tmp 1) rfl _ rfl 26 _ (0, 0) _ (hS.at_ 0 rfl) Tryz.underlying26 rfl (VT.val_info _) ?_) | (go_at_call 16; with_reducible (refine (HG.out _ hS.below).mono ?_); rintro e wn ⟨rfl, hbn⟩; have hS1 := hS.step hbn; clear hS hbn c0 c1 c2 c3 c4; have hS := hS1; clear hS1; have c0 := (cell_of_row _ _ 0 _ _ _ (hS.at_ 0 rfl)).trans (show t.c[0]? = some (.int .i64 t.k) from rfl); have c1 := (cell_of_row _ _ 1 _ _ _ (hS.at_ 0 rfl)).trans (show t.c[1]? = some (.int .i64 t.n) from rfl); have c2 := (cell_of_row _ _ 2 _ _ _ (hS.at_ 0 rfl)).trans (show t.c[2]? = some (.string t.s) from rfl); have c3 := (cell_of_row _ _ 3 _ _ _ (hS.at_ 0 rfl)).trans (show t.c[3]? = some (.slice t.lA t.ln t.lc) from rfl); have c4 := (cell_of_row _ _ 4 _ _ _ (hS.at_ 0 rfl)).trans (show t.c[4]? = some (.slice t.mA t.mn t.mc) from rfl)) | (go_at_call 17; with_reducible (refine (rtext_any _ _ hn0 hn1).mono ?_); rintro e wn ⟨rfl, hbn⟩; have hS1 := hS.step hbn; clear hS hbn c0 c1 c2 c3 c4; have hS := hS1; clear hS1; have c0 := (cell_of_row _ _ 0 _ _ _ (hS.at_ 0 rfl)).trans (show t.c[0]? = some (.int .i64 t.k) from rfl); have c1 := (cell_of_row _ _ 1 _ _ _ (hS.at_ 0 rfl)).trans (show t.c[1]? = some (.int .i64 t.n) from rfl); have c2 := (cell_of_row _ _ 2 _ _ _ (hS.at_ 0 rfl)).trans (show t.c[2]? = some (.string t.s) from rfl); have c3 := (cell_of_row _ _ 3 _ _ _ (hS.at_ 0 rfl)).trans (show t.c[3]? = some (.slice t.lA t.ln t.lc) from rfl); have c4 := (cell_of_row _ _ 4 _ _ _ (hS.at_ 0 rfl)).trans (show t.c[4]? = some (.slice t.mA t.mn t.mc) from rfl)) | (go_at_call 10; with_reducible (refine (H.out _).mono ?_); rintro e wn ⟨rfl, hbn⟩; have hS1 := hS.step hbn; clear hS hbn c0 c1 c2 c3 c4; have hS := hS1; clear hS1; have c0 := (cell_of_row _ _ 0 _ _ _ (hS.at_ 0 rfl)).trans (show t.c[0]? = some (.int .i64 t.k) from rfl); have c1 := (cell_of_row _ _ 1 _ _ _ (hS.at_ 0 rfl)).trans (show t.c[1]? = some (.int .i64 t.n) from rfl); have c2 := (cell_of_row _ _ 2 _ _ _ (hS.at_ 0 rfl)).trans (show t.c[2]? = some (.string t.s) from rfl); have c3 := (cell_of_row _ _ 3 _ _ _ (hS.at_ 0 rfl)).trans (show t.c[3]? = some (.slice t.lA t.ln t.lc) from rfl); have c4 := (cell_of_row _ _ 4 _ _ _ (hS.at_ 0 rfl)).trans (show t.c[4]? = some (.slice t.mA t.mn t.mc) from rfl)) | ((with_reducible refine gate_op (op := .alloc 26) rfl ?_); refine alloc_arm rfl 26 rfl (val_alloc _) ?_; intro wn hbn hgn; have hS1 := hS.new hbn hgn; clear hS hbn hgn; have hS := hS1; clear hS1) | ((with_reducible refine gate_op (op := .store 26 (.tmp 4) (.tmp 68)) rfl ?_); refine wpList_store_row rfl 26 (.tmp 4) (.tmp 68) rfl _ (VT.c v) rfl rfl 26 _ (hS.at_ 1 rfl) (VT.val_info _) rfl (VT.c_one _) ?_; intro wn hbn hgn hon hsn; have hS1 := hS.put 1 rfl hon hbn hgn; clear hS hbn hgn hon hsn c0 c1 c2 c3 c4; have hS := hS1; clear hS1; have c2 := (cell_of_row _ _ 2 _ _ _ (hS.at_ 0 rfl)).trans (show t.c[2]? = some (.string t.s) from rfl); have x0 := (cell_of_row _ _ 0 _ _ _ (hS.at_ 1 rfl)).trans (show v.c[0]? = some (.int .i64 v.k) from rfl); have x2 := (cell_of_row _ _ 2 _ _ _ (hS.at_ 1 rfl)).trans (show v.c[2]? = some (.string v.s) from rfl)))
  go_ret2
  exact ⟨rfl, hS.below⟩
set_option maxRecDepth 100000 in
set_option maxHeartbeats 1000000 in
theorem rct_t5 (hg : goodT t = true) (hx : decide ((0 : Int) < wrap64 ((t.ln : Int) + (t.mn : Int))) = false) (hk : t.k = 4) (hs : t.s.size ≤ 4096) (h0 : ¬ t.s.toList = []) (hz : 0 < t.s.size) (h39 : ¬ ((t.s[0]'hz).toNat : Int) = 39) (h64 : ¬ ((t.s[0]'hz).toNat : Int) = 64) (v : VT) (e0 : Int) (HV : ∀ W, Calls Tryz.prog 10 #[.string t.s] W fun e w' => e = .returned (.tuple #[.agg v.c, .int .i64 e0]) ∧ Below W.heap.size W w') (he : (e0 != 0) = false) (hk4 : (v.k != 4) = false) (hq : (v.s.toList == t.s.toList) = false) : Calls Tryz.prog 8 #[.agg t.c] w fun e w' => e = .returned (.tuple #[.string (quo t.s), .bool true]) ∧ Below w.heap.size w w' := by
  have hG := fun (W : World) (hW : Below w.heap.size w W) => rvalue_any plain_ok t W ((ht.move hW).up hW.size)
  rw [← good_value, hg] at hG
  have HA := ht.here
  have hn0 := HA.n0
  have hn1 := HA.n1
  have hS : Boxes w (w.alloc (Obj.cells t.c 26)) [(w.heap.size, Obj.cells t.c 26)] := (Boxes.start w).alloc _
  have HG := Lib.hid hG
  clear hG ht HA
  have hie : t.s.toList.isEmpty = false := (by simp [h0]); have b39 : (((t.s[0]'hz).toNat : Int) == 39) = false := (by simp [h39]); have b64 : (((t.s[0]'hz).toNat : Int) == 64) = false := (by simp [h64]); have H := Lib.hid HV; clear HV; have hq2 : (v.s.toList != t.s.toList) = true := congrArg (fun b => !b) hq
  have c0 := (cell_of_row _ _ 0 _ _ _ (hS.at_ 0 rfl)).trans (show t.c[0]? = some (.int .i64 t.k) from rfl)
  have c1 := (cell_of_row _ _ 1 _ _ _ (hS.at_ 0 rfl)).trans (show t.c[1]? = some (.int .i64 t.n) from rfl)
  have c2 := (cell_of_row _ _ 2 _ _ _ (hS.at_ 0 rfl)).trans (show t.c[2]? = some (.string t.s) from rfl)
  have c3 := (cell_of_row _ _ 3 _ _ _ (hS.at_ 0 rfl)).trans (show t.c[3]? = some (.slice t.lA t.ln t.lc) from rfl)
  have c4 := (cell_of_row _ _ 4 _ _ _ (hS.at_ 0 rfl)).trans (show t.c[4]? = some (.slice t.mA t.mn t.mc) from rfl)
  go_enter Tryz.func8, Tryz.ntmps8
  go_wp2_with (first | go_skip | ((with_reducible refine gate_op (op := .load 26 (.tmp 1)) rfl ?_); refine wpList_load_row' rfl 26 (.tmp 1) rfl _ rfl 26 _ (0, 0) _ (hS.at_ 0 rfl) Tryz.underlying26 rfl (VT.val_info _) ?_) | (go_at_call 16; with_reducible (refine (HG.out _ hS.below).mono ?_); rintro e wn ⟨rfl, hbn⟩; have hS1 := hS.step hbn; clear hS hbn c0 c1 c2 c3 c4; have hS := hS1; clear hS1; have c0 := (cell_of_row _ _ 0 _ _ _ (hS.at_ 0 rfl)).trans (show t.c[0]? = some (.int .i64 t.k) from rfl); have c1 := (cell_of_row _ _ 1 _ _ _ (hS.at_ 0 rfl)).trans (show t.c[1]? = some (.int .i64 t.n) from rfl); have c2 := (cell_of_row _ _ 2 _ _ _ (hS.at_ 0 rfl)).trans (show t.c[2]? = some (.string t.s) from rfl); have c3 := (cell_of_row _ _ 3 _ _ _ (hS.at_ 0 rfl)).trans (show t.c[3]? = some (.slice t.lA t.ln t.lc) from rfl); have c4 := (cell_of_row _ _ 4 _ _ _ (hS.at_ 0 rfl)).trans (show t.c[4]? = some (.slice t.mA t.mn t.mc) from rfl)) | (go_at_call 17; with_reducible (refine (rtext_any _ _ hn0 hn1).mono ?_); rintro e wn ⟨rfl, hbn⟩; have hS1 := hS.step hbn; clear hS hbn c0 c1 c2 c3 c4; have hS := hS1; clear hS1; have c0 := (cell_of_row _ _ 0 _ _ _ (hS.at_ 0 rfl)).trans (show t.c[0]? = some (.int .i64 t.k) from rfl); have c1 := (cell_of_row _ _ 1 _ _ _ (hS.at_ 0 rfl)).trans (show t.c[1]? = some (.int .i64 t.n) from rfl); have c2 := (cell_of_row _ _ 2 _ _ _ (hS.at_ 0 rfl)).trans (show t.c[2]? = some (.string t.s) from rfl); have c3 := (cell_of_row _ _ 3 _ _ _ (hS.at_ 0 rfl)).trans (show t.c[3]? = some (.slice t.lA t.ln t.lc) from rfl); have c4 := (cell_of_row _ _ 4 _ _ _ (hS.at_ 0 rfl)).trans (show t.c[4]? = some (.slice t.mA t.mn t.mc) from rfl)) | (go_at_call 10; with_reducible (refine (H.out _).mono ?_); rintro e wn ⟨rfl, hbn⟩; have hS1 := hS.step hbn; clear hS hbn c0 c1 c2 c3 c4; have hS := hS1; clear hS1; have c0 := (cell_of_row _ _ 0 _ _ _ (hS.at_ 0 rfl)).trans (show t.c[0]? = some (.int .i64 t.k) from rfl); have c1 := (cell_of_row _ _ 1 _ _ _ (hS.at_ 0 rfl)).trans (show t.c[1]? = some (.int .i64 t.n) from rfl); have c2 := (cell_of_row _ _ 2 _ _ _ (hS.at_ 0 rfl)).trans (show t.c[2]? = some (.string t.s) from rfl); have c3 := (cell_of_row _ _ 3 _ _ _ (hS.at_ 0 rfl)).trans (show t.c[3]? = some (.slice t.lA t.ln t.lc) from rfl); have c4 := (cell_of_row _ _ 4 _ _ _ (hS.at_ 0 rfl)).trans (show t.c[4]? = some (.slice t.mA t.mn t.mc) from rfl)) | ((with_reducible refine gate_op (op := .alloc 26) rfl ?_); refine alloc_arm rfl 26 rfl (val_alloc _) ?_; intro wn hbn hgn; have hS1 := hS.new hbn hgn; clear hS hbn hgn; have hS := hS1; clear hS1) | ((with_reducible refine gate_op (op := .store 26 (.tmp 4) (.tmp 68)) rfl ?_); refine wpList_store_row rfl 26 (.tmp 4) (.tmp 68) rfl _ (VT.c v) rfl rfl 26 _ (hS.at_ 1 rfl) (VT.val_info _) rfl (VT.c_one _) ?_; intro wn hbn hgn hon hsn; have hS1 := hS.put 1 rfl hon hbn hgn; clear hS hbn hgn hon hsn c0 c1 c2 c3 c4; have hS := hS1; clear hS1; have c2 := (cell_of_row _ _ 2 _ _ _ (hS.at_ 0 rfl)).trans (show t.c[2]? = some (.string t.s) from rfl); have x0 := (cell_of_row _ _ 0 _ _ _ (hS.at_ 1 rfl)).trans (show v.c[0]? = some (.int .i64 v.k) from rfl); have x2 := (cell_of_row _ _ 2 _ _ _ (hS.at_ 1 rfl)).trans (show v.c[2]? = some (.string v.s) from rfl)))
  go_ret2
  exact ⟨rfl, hS.below⟩
set_option maxRecDepth 100000 in
set_option maxHeartbeats 1000000 in
theorem rct_t6 (hg : goodT t = true) (hx : decide ((0 : Int) < wrap64 ((t.ln : Int) + (t.mn : Int))) = false) (hk : t.k = 4) (hs : t.s.size ≤ 4096) (h0 : ¬ t.s.toList = []) (hz : 0 < t.s.size) (h39 : ¬ ((t.s[0]'hz).toNat : Int) = 39) (h64 : ¬ ((t.s[0]'hz).toNat : Int) = 64) (v : VT) (e0 : Int) (HV : ∀ W, Calls Tryz.prog 10 #[.string t.s] W fun e w' => e = .returned (.tuple #[.agg v.c, .int .i64 e0]) ∧ Below W.heap.size W w') (he : (e0 != 0) = false) (hk4 : (v.k != 4) = false) (hq : (v.s.toList == t.s.toList) = true) : Calls Tryz.prog 8 #[.agg t.c] w fun e w' => e = .returned (.tuple #[.string t.s, .bool true]) ∧ Below w.heap.size w w' := by
  have hG := fun (W : World) (hW : Below w.heap.size w W) => rvalue_any plain_ok t W ((ht.move hW).up hW.size)
  rw [← good_value, hg] at hG
  have HA := ht.here
  have hn0 := HA.n0
  have hn1 := HA.n1
  have hS : Boxes w (w.alloc (Obj.cells t.c 26)) [(w.heap.size, Obj.cells t.c 26)] := (Boxes.start w).alloc _
  have HG := Lib.hid hG
  clear hG ht HA
  have hie : t.s.toList.isEmpty = false := (by simp [h0]); have b39 : (((t.s[0]'hz).toNat : Int) == 39) = false := (by simp [h39]); have b64 : (((t.s[0]'hz).toNat : Int) == 64) = false := (by simp [h64]); have H := Lib.hid HV; clear HV; have hq2 : (v.s.toList != t.s.toList) = false := congrArg (fun b => !b) hq
  have c0 := (cell_of_row _ _ 0 _ _ _ (hS.at_ 0 rfl)).trans (show t.c[0]? = some (.int .i64 t.k) from rfl)
  have c1 := (cell_of_row _ _ 1 _ _ _ (hS.at_ 0 rfl)).trans (show t.c[1]? = some (.int .i64 t.n) from rfl)
  have c2 := (cell_of_row _ _ 2 _ _ _ (hS.at_ 0 rfl)).trans (show t.c[2]? = some (.string t.s) from rfl)
  have c3 := (cell_of_row _ _ 3 _ _ _ (hS.at_ 0 rfl)).trans (show t.c[3]? = some (.slice t.lA t.ln t.lc) from rfl)
  have c4 := (cell_of_row _ _ 4 _ _ _ (hS.at_ 0 rfl)).trans (show t.c[4]? = some (.slice t.mA t.mn t.mc) from rfl)
  go_enter Tryz.func8, Tryz.ntmps8
  go_wp2_with (first | go_skip | ((with_reducible refine gate_op (op := .load 26 (.tmp 1)) rfl ?_); refine wpList_load_row' rfl 26 (.tmp 1) rfl _ rfl 26 _ (0, 0) _ (hS.at_ 0 rfl) Tryz.underlying26 rfl (VT.val_info _) ?_) | (go_at_call 16; with_reducible (refine (HG.out _ hS.below).mono ?_); rintro e wn ⟨rfl, hbn⟩; have hS1 := hS.step hbn; clear hS hbn c0 c1 c2 c3 c4; have hS := hS1; clear hS1; have c0 := (cell_of_row _ _ 0 _ _ _ (hS.at_ 0 rfl)).trans (show t.c[0]? = some (.int .i64 t.k) from rfl); have c1 := (cell_of_row _ _ 1 _ _ _ (hS.at_ 0 rfl)).trans (show t.c[1]? = some (.int .i64 t.n) from rfl); have c2 := (cell_of_row _ _ 2 _ _ _ (hS.at_ 0 rfl)).trans (show t.c[2]? = some (.string t.s) from rfl); have c3 := (cell_of_row _ _ 3 _ _ _ (hS.at_ 0 rfl)).trans (show t.c[3]? = some (.slice t.lA t.ln t.lc) from rfl); have c4 := (cell_of_row _ _ 4 _ _ _ (hS.at_ 0 rfl)).trans (show t.c[4]? = some (.slice t.mA t.mn t.mc) from rfl)) | (go_at_call 17; with_reducible (refine (rtext_any _ _ hn0 hn1).mono ?_); rintro e wn ⟨rfl, hbn⟩; have hS1 := hS.step hbn; clear hS hbn c0 c1 c2 c3 c4; have hS := hS1; clear hS1; have c0 := (cell_of_row _ _ 0 _ _ _ (hS.at_ 0 rfl)).trans (show t.c[0]? = some (.int .i64 t.k) from rfl); have c1 := (cell_of_row _ _ 1 _ _ _ (hS.at_ 0 rfl)).trans (show t.c[1]? = some (.int .i64 t.n) from rfl); have c2 := (cell_of_row _ _ 2 _ _ _ (hS.at_ 0 rfl)).trans (show t.c[2]? = some (.string t.s) from rfl); have c3 := (cell_of_row _ _ 3 _ _ _ (hS.at_ 0 rfl)).trans (show t.c[3]? = some (.slice t.lA t.ln t.lc) from rfl); have c4 := (cell_of_row _ _ 4 _ _ _ (hS.at_ 0 rfl)).trans (show t.c[4]? = some (.slice t.mA t.mn t.mc) from rfl)) | (go_at_call 10; with_reducible (refine (H.out _).mono ?_); rintro e wn ⟨rfl, hbn⟩; have hS1 := hS.step hbn; clear hS hbn c0 c1 c2 c3 c4; have hS := hS1; clear hS1; have c0 := (cell_of_row _ _ 0 _ _ _ (hS.at_ 0 rfl)).trans (show t.c[0]? = some (.int .i64 t.k) from rfl); have c1 := (cell_of_row _ _ 1 _ _ _ (hS.at_ 0 rfl)).trans (show t.c[1]? = some (.int .i64 t.n) from rfl); have c2 := (cell_of_row _ _ 2 _ _ _ (hS.at_ 0 rfl)).trans (show t.c[2]? = some (.string t.s) from rfl); have c3 := (cell_of_row _ _ 3 _ _ _ (hS.at_ 0 rfl)).trans (show t.c[3]? = some (.slice t.lA t.ln t.lc) from rfl); have c4 := (cell_of_row _ _ 4 _ _ _ (hS.at_ 0 rfl)).trans (show t.c[4]? = some (.slice t.mA t.mn t.mc) from rfl)) | ((with_reducible refine gate_op (op := .alloc 26) rfl ?_); refine alloc_arm rfl 26 rfl (val_alloc _) ?_; intro wn hbn hgn; have hS1 := hS.new hbn hgn; clear hS hbn hgn; have hS := hS1; clear hS1) | ((with_reducible refine gate_op (op := .store 26 (.tmp 4) (.tmp 68)) rfl ?_); refine wpList_store_row rfl 26 (.tmp 4) (.tmp 68) rfl _ (VT.c v) rfl rfl 26 _ (hS.at_ 1 rfl) (VT.val_info _) rfl (VT.c_one _) ?_; intro wn hbn hgn hon hsn; have hS1 := hS.put 1 rfl hon hbn hgn; clear hS hbn hgn hon hsn c0 c1 c2 c3 c4; have hS := hS1; clear hS1; have c2 := (cell_of_row _ _ 2 _ _ _ (hS.at_ 0 rfl)).trans (show t.c[2]? = some (.string t.s) from rfl); have x0 := (cell_of_row _ _ 0 _ _ _ (hS.at_ 1 rfl)).trans (show v.c[0]? = some (.int .i64 v.k) from rfl); have x2 := (cell_of_row _ _ 2 _ _ _ (hS.at_ 1 rfl)).trans (show v.c[2]? = some (.string v.s) from rfl)))
  go_ret2
  exact ⟨rfl, hS.below⟩
theorem rCellText_any : Calls Tryz.prog 8 #[.agg t.c] w fun e w' => e = .returned (.tuple #[.string (textV t).1, .bool (textV t).2]) ∧ Below w.heap.size w w' := by
  have go : ∀ {r : ByteArray × Bool}, textV t = r → (Calls Tryz.prog 8 #[.agg t.c] w fun e w' => e = .returned (.tuple #[.string r.1, .bool r.2]) ∧ Below w.heap.size w w') → Calls Tryz.prog 8 #[.agg t.c] w fun e w' => e = .returned (.tuple #[.string (textV t).1, .bool (textV t).2]) ∧ Below w.heap.size w w' := fun h k => by rw [h]; exact k
  have HA := ht.here
  have hll := HA.ll
  have hml := HA.ml
  have w0 : t.ln = 0 → t.mn = 0 → decide ((0 : Int) < wrap64 ((t.ln : Int) + (t.mn : Int))) = false := fun a b => decide_eq_false (by rw [a, b]; unfold wrap64; omega)
  by_cases hc : (decide (t.ln + t.mn > 0) || !goodT t) = true
  · have e : textV t = (⟨#[]⟩, false) := by unfold textV; rw [if_pos hc]
    cases hx : decide ((0 : Int) < wrap64 ((t.ln : Int) + (t.mn : Int)))
    case true =>
      cases hg : goodT t
      case false => exact go e (rct_a t w ht hg)
      case true => exact go e (rct_b t w ht hg hx)
    cases hg : goodT t
    case false => exact go e (rct_a t w ht hg)
    exfalso
    have ho : ownV t = true := by
      unfold goodT at hg
      rw [judgeT_eq] at hg
      cases h : ownV t
      · rw [h] at hg; simp at hg
      · rfl
    have hone : t.ln = 0 ∨ t.mn = 0 := by
      unfold ownV ownB at ho
      by_cases h0 : t.ln = 0
      · exact .inl h0
      by_cases h1 : t.mn = 0
      · exact .inr h1
      · simp [h0, h1] at ho
    rw [hg] at hc
    have hpos : 0 < t.ln + t.mn := by simpa using hc
    rw [show wrap64 ((t.ln : Int) + (t.mn : Int)) = (t.ln : Int) + (t.mn : Int) by unfold wrap64; omega] at hx
    simp at hx
    omega
  · simp only [Bool.or_eq_true, decide_eq_true_eq, Bool.not_eq_true', not_or] at hc
    have hl : t.ln = 0 := by omega
    have hm : t.mn = 0 := by omega
    have hg : goodT t = true := by simpa using hc.2
    have hx := w0 hl hm
    have ho := hg
    rw [flat_good t hl hm] at ho
    unfold ownV ownB at ho
    have e0 : textV t = if t.k = 0 then (⟨#[110, 117, 108, 108]⟩, true)
  else if t.k = 1 then (if t.n = 1 then (⟨#[116, 114, 117, 101]⟩, true) else (⟨#[102, 97, 108, 115, 101]⟩, true))
  else if t.k = 2 then (⟨(Lib.itoa t.n).toArray⟩, true)
  else if t.k = 3 then (t.s, true)
  else if t.k = 7 then (atS t.s, true)
  else if t.k = 5 then (⟨#[91, 93]⟩, true)
  else if t.k = 6 then (⟨#[123, 125]⟩, true)
  else (textS t.s, true) := by unfold textV; rw [if_neg (by rw [hl, hm, hg]; simp)]
    by_cases k0 : t.k = 0
    · exact go (by rw [e0, if_pos k0]) (rct_0 t w ht hg hx k0)
    by_cases k1 : t.k = 1
    · by_cases n1 : t.n = 1
      · exact go (by rw [e0, if_neg k0, if_pos k1, if_pos n1]) (rct_1 t w ht hg hx k1 (by simpa using n1))
      · exact go (by rw [e0, if_neg k0, if_pos k1, if_neg n1]) (rct_2 t w ht hg hx k1 (by simpa using n1))
    by_cases k2 : t.k = 2
    · exact go (by rw [e0, if_neg k0, if_neg k1, if_pos k2]) (rct_i t w ht hg hx k2)
    by_cases k3 : t.k = 3
    · exact go (by rw [e0, if_neg k0, if_neg k1, if_neg k2, if_pos k3]) (rct_n t w ht hg hx k3)
    by_cases k7 : t.k = 7
    · have hz : t.s.size ≤ 64 := by
        simp [k7, hl, hm] at ho
        have h2 := ho.2
        unfold stampB at h2
        simp at h2
        omega
      exact go (by rw [e0, if_neg k0, if_neg k1, if_neg k2, if_neg k3, if_pos k7]) (rct_s t w ht hg hx k7 hz)
    by_cases k5 : t.k = 5
    · exact go (by rw [e0, if_neg k0, if_neg k1, if_neg k2, if_neg k3, if_neg k7, if_pos k5]) (rct_l t w ht hg hx k5)
    by_cases k6 : t.k = 6
    · exact go (by rw [e0, if_neg k0, if_neg k1, if_neg k2, if_neg k3, if_neg k7, if_neg k5, if_pos k6]) (rct_m t w ht hg hx k6)
    by_cases k4 : t.k = 4
    · have hz : t.s.size ≤ 4096 := by
        simp [k4, hl, hm] at ho
        have h2 := ho.2
        unfold letC at h2
        split at h2
        · split at h2
          · cases h2
          · omega
        · cases h2
      have e1 : textV t = (textS t.s, true) := by rw [e0, if_neg k0, if_neg k1, if_neg k2, if_neg k3, if_neg k7, if_neg k5, if_neg k6]
      obtain ⟨v, ev, hv⟩ : ∃ v e0, cellV t.s = (v, e0) := ⟨_, _, rfl⟩
      have HV : ∀ W, Calls Tryz.prog 10 #[.string t.s] W fun e w' => e = .returned (.tuple #[.agg v.c, .int .i64 ev]) ∧ Below W.heap.size W w' := fun W => by
        have h := rcell_any t.s W (by omega)
        rw [hv] at h
        exact h
      have q : quotB t.s = (t.s.toList == [] || decide (t.s.data.toList.head? = some 39) || decide (t.s.data.toList.head? = some 64) || ev != 0 || v.k != 4 || !(v.s.toList == t.s.toList)) := by unfold quotB; rw [hv]
      have yes : quotB t.s = true → textV t = (quo t.s, true) := fun h => by rw [e1]; unfold textS; rw [if_pos h]
      have no : quotB t.s = false → textV t = (t.s, true) := fun h => by rw [e1]; unfold textS; rw [if_neg (by rw [h]; simp)]
      by_cases h0 : t.s.toList = []
      · exact go (yes (by rw [q]; simp [h0])) (rct_t0 t w ht hg hx k4 hz h0)
      have hz0 : 0 < t.s.size := ba_pos h0
      by_cases h39 : ((t.s[0]'hz0).toNat : Int) = 39
      · have hd : t.s.data.toList.head? = some 39 := (head_is hz0 39 (by decide)).2 h39
        exact go (yes (by rw [q]; simp [hd])) (rct_t1 t w ht hg hx k4 hz h0 hz0 h39)
      have d39 : ¬ t.s.data.toList.head? = some 39 := fun h => h39 ((head_is hz0 39 (by decide)).1 h)
      by_cases h64 : ((t.s[0]'hz0).toNat : Int) = 64
      · have hd : t.s.data.toList.head? = some 64 := (head_is hz0 64 (by decide)).2 h64
        exact go (yes (by rw [q]; simp [hd])) (rct_t2 t w ht hg hx k4 hz h0 hz0 h39 h64)
      have d64 : ¬ t.s.data.toList.head? = some 64 := fun h => h64 ((head_is hz0 64 (by decide)).1 h)
      have q2 : quotB t.s = (ev != 0 || v.k != 4 || !(v.s.toList == t.s.toList)) := by
        rw [q, decide_eq_false d39, decide_eq_false d64, show (t.s.toList == []) = false by simp [h0]]; simp
      cases he : (ev != 0)
      case true => exact go (yes (by rw [q2, he]; rfl)) (rct_t3 t w ht hg hx k4 hz h0 hz0 h39 h64 v ev HV he)
      cases hk : (v.k != 4)
      case true => exact go (yes (by rw [q2, he, hk]; rfl)) (rct_t4 t w ht hg hx k4 hz h0 hz0 h39 h64 v ev HV he hk)
      cases hq : (v.s.toList == t.s.toList)
      case false => exact go (yes (by rw [q2, he, hk, hq]; rfl)) (rct_t5 t w ht hg hx k4 hz h0 hz0 h39 h64 v ev HV he hk hq)
      case true => exact go (no (by rw [q2, he, hk, hq]; rfl)) (rct_t6 t w ht hg hx k4 hz h0 hz0 h39 h64 v ev HV he hk hq)
    · simp [k0, k1, k2, k3, k4, k5, k6, k7] at ho
end
end Go.Proofs.YtnapebgkcjnnbaaGreatDoor
