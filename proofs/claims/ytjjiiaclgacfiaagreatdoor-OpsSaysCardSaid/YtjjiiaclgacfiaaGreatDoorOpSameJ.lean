/-
  ops.Same tells what is written here, for all operations. No condition beside 64 numbers in a vector.
-/
import Derived.Test.YtjjiiaclgacfiaaGreatDoorOpGoodJ
import Derived.Test.YtjjiiaclgacfiaaGreatDoorJ6
import Derived.Test.YtjjiiaclgacfiaaGreatDoorJ2
namespace Go.Proofs.YtjjiiaclgacfiaaGreatDoor
open Go.RowKit
set_option linter.unusedVariables false
set_option linter.unusedSimpArgs false
set_option linter.unusedSectionVars false
def sameO (a b : OpV) (ta tb : VT) : Bool := sameV ta tb && (a.R == b.R && a.N == b.N) && a.T == b.T && a.seen == b.seen && a.K == b.K && (a.OR == b.OR && a.ON == b.ON) && a.key.toList == b.key.toList && (a.AR == b.AR && a.AN == b.AN) && a.M == b.M
section
variable (a b : OpV) (ta tb : VT) (w : World) (ha : a.seen.length = 64) (hb : b.seen.length = 64) (va : a.vc = ta.c) (vb : b.vc = tb.c) (HA : VT.In w.heap.size w ta) (HB : VT.In w.heap.size w tb)
include ha hb va vb HA HB
set_option maxRecDepth 100000 in
set_option maxHeartbeats 1000000 in
theorem oSame_0 (c0 : (sameV ta tb) = false) : Calls Tryz.prog 8 #[opv a, opv b] w fun e w' => e = .returned (.bool (sameO a b ta tb)) ∧ Below w.heap.size w w' := by
  have hh : Hid (sameO a b ta tb = false) := by unfold Hid sameO; simp [c0]
  have hc := fun W (hB : Below w.heap.size w W) => vSame_any ta tb W ((HA.move hB).up hB.size) ((HB.move hB).up hB.size)
  rw [← va, ← vb, c0] at hc
  have HC := Lib.hid hc
  clear hc va vb
  skip
  have hS : Sees w ((w.alloc (Obj.cells a.c 32)).alloc (Obj.cells b.c 32)) [(w.heap.size, Obj.cells a.c 32), (w.heap.size + 1, Obj.cells b.c 32)] := by
    have := ((Sees.start w).alloc (Obj.cells a.c 32)).alloc (Obj.cells b.c 32)
    simpa using this
  go_enter Tryz.func8, Tryz.ntmps8
  go_wp2_with (first | go_skip | (refine load_part rfl 23 (.tmp 11) rfl _ 0 rfl _ _ (0, 0) _ _ hS.g0 OpV.pId Tryz.underlying23 rfl (id_info _ _) ?_) | (refine load_part rfl 23 (.tmp 13) rfl _ 0 rfl _ _ (0, 0) _ _ hS.g1 OpV.pId Tryz.underlying23 rfl (id_info _ _) ?_) | (refine load_part rfl 25 (.tmp 25) rfl _ 3 rfl _ _ (0, 0) _ _ hS.g0 (OpV.pSeen ha) Tryz.underlying25 rfl (seen_info _ ha) ?_) | (refine load_part rfl 25 (.tmp 27) rfl _ 3 rfl _ _ (0, 0) _ _ hS.g1 (OpV.pSeen hb) Tryz.underlying25 rfl (seen_info _ hb) ?_) | (refine load_part rfl 23 (.tmp 39) rfl _ 68 rfl _ _ (0, 0) _ _ hS.g0 (OpV.pObj ha) Tryz.underlying23 rfl (id_info _ _) ?_) | (refine load_part rfl 23 (.tmp 41) rfl _ 68 rfl _ _ (0, 0) _ _ hS.g1 (OpV.pObj hb) Tryz.underlying23 rfl (id_info _ _) ?_) | (refine load_part rfl 23 (.tmp 53) rfl _ 71 rfl _ _ (0, 0) _ _ hS.g0 (OpV.pAt ha) Tryz.underlying23 rfl (id_info _ _) ?_) | (refine load_part rfl 23 (.tmp 55) rfl _ 71 rfl _ _ (0, 0) _ _ hS.g1 (OpV.pAt hb) Tryz.underlying23 rfl (id_info _ _) ?_) | (refine load_part rfl 30 (.tmp 5) rfl _ 74 rfl _ _ (0, 0) _ _ hS.g0 (OpV.pV ha) Tryz.underlying30 rfl (val_info _) ?_) | (refine load_part rfl 30 (.tmp 7) rfl _ 74 rfl _ _ (0, 0) _ _ hS.g1 (OpV.pV hb) Tryz.underlying30 rfl (val_info _) ?_) | (go_at_call 24; refine (HC.out _ hS.below).mono ?_; rintro e wn ⟨rfl, hbn⟩; have hS1 := hS.step hbn; clear hS hbn; have hS := hS1; clear hS1; obtain ⟨x2, x67, x70⟩ := op_cells ha hS.g0; obtain ⟨y2, y67, y70⟩ := op_cells hb hS.g1; have x73 : wn.cell? ⟨w.heap.size, 73, none⟩ = some (.int .i64 a.M) := (cell_of_row _ _ _ _ _ _ hS.g0).trans (OpV.g73 ha); have y73 : wn.cell? ⟨w.heap.size + 1, 73, none⟩ = some (.int .i64 b.M) := (cell_of_row _ _ _ _ _ _ hS.g1).trans (OpV.g73 hb)))
  go_ret
  exact ⟨ret_bool hh.out.symm, hS.below⟩
set_option maxRecDepth 100000 in
set_option maxHeartbeats 1000000 in
theorem oSame_1 (c0 : (sameV ta tb) = true) (c1 : (a.R == b.R) = false) : Calls Tryz.prog 8 #[opv a, opv b] w fun e w' => e = .returned (.bool (sameO a b ta tb)) ∧ Below w.heap.size w w' := by
  have hh : Hid (sameO a b ta tb = false) := by unfold Hid sameO; simp [c0, c1]
  have hc := fun W (hB : Below w.heap.size w W) => vSame_any ta tb W ((HA.move hB).up hB.size) ((HB.move hB).up hB.size)
  rw [← va, ← vb, c0] at hc
  have HC := Lib.hid hc
  clear hc va vb
  skip
  have hS : Sees w ((w.alloc (Obj.cells a.c 32)).alloc (Obj.cells b.c 32)) [(w.heap.size, Obj.cells a.c 32), (w.heap.size + 1, Obj.cells b.c 32)] := by
    have := ((Sees.start w).alloc (Obj.cells a.c 32)).alloc (Obj.cells b.c 32)
    simpa using this
  go_enter Tryz.func8, Tryz.ntmps8
  go_wp2_with (first | go_skip | (refine load_part rfl 23 (.tmp 11) rfl _ 0 rfl _ _ (0, 0) _ _ hS.g0 OpV.pId Tryz.underlying23 rfl (id_info _ _) ?_) | (refine load_part rfl 23 (.tmp 13) rfl _ 0 rfl _ _ (0, 0) _ _ hS.g1 OpV.pId Tryz.underlying23 rfl (id_info _ _) ?_) | (refine load_part rfl 25 (.tmp 25) rfl _ 3 rfl _ _ (0, 0) _ _ hS.g0 (OpV.pSeen ha) Tryz.underlying25 rfl (seen_info _ ha) ?_) | (refine load_part rfl 25 (.tmp 27) rfl _ 3 rfl _ _ (0, 0) _ _ hS.g1 (OpV.pSeen hb) Tryz.underlying25 rfl (seen_info _ hb) ?_) | (refine load_part rfl 23 (.tmp 39) rfl _ 68 rfl _ _ (0, 0) _ _ hS.g0 (OpV.pObj ha) Tryz.underlying23 rfl (id_info _ _) ?_) | (refine load_part rfl 23 (.tmp 41) rfl _ 68 rfl _ _ (0, 0) _ _ hS.g1 (OpV.pObj hb) Tryz.underlying23 rfl (id_info _ _) ?_) | (refine load_part rfl 23 (.tmp 53) rfl _ 71 rfl _ _ (0, 0) _ _ hS.g0 (OpV.pAt ha) Tryz.underlying23 rfl (id_info _ _) ?_) | (refine load_part rfl 23 (.tmp 55) rfl _ 71 rfl _ _ (0, 0) _ _ hS.g1 (OpV.pAt hb) Tryz.underlying23 rfl (id_info _ _) ?_) | (refine load_part rfl 30 (.tmp 5) rfl _ 74 rfl _ _ (0, 0) _ _ hS.g0 (OpV.pV ha) Tryz.underlying30 rfl (val_info _) ?_) | (refine load_part rfl 30 (.tmp 7) rfl _ 74 rfl _ _ (0, 0) _ _ hS.g1 (OpV.pV hb) Tryz.underlying30 rfl (val_info _) ?_) | (go_at_call 24; refine (HC.out _ hS.below).mono ?_; rintro e wn ⟨rfl, hbn⟩; have hS1 := hS.step hbn; clear hS hbn; have hS := hS1; clear hS1; obtain ⟨x2, x67, x70⟩ := op_cells ha hS.g0; obtain ⟨y2, y67, y70⟩ := op_cells hb hS.g1; have x73 : wn.cell? ⟨w.heap.size, 73, none⟩ = some (.int .i64 a.M) := (cell_of_row _ _ _ _ _ _ hS.g0).trans (OpV.g73 ha); have y73 : wn.cell? ⟨w.heap.size + 1, 73, none⟩ = some (.int .i64 b.M) := (cell_of_row _ _ _ _ _ _ hS.g1).trans (OpV.g73 hb)))
  go_ret
  exact ⟨ret_bool hh.out.symm, hS.below⟩
set_option maxRecDepth 100000 in
set_option maxHeartbeats 1000000 in
theorem oSame_2 (c0 : (sameV ta tb) = true) (c1 : (a.R == b.R) = true) (c2 : (a.N == b.N) = false) : Calls Tryz.prog 8 #[opv a, opv b] w fun e w' => e = .returned (.bool (sameO a b ta tb)) ∧ Below w.heap.size w w' := by
  have hh : Hid (sameO a b ta tb = false) := by unfold Hid sameO; simp [c0, c1, c2]
  have hc := fun W (hB : Below w.heap.size w W) => vSame_any ta tb W ((HA.move hB).up hB.size) ((HB.move hB).up hB.size)
  rw [← va, ← vb, c0] at hc
  have HC := Lib.hid hc
  clear hc va vb
  skip
  have hS : Sees w ((w.alloc (Obj.cells a.c 32)).alloc (Obj.cells b.c 32)) [(w.heap.size, Obj.cells a.c 32), (w.heap.size + 1, Obj.cells b.c 32)] := by
    have := ((Sees.start w).alloc (Obj.cells a.c 32)).alloc (Obj.cells b.c 32)
    simpa using this
  go_enter Tryz.func8, Tryz.ntmps8
  go_wp2_with (first | go_skip | (refine load_part rfl 23 (.tmp 11) rfl _ 0 rfl _ _ (0, 0) _ _ hS.g0 OpV.pId Tryz.underlying23 rfl (id_info _ _) ?_) | (refine load_part rfl 23 (.tmp 13) rfl _ 0 rfl _ _ (0, 0) _ _ hS.g1 OpV.pId Tryz.underlying23 rfl (id_info _ _) ?_) | (refine load_part rfl 25 (.tmp 25) rfl _ 3 rfl _ _ (0, 0) _ _ hS.g0 (OpV.pSeen ha) Tryz.underlying25 rfl (seen_info _ ha) ?_) | (refine load_part rfl 25 (.tmp 27) rfl _ 3 rfl _ _ (0, 0) _ _ hS.g1 (OpV.pSeen hb) Tryz.underlying25 rfl (seen_info _ hb) ?_) | (refine load_part rfl 23 (.tmp 39) rfl _ 68 rfl _ _ (0, 0) _ _ hS.g0 (OpV.pObj ha) Tryz.underlying23 rfl (id_info _ _) ?_) | (refine load_part rfl 23 (.tmp 41) rfl _ 68 rfl _ _ (0, 0) _ _ hS.g1 (OpV.pObj hb) Tryz.underlying23 rfl (id_info _ _) ?_) | (refine load_part rfl 23 (.tmp 53) rfl _ 71 rfl _ _ (0, 0) _ _ hS.g0 (OpV.pAt ha) Tryz.underlying23 rfl (id_info _ _) ?_) | (refine load_part rfl 23 (.tmp 55) rfl _ 71 rfl _ _ (0, 0) _ _ hS.g1 (OpV.pAt hb) Tryz.underlying23 rfl (id_info _ _) ?_) | (refine load_part rfl 30 (.tmp 5) rfl _ 74 rfl _ _ (0, 0) _ _ hS.g0 (OpV.pV ha) Tryz.underlying30 rfl (val_info _) ?_) | (refine load_part rfl 30 (.tmp 7) rfl _ 74 rfl _ _ (0, 0) _ _ hS.g1 (OpV.pV hb) Tryz.underlying30 rfl (val_info _) ?_) | (go_at_call 24; refine (HC.out _ hS.below).mono ?_; rintro e wn ⟨rfl, hbn⟩; have hS1 := hS.step hbn; clear hS hbn; have hS := hS1; clear hS1; obtain ⟨x2, x67, x70⟩ := op_cells ha hS.g0; obtain ⟨y2, y67, y70⟩ := op_cells hb hS.g1; have x73 : wn.cell? ⟨w.heap.size, 73, none⟩ = some (.int .i64 a.M) := (cell_of_row _ _ _ _ _ _ hS.g0).trans (OpV.g73 ha); have y73 : wn.cell? ⟨w.heap.size + 1, 73, none⟩ = some (.int .i64 b.M) := (cell_of_row _ _ _ _ _ _ hS.g1).trans (OpV.g73 hb)))
  go_ret
  exact ⟨ret_bool hh.out.symm, hS.below⟩
set_option maxRecDepth 100000 in
set_option maxHeartbeats 1000000 in
theorem oSame_3 (c0 : (sameV ta tb) = true) (c1 : (a.R == b.R) = true) (c2 : (a.N == b.N) = true) (c3 : (a.T == b.T) = false) : Calls Tryz.prog 8 #[opv a, opv b] w fun e w' => e = .returned (.bool (sameO a b ta tb)) ∧ Below w.heap.size w w' := by
  have hh : Hid (sameO a b ta tb = false) := by unfold Hid sameO; simp [c0, c1, c2, c3]
  have hc := fun W (hB : Below w.heap.size w W) => vSame_any ta tb W ((HA.move hB).up hB.size) ((HB.move hB).up hB.size)
  rw [← va, ← vb, c0] at hc
  have HC := Lib.hid hc
  clear hc va vb
  skip
  have hS : Sees w ((w.alloc (Obj.cells a.c 32)).alloc (Obj.cells b.c 32)) [(w.heap.size, Obj.cells a.c 32), (w.heap.size + 1, Obj.cells b.c 32)] := by
    have := ((Sees.start w).alloc (Obj.cells a.c 32)).alloc (Obj.cells b.c 32)
    simpa using this
  go_enter Tryz.func8, Tryz.ntmps8
  go_wp2_with (first | go_skip | (refine load_part rfl 23 (.tmp 11) rfl _ 0 rfl _ _ (0, 0) _ _ hS.g0 OpV.pId Tryz.underlying23 rfl (id_info _ _) ?_) | (refine load_part rfl 23 (.tmp 13) rfl _ 0 rfl _ _ (0, 0) _ _ hS.g1 OpV.pId Tryz.underlying23 rfl (id_info _ _) ?_) | (refine load_part rfl 25 (.tmp 25) rfl _ 3 rfl _ _ (0, 0) _ _ hS.g0 (OpV.pSeen ha) Tryz.underlying25 rfl (seen_info _ ha) ?_) | (refine load_part rfl 25 (.tmp 27) rfl _ 3 rfl _ _ (0, 0) _ _ hS.g1 (OpV.pSeen hb) Tryz.underlying25 rfl (seen_info _ hb) ?_) | (refine load_part rfl 23 (.tmp 39) rfl _ 68 rfl _ _ (0, 0) _ _ hS.g0 (OpV.pObj ha) Tryz.underlying23 rfl (id_info _ _) ?_) | (refine load_part rfl 23 (.tmp 41) rfl _ 68 rfl _ _ (0, 0) _ _ hS.g1 (OpV.pObj hb) Tryz.underlying23 rfl (id_info _ _) ?_) | (refine load_part rfl 23 (.tmp 53) rfl _ 71 rfl _ _ (0, 0) _ _ hS.g0 (OpV.pAt ha) Tryz.underlying23 rfl (id_info _ _) ?_) | (refine load_part rfl 23 (.tmp 55) rfl _ 71 rfl _ _ (0, 0) _ _ hS.g1 (OpV.pAt hb) Tryz.underlying23 rfl (id_info _ _) ?_) | (refine load_part rfl 30 (.tmp 5) rfl _ 74 rfl _ _ (0, 0) _ _ hS.g0 (OpV.pV ha) Tryz.underlying30 rfl (val_info _) ?_) | (refine load_part rfl 30 (.tmp 7) rfl _ 74 rfl _ _ (0, 0) _ _ hS.g1 (OpV.pV hb) Tryz.underlying30 rfl (val_info _) ?_) | (go_at_call 24; refine (HC.out _ hS.below).mono ?_; rintro e wn ⟨rfl, hbn⟩; have hS1 := hS.step hbn; clear hS hbn; have hS := hS1; clear hS1; obtain ⟨x2, x67, x70⟩ := op_cells ha hS.g0; obtain ⟨y2, y67, y70⟩ := op_cells hb hS.g1; have x73 : wn.cell? ⟨w.heap.size, 73, none⟩ = some (.int .i64 a.M) := (cell_of_row _ _ _ _ _ _ hS.g0).trans (OpV.g73 ha); have y73 : wn.cell? ⟨w.heap.size + 1, 73, none⟩ = some (.int .i64 b.M) := (cell_of_row _ _ _ _ _ _ hS.g1).trans (OpV.g73 hb)))
  go_ret
  exact ⟨ret_bool hh.out.symm, hS.below⟩
set_option maxRecDepth 100000 in
set_option maxHeartbeats 1000000 in
theorem oSame_4 (c0 : (sameV ta tb) = true) (c1 : (a.R == b.R) = true) (c2 : (a.N == b.N) = true) (c3 : (a.T == b.T) = true) (c4 : (a.seen == b.seen) = false) : Calls Tryz.prog 8 #[opv a, opv b] w fun e w' => e = .returned (.bool (sameO a b ta tb)) ∧ Below w.heap.size w w' := by
  have hh : Hid (sameO a b ta tb = false) := by unfold Hid sameO; simp [c0, c1, c2, c3, c4]
  have hc := fun W (hB : Below w.heap.size w W) => vSame_any ta tb W ((HA.move hB).up hB.size) ((HB.move hB).up hB.size)
  rw [← va, ← vb, c0] at hc
  have HC := Lib.hid hc
  clear hc va vb
  have hve : ∀ W, (binOp .eql 25 (.agg (vcells a.seen)) (.agg (vcells b.seen))).run Tryz.prog W = .ok (.bool false) W := fun W => (vec_eql W _ _ ha hb).trans (by rw [c4])
  have hS : Sees w ((w.alloc (Obj.cells a.c 32)).alloc (Obj.cells b.c 32)) [(w.heap.size, Obj.cells a.c 32), (w.heap.size + 1, Obj.cells b.c 32)] := by
    have := ((Sees.start w).alloc (Obj.cells a.c 32)).alloc (Obj.cells b.c 32)
    simpa using this
  go_enter Tryz.func8, Tryz.ntmps8
  go_wp2_with (first | go_skip | (refine load_part rfl 23 (.tmp 11) rfl _ 0 rfl _ _ (0, 0) _ _ hS.g0 OpV.pId Tryz.underlying23 rfl (id_info _ _) ?_) | (refine load_part rfl 23 (.tmp 13) rfl _ 0 rfl _ _ (0, 0) _ _ hS.g1 OpV.pId Tryz.underlying23 rfl (id_info _ _) ?_) | (refine load_part rfl 25 (.tmp 25) rfl _ 3 rfl _ _ (0, 0) _ _ hS.g0 (OpV.pSeen ha) Tryz.underlying25 rfl (seen_info _ ha) ?_) | (refine load_part rfl 25 (.tmp 27) rfl _ 3 rfl _ _ (0, 0) _ _ hS.g1 (OpV.pSeen hb) Tryz.underlying25 rfl (seen_info _ hb) ?_) | (refine load_part rfl 23 (.tmp 39) rfl _ 68 rfl _ _ (0, 0) _ _ hS.g0 (OpV.pObj ha) Tryz.underlying23 rfl (id_info _ _) ?_) | (refine load_part rfl 23 (.tmp 41) rfl _ 68 rfl _ _ (0, 0) _ _ hS.g1 (OpV.pObj hb) Tryz.underlying23 rfl (id_info _ _) ?_) | (refine load_part rfl 23 (.tmp 53) rfl _ 71 rfl _ _ (0, 0) _ _ hS.g0 (OpV.pAt ha) Tryz.underlying23 rfl (id_info _ _) ?_) | (refine load_part rfl 23 (.tmp 55) rfl _ 71 rfl _ _ (0, 0) _ _ hS.g1 (OpV.pAt hb) Tryz.underlying23 rfl (id_info _ _) ?_) | (refine load_part rfl 30 (.tmp 5) rfl _ 74 rfl _ _ (0, 0) _ _ hS.g0 (OpV.pV ha) Tryz.underlying30 rfl (val_info _) ?_) | (refine load_part rfl 30 (.tmp 7) rfl _ 74 rfl _ _ (0, 0) _ _ hS.g1 (OpV.pV hb) Tryz.underlying30 rfl (val_info _) ?_) | (go_at_call 24; refine (HC.out _ hS.below).mono ?_; rintro e wn ⟨rfl, hbn⟩; have hS1 := hS.step hbn; clear hS hbn; have hS := hS1; clear hS1; obtain ⟨x2, x67, x70⟩ := op_cells ha hS.g0; obtain ⟨y2, y67, y70⟩ := op_cells hb hS.g1; have x73 : wn.cell? ⟨w.heap.size, 73, none⟩ = some (.int .i64 a.M) := (cell_of_row _ _ _ _ _ _ hS.g0).trans (OpV.g73 ha); have y73 : wn.cell? ⟨w.heap.size + 1, 73, none⟩ = some (.int .i64 b.M) := (cell_of_row _ _ _ _ _ _ hS.g1).trans (OpV.g73 hb)))
  go_ret
  exact ⟨ret_bool hh.out.symm, hS.below⟩
set_option maxRecDepth 100000 in
set_option maxHeartbeats 1000000 in
theorem oSame_5 (c0 : (sameV ta tb) = true) (c1 : (a.R == b.R) = true) (c2 : (a.N == b.N) = true) (c3 : (a.T == b.T) = true) (c4 : (a.seen == b.seen) = true) (c5 : (a.K == b.K) = false) : Calls Tryz.prog 8 #[opv a, opv b] w fun e w' => e = .returned (.bool (sameO a b ta tb)) ∧ Below w.heap.size w w' := by
  have hh : Hid (sameO a b ta tb = false) := by unfold Hid sameO; simp [c0, c1, c2, c3, c4, c5]
  have hc := fun W (hB : Below w.heap.size w W) => vSame_any ta tb W ((HA.move hB).up hB.size) ((HB.move hB).up hB.size)
  rw [← va, ← vb, c0] at hc
  have HC := Lib.hid hc
  clear hc va vb
  have hve : ∀ W, (binOp .eql 25 (.agg (vcells a.seen)) (.agg (vcells b.seen))).run Tryz.prog W = .ok (.bool true) W := fun W => (vec_eql W _ _ ha hb).trans (by rw [c4])
  have hS : Sees w ((w.alloc (Obj.cells a.c 32)).alloc (Obj.cells b.c 32)) [(w.heap.size, Obj.cells a.c 32), (w.heap.size + 1, Obj.cells b.c 32)] := by
    have := ((Sees.start w).alloc (Obj.cells a.c 32)).alloc (Obj.cells b.c 32)
    simpa using this
  go_enter Tryz.func8, Tryz.ntmps8
  go_wp2_with (first | go_skip | (refine load_part rfl 23 (.tmp 11) rfl _ 0 rfl _ _ (0, 0) _ _ hS.g0 OpV.pId Tryz.underlying23 rfl (id_info _ _) ?_) | (refine load_part rfl 23 (.tmp 13) rfl _ 0 rfl _ _ (0, 0) _ _ hS.g1 OpV.pId Tryz.underlying23 rfl (id_info _ _) ?_) | (refine load_part rfl 25 (.tmp 25) rfl _ 3 rfl _ _ (0, 0) _ _ hS.g0 (OpV.pSeen ha) Tryz.underlying25 rfl (seen_info _ ha) ?_) | (refine load_part rfl 25 (.tmp 27) rfl _ 3 rfl _ _ (0, 0) _ _ hS.g1 (OpV.pSeen hb) Tryz.underlying25 rfl (seen_info _ hb) ?_) | (refine load_part rfl 23 (.tmp 39) rfl _ 68 rfl _ _ (0, 0) _ _ hS.g0 (OpV.pObj ha) Tryz.underlying23 rfl (id_info _ _) ?_) | (refine load_part rfl 23 (.tmp 41) rfl _ 68 rfl _ _ (0, 0) _ _ hS.g1 (OpV.pObj hb) Tryz.underlying23 rfl (id_info _ _) ?_) | (refine load_part rfl 23 (.tmp 53) rfl _ 71 rfl _ _ (0, 0) _ _ hS.g0 (OpV.pAt ha) Tryz.underlying23 rfl (id_info _ _) ?_) | (refine load_part rfl 23 (.tmp 55) rfl _ 71 rfl _ _ (0, 0) _ _ hS.g1 (OpV.pAt hb) Tryz.underlying23 rfl (id_info _ _) ?_) | (refine load_part rfl 30 (.tmp 5) rfl _ 74 rfl _ _ (0, 0) _ _ hS.g0 (OpV.pV ha) Tryz.underlying30 rfl (val_info _) ?_) | (refine load_part rfl 30 (.tmp 7) rfl _ 74 rfl _ _ (0, 0) _ _ hS.g1 (OpV.pV hb) Tryz.underlying30 rfl (val_info _) ?_) | (go_at_call 24; refine (HC.out _ hS.below).mono ?_; rintro e wn ⟨rfl, hbn⟩; have hS1 := hS.step hbn; clear hS hbn; have hS := hS1; clear hS1; obtain ⟨x2, x67, x70⟩ := op_cells ha hS.g0; obtain ⟨y2, y67, y70⟩ := op_cells hb hS.g1; have x73 : wn.cell? ⟨w.heap.size, 73, none⟩ = some (.int .i64 a.M) := (cell_of_row _ _ _ _ _ _ hS.g0).trans (OpV.g73 ha); have y73 : wn.cell? ⟨w.heap.size + 1, 73, none⟩ = some (.int .i64 b.M) := (cell_of_row _ _ _ _ _ _ hS.g1).trans (OpV.g73 hb)))
  go_ret
  exact ⟨ret_bool hh.out.symm, hS.below⟩
set_option maxRecDepth 100000 in
set_option maxHeartbeats 1000000 in
theorem oSame_6 (c0 : (sameV ta tb) = true) (c1 : (a.R == b.R) = true) (c2 : (a.N == b.N) = true) (c3 : (a.T == b.T) = true) (c4 : (a.seen == b.seen) = true) (c5 : (a.K == b.K) = true) (c6 : (a.OR == b.OR) = false) : Calls Tryz.prog 8 #[opv a, opv b] w fun e w' => e = .returned (.bool (sameO a b ta tb)) ∧ Below w.heap.size w w' := by
  have hh : Hid (sameO a b ta tb = false) := by unfold Hid sameO; simp [c0, c1, c2, c3, c4, c5, c6]
  have hc := fun W (hB : Below w.heap.size w W) => vSame_any ta tb W ((HA.move hB).up hB.size) ((HB.move hB).up hB.size)
  rw [← va, ← vb, c0] at hc
  have HC := Lib.hid hc
  clear hc va vb
  have hve : ∀ W, (binOp .eql 25 (.agg (vcells a.seen)) (.agg (vcells b.seen))).run Tryz.prog W = .ok (.bool true) W := fun W => (vec_eql W _ _ ha hb).trans (by rw [c4])
  have hS : Sees w ((w.alloc (Obj.cells a.c 32)).alloc (Obj.cells b.c 32)) [(w.heap.size, Obj.cells a.c 32), (w.heap.size + 1, Obj.cells b.c 32)] := by
    have := ((Sees.start w).alloc (Obj.cells a.c 32)).alloc (Obj.cells b.c 32)
    simpa using this
  go_enter Tryz.func8, Tryz.ntmps8
  go_wp2_with (first | go_skip | (refine load_part rfl 23 (.tmp 11) rfl _ 0 rfl _ _ (0, 0) _ _ hS.g0 OpV.pId Tryz.underlying23 rfl (id_info _ _) ?_) | (refine load_part rfl 23 (.tmp 13) rfl _ 0 rfl _ _ (0, 0) _ _ hS.g1 OpV.pId Tryz.underlying23 rfl (id_info _ _) ?_) | (refine load_part rfl 25 (.tmp 25) rfl _ 3 rfl _ _ (0, 0) _ _ hS.g0 (OpV.pSeen ha) Tryz.underlying25 rfl (seen_info _ ha) ?_) | (refine load_part rfl 25 (.tmp 27) rfl _ 3 rfl _ _ (0, 0) _ _ hS.g1 (OpV.pSeen hb) Tryz.underlying25 rfl (seen_info _ hb) ?_) | (refine load_part rfl 23 (.tmp 39) rfl _ 68 rfl _ _ (0, 0) _ _ hS.g0 (OpV.pObj ha) Tryz.underlying23 rfl (id_info _ _) ?_) | (refine load_part rfl 23 (.tmp 41) rfl _ 68 rfl _ _ (0, 0) _ _ hS.g1 (OpV.pObj hb) Tryz.underlying23 rfl (id_info _ _) ?_) | (refine load_part rfl 23 (.tmp 53) rfl _ 71 rfl _ _ (0, 0) _ _ hS.g0 (OpV.pAt ha) Tryz.underlying23 rfl (id_info _ _) ?_) | (refine load_part rfl 23 (.tmp 55) rfl _ 71 rfl _ _ (0, 0) _ _ hS.g1 (OpV.pAt hb) Tryz.underlying23 rfl (id_info _ _) ?_) | (refine load_part rfl 30 (.tmp 5) rfl _ 74 rfl _ _ (0, 0) _ _ hS.g0 (OpV.pV ha) Tryz.underlying30 rfl (val_info _) ?_) | (refine load_part rfl 30 (.tmp 7) rfl _ 74 rfl _ _ (0, 0) _ _ hS.g1 (OpV.pV hb) Tryz.underlying30 rfl (val_info _) ?_) | (go_at_call 24; refine (HC.out _ hS.below).mono ?_; rintro e wn ⟨rfl, hbn⟩; have hS1 := hS.step hbn; clear hS hbn; have hS := hS1; clear hS1; obtain ⟨x2, x67, x70⟩ := op_cells ha hS.g0; obtain ⟨y2, y67, y70⟩ := op_cells hb hS.g1; have x73 : wn.cell? ⟨w.heap.size, 73, none⟩ = some (.int .i64 a.M) := (cell_of_row _ _ _ _ _ _ hS.g0).trans (OpV.g73 ha); have y73 : wn.cell? ⟨w.heap.size + 1, 73, none⟩ = some (.int .i64 b.M) := (cell_of_row _ _ _ _ _ _ hS.g1).trans (OpV.g73 hb)))
  go_ret
  exact ⟨ret_bool hh.out.symm, hS.below⟩
set_option maxRecDepth 100000 in
set_option maxHeartbeats 1000000 in
theorem oSame_7 (c0 : (sameV ta tb) = true) (c1 : (a.R == b.R) = true) (c2 : (a.N == b.N) = true) (c3 : (a.T == b.T) = true) (c4 : (a.seen == b.seen) = true) (c5 : (a.K == b.K) = true) (c6 : (a.OR == b.OR) = true) (c7 : (a.ON == b.ON) = false) : Calls Tryz.prog 8 #[opv a, opv b] w fun e w' => e = .returned (.bool (sameO a b ta tb)) ∧ Below w.heap.size w w' := by
  have hh : Hid (sameO a b ta tb = false) := by unfold Hid sameO; simp [c0, c1, c2, c3, c4, c5, c6, c7]
  have hc := fun W (hB : Below w.heap.size w W) => vSame_any ta tb W ((HA.move hB).up hB.size) ((HB.move hB).up hB.size)
  rw [← va, ← vb, c0] at hc
  have HC := Lib.hid hc
  clear hc va vb
  have hve : ∀ W, (binOp .eql 25 (.agg (vcells a.seen)) (.agg (vcells b.seen))).run Tryz.prog W = .ok (.bool true) W := fun W => (vec_eql W _ _ ha hb).trans (by rw [c4])
  have hS : Sees w ((w.alloc (Obj.cells a.c 32)).alloc (Obj.cells b.c 32)) [(w.heap.size, Obj.cells a.c 32), (w.heap.size + 1, Obj.cells b.c 32)] := by
    have := ((Sees.start w).alloc (Obj.cells a.c 32)).alloc (Obj.cells b.c 32)
    simpa using this
  go_enter Tryz.func8, Tryz.ntmps8
  go_wp2_with (first | go_skip | (refine load_part rfl 23 (.tmp 11) rfl _ 0 rfl _ _ (0, 0) _ _ hS.g0 OpV.pId Tryz.underlying23 rfl (id_info _ _) ?_) | (refine load_part rfl 23 (.tmp 13) rfl _ 0 rfl _ _ (0, 0) _ _ hS.g1 OpV.pId Tryz.underlying23 rfl (id_info _ _) ?_) | (refine load_part rfl 25 (.tmp 25) rfl _ 3 rfl _ _ (0, 0) _ _ hS.g0 (OpV.pSeen ha) Tryz.underlying25 rfl (seen_info _ ha) ?_) | (refine load_part rfl 25 (.tmp 27) rfl _ 3 rfl _ _ (0, 0) _ _ hS.g1 (OpV.pSeen hb) Tryz.underlying25 rfl (seen_info _ hb) ?_) | (refine load_part rfl 23 (.tmp 39) rfl _ 68 rfl _ _ (0, 0) _ _ hS.g0 (OpV.pObj ha) Tryz.underlying23 rfl (id_info _ _) ?_) | (refine load_part rfl 23 (.tmp 41) rfl _ 68 rfl _ _ (0, 0) _ _ hS.g1 (OpV.pObj hb) Tryz.underlying23 rfl (id_info _ _) ?_) | (refine load_part rfl 23 (.tmp 53) rfl _ 71 rfl _ _ (0, 0) _ _ hS.g0 (OpV.pAt ha) Tryz.underlying23 rfl (id_info _ _) ?_) | (refine load_part rfl 23 (.tmp 55) rfl _ 71 rfl _ _ (0, 0) _ _ hS.g1 (OpV.pAt hb) Tryz.underlying23 rfl (id_info _ _) ?_) | (refine load_part rfl 30 (.tmp 5) rfl _ 74 rfl _ _ (0, 0) _ _ hS.g0 (OpV.pV ha) Tryz.underlying30 rfl (val_info _) ?_) | (refine load_part rfl 30 (.tmp 7) rfl _ 74 rfl _ _ (0, 0) _ _ hS.g1 (OpV.pV hb) Tryz.underlying30 rfl (val_info _) ?_) | (go_at_call 24; refine (HC.out _ hS.below).mono ?_; rintro e wn ⟨rfl, hbn⟩; have hS1 := hS.step hbn; clear hS hbn; have hS := hS1; clear hS1; obtain ⟨x2, x67, x70⟩ := op_cells ha hS.g0; obtain ⟨y2, y67, y70⟩ := op_cells hb hS.g1; have x73 : wn.cell? ⟨w.heap.size, 73, none⟩ = some (.int .i64 a.M) := (cell_of_row _ _ _ _ _ _ hS.g0).trans (OpV.g73 ha); have y73 : wn.cell? ⟨w.heap.size + 1, 73, none⟩ = some (.int .i64 b.M) := (cell_of_row _ _ _ _ _ _ hS.g1).trans (OpV.g73 hb)))
  go_ret
  exact ⟨ret_bool hh.out.symm, hS.below⟩
set_option maxRecDepth 100000 in
set_option maxHeartbeats 1000000 in
theorem oSame_8 (c0 : (sameV ta tb) = true) (c1 : (a.R == b.R) = true) (c2 : (a.N == b.N) = true) (c3 : (a.T == b.T) = true) (c4 : (a.seen == b.seen) = true) (c5 : (a.K == b.K) = true) (c6 : (a.OR == b.OR) = true) (c7 : (a.ON == b.ON) = true) (c8 : (a.key.toList == b.key.toList) = false) : Calls Tryz.prog 8 #[opv a, opv b] w fun e w' => e = .returned (.bool (sameO a b ta tb)) ∧ Below w.heap.size w w' := by
  have hh : Hid (sameO a b ta tb = false) := by unfold Hid sameO; simp [c0, c1, c2, c3, c4, c5, c6, c7, c8]
  have hc := fun W (hB : Below w.heap.size w W) => vSame_any ta tb W ((HA.move hB).up hB.size) ((HB.move hB).up hB.size)
  rw [← va, ← vb, c0] at hc
  have HC := Lib.hid hc
  clear hc va vb
  have hve : ∀ W, (binOp .eql 25 (.agg (vcells a.seen)) (.agg (vcells b.seen))).run Tryz.prog W = .ok (.bool true) W := fun W => (vec_eql W _ _ ha hb).trans (by rw [c4])
  have hS : Sees w ((w.alloc (Obj.cells a.c 32)).alloc (Obj.cells b.c 32)) [(w.heap.size, Obj.cells a.c 32), (w.heap.size + 1, Obj.cells b.c 32)] := by
    have := ((Sees.start w).alloc (Obj.cells a.c 32)).alloc (Obj.cells b.c 32)
    simpa using this
  go_enter Tryz.func8, Tryz.ntmps8
  go_wp2_with (first | go_skip | (refine load_part rfl 23 (.tmp 11) rfl _ 0 rfl _ _ (0, 0) _ _ hS.g0 OpV.pId Tryz.underlying23 rfl (id_info _ _) ?_) | (refine load_part rfl 23 (.tmp 13) rfl _ 0 rfl _ _ (0, 0) _ _ hS.g1 OpV.pId Tryz.underlying23 rfl (id_info _ _) ?_) | (refine load_part rfl 25 (.tmp 25) rfl _ 3 rfl _ _ (0, 0) _ _ hS.g0 (OpV.pSeen ha) Tryz.underlying25 rfl (seen_info _ ha) ?_) | (refine load_part rfl 25 (.tmp 27) rfl _ 3 rfl _ _ (0, 0) _ _ hS.g1 (OpV.pSeen hb) Tryz.underlying25 rfl (seen_info _ hb) ?_) | (refine load_part rfl 23 (.tmp 39) rfl _ 68 rfl _ _ (0, 0) _ _ hS.g0 (OpV.pObj ha) Tryz.underlying23 rfl (id_info _ _) ?_) | (refine load_part rfl 23 (.tmp 41) rfl _ 68 rfl _ _ (0, 0) _ _ hS.g1 (OpV.pObj hb) Tryz.underlying23 rfl (id_info _ _) ?_) | (refine load_part rfl 23 (.tmp 53) rfl _ 71 rfl _ _ (0, 0) _ _ hS.g0 (OpV.pAt ha) Tryz.underlying23 rfl (id_info _ _) ?_) | (refine load_part rfl 23 (.tmp 55) rfl _ 71 rfl _ _ (0, 0) _ _ hS.g1 (OpV.pAt hb) Tryz.underlying23 rfl (id_info _ _) ?_) | (refine load_part rfl 30 (.tmp 5) rfl _ 74 rfl _ _ (0, 0) _ _ hS.g0 (OpV.pV ha) Tryz.underlying30 rfl (val_info _) ?_) | (refine load_part rfl 30 (.tmp 7) rfl _ 74 rfl _ _ (0, 0) _ _ hS.g1 (OpV.pV hb) Tryz.underlying30 rfl (val_info _) ?_) | (go_at_call 24; refine (HC.out _ hS.below).mono ?_; rintro e wn ⟨rfl, hbn⟩; have hS1 := hS.step hbn; clear hS hbn; have hS := hS1; clear hS1; obtain ⟨x2, x67, x70⟩ := op_cells ha hS.g0; obtain ⟨y2, y67, y70⟩ := op_cells hb hS.g1; have x73 : wn.cell? ⟨w.heap.size, 73, none⟩ = some (.int .i64 a.M) := (cell_of_row _ _ _ _ _ _ hS.g0).trans (OpV.g73 ha); have y73 : wn.cell? ⟨w.heap.size + 1, 73, none⟩ = some (.int .i64 b.M) := (cell_of_row _ _ _ _ _ _ hS.g1).trans (OpV.g73 hb)))
  go_ret
  exact ⟨ret_bool hh.out.symm, hS.below⟩
set_option maxRecDepth 100000 in
set_option maxHeartbeats 1000000 in
theorem oSame_9 (c0 : (sameV ta tb) = true) (c1 : (a.R == b.R) = true) (c2 : (a.N == b.N) = true) (c3 : (a.T == b.T) = true) (c4 : (a.seen == b.seen) = true) (c5 : (a.K == b.K) = true) (c6 : (a.OR == b.OR) = true) (c7 : (a.ON == b.ON) = true) (c8 : (a.key.toList == b.key.toList) = true) (c9 : (a.AR == b.AR) = false) : Calls Tryz.prog 8 #[opv a, opv b] w fun e w' => e = .returned (.bool (sameO a b ta tb)) ∧ Below w.heap.size w w' := by
  have hh : Hid (sameO a b ta tb = false) := by unfold Hid sameO; simp [c0, c1, c2, c3, c4, c5, c6, c7, c8, c9]
  have hc := fun W (hB : Below w.heap.size w W) => vSame_any ta tb W ((HA.move hB).up hB.size) ((HB.move hB).up hB.size)
  rw [← va, ← vb, c0] at hc
  have HC := Lib.hid hc
  clear hc va vb
  have hve : ∀ W, (binOp .eql 25 (.agg (vcells a.seen)) (.agg (vcells b.seen))).run Tryz.prog W = .ok (.bool true) W := fun W => (vec_eql W _ _ ha hb).trans (by rw [c4])
  have hS : Sees w ((w.alloc (Obj.cells a.c 32)).alloc (Obj.cells b.c 32)) [(w.heap.size, Obj.cells a.c 32), (w.heap.size + 1, Obj.cells b.c 32)] := by
    have := ((Sees.start w).alloc (Obj.cells a.c 32)).alloc (Obj.cells b.c 32)
    simpa using this
  go_enter Tryz.func8, Tryz.ntmps8
  go_wp2_with (first | go_skip | (refine load_part rfl 23 (.tmp 11) rfl _ 0 rfl _ _ (0, 0) _ _ hS.g0 OpV.pId Tryz.underlying23 rfl (id_info _ _) ?_) | (refine load_part rfl 23 (.tmp 13) rfl _ 0 rfl _ _ (0, 0) _ _ hS.g1 OpV.pId Tryz.underlying23 rfl (id_info _ _) ?_) | (refine load_part rfl 25 (.tmp 25) rfl _ 3 rfl _ _ (0, 0) _ _ hS.g0 (OpV.pSeen ha) Tryz.underlying25 rfl (seen_info _ ha) ?_) | (refine load_part rfl 25 (.tmp 27) rfl _ 3 rfl _ _ (0, 0) _ _ hS.g1 (OpV.pSeen hb) Tryz.underlying25 rfl (seen_info _ hb) ?_) | (refine load_part rfl 23 (.tmp 39) rfl _ 68 rfl _ _ (0, 0) _ _ hS.g0 (OpV.pObj ha) Tryz.underlying23 rfl (id_info _ _) ?_) | (refine load_part rfl 23 (.tmp 41) rfl _ 68 rfl _ _ (0, 0) _ _ hS.g1 (OpV.pObj hb) Tryz.underlying23 rfl (id_info _ _) ?_) | (refine load_part rfl 23 (.tmp 53) rfl _ 71 rfl _ _ (0, 0) _ _ hS.g0 (OpV.pAt ha) Tryz.underlying23 rfl (id_info _ _) ?_) | (refine load_part rfl 23 (.tmp 55) rfl _ 71 rfl _ _ (0, 0) _ _ hS.g1 (OpV.pAt hb) Tryz.underlying23 rfl (id_info _ _) ?_) | (refine load_part rfl 30 (.tmp 5) rfl _ 74 rfl _ _ (0, 0) _ _ hS.g0 (OpV.pV ha) Tryz.underlying30 rfl (val_info _) ?_) | (refine load_part rfl 30 (.tmp 7) rfl _ 74 rfl _ _ (0, 0) _ _ hS.g1 (OpV.pV hb) Tryz.underlying30 rfl (val_info _) ?_) | (go_at_call 24; refine (HC.out _ hS.below).mono ?_; rintro e wn ⟨rfl, hbn⟩; have hS1 := hS.step hbn; clear hS hbn; have hS := hS1; clear hS1; obtain ⟨x2, x67, x70⟩ := op_cells ha hS.g0; obtain ⟨y2, y67, y70⟩ := op_cells hb hS.g1; have x73 : wn.cell? ⟨w.heap.size, 73, none⟩ = some (.int .i64 a.M) := (cell_of_row _ _ _ _ _ _ hS.g0).trans (OpV.g73 ha); have y73 : wn.cell? ⟨w.heap.size + 1, 73, none⟩ = some (.int .i64 b.M) := (cell_of_row _ _ _ _ _ _ hS.g1).trans (OpV.g73 hb)))
  go_ret
  exact ⟨ret_bool hh.out.symm, hS.below⟩
set_option maxRecDepth 100000 in
set_option maxHeartbeats 1000000 in
theorem oSame_10 (c0 : (sameV ta tb) = true) (c1 : (a.R == b.R) = true) (c2 : (a.N == b.N) = true) (c3 : (a.T == b.T) = true) (c4 : (a.seen == b.seen) = true) (c5 : (a.K == b.K) = true) (c6 : (a.OR == b.OR) = true) (c7 : (a.ON == b.ON) = true) (c8 : (a.key.toList == b.key.toList) = true) (c9 : (a.AR == b.AR) = true) (c10 : (a.AN == b.AN) = false) : Calls Tryz.prog 8 #[opv a, opv b] w fun e w' => e = .returned (.bool (sameO a b ta tb)) ∧ Below w.heap.size w w' := by
  have hh : Hid (sameO a b ta tb = false) := by unfold Hid sameO; simp [c0, c1, c2, c3, c4, c5, c6, c7, c8, c9, c10]
  have hc := fun W (hB : Below w.heap.size w W) => vSame_any ta tb W ((HA.move hB).up hB.size) ((HB.move hB).up hB.size)
  rw [← va, ← vb, c0] at hc
  have HC := Lib.hid hc
  clear hc va vb
  have hve : ∀ W, (binOp .eql 25 (.agg (vcells a.seen)) (.agg (vcells b.seen))).run Tryz.prog W = .ok (.bool true) W := fun W => (vec_eql W _ _ ha hb).trans (by rw [c4])
  have hS : Sees w ((w.alloc (Obj.cells a.c 32)).alloc (Obj.cells b.c 32)) [(w.heap.size, Obj.cells a.c 32), (w.heap.size + 1, Obj.cells b.c 32)] := by
    have := ((Sees.start w).alloc (Obj.cells a.c 32)).alloc (Obj.cells b.c 32)
    simpa using this
  go_enter Tryz.func8, Tryz.ntmps8
  go_wp2_with (first | go_skip | (refine load_part rfl 23 (.tmp 11) rfl _ 0 rfl _ _ (0, 0) _ _ hS.g0 OpV.pId Tryz.underlying23 rfl (id_info _ _) ?_) | (refine load_part rfl 23 (.tmp 13) rfl _ 0 rfl _ _ (0, 0) _ _ hS.g1 OpV.pId Tryz.underlying23 rfl (id_info _ _) ?_) | (refine load_part rfl 25 (.tmp 25) rfl _ 3 rfl _ _ (0, 0) _ _ hS.g0 (OpV.pSeen ha) Tryz.underlying25 rfl (seen_info _ ha) ?_) | (refine load_part rfl 25 (.tmp 27) rfl _ 3 rfl _ _ (0, 0) _ _ hS.g1 (OpV.pSeen hb) Tryz.underlying25 rfl (seen_info _ hb) ?_) | (refine load_part rfl 23 (.tmp 39) rfl _ 68 rfl _ _ (0, 0) _ _ hS.g0 (OpV.pObj ha) Tryz.underlying23 rfl (id_info _ _) ?_) | (refine load_part rfl 23 (.tmp 41) rfl _ 68 rfl _ _ (0, 0) _ _ hS.g1 (OpV.pObj hb) Tryz.underlying23 rfl (id_info _ _) ?_) | (refine load_part rfl 23 (.tmp 53) rfl _ 71 rfl _ _ (0, 0) _ _ hS.g0 (OpV.pAt ha) Tryz.underlying23 rfl (id_info _ _) ?_) | (refine load_part rfl 23 (.tmp 55) rfl _ 71 rfl _ _ (0, 0) _ _ hS.g1 (OpV.pAt hb) Tryz.underlying23 rfl (id_info _ _) ?_) | (refine load_part rfl 30 (.tmp 5) rfl _ 74 rfl _ _ (0, 0) _ _ hS.g0 (OpV.pV ha) Tryz.underlying30 rfl (val_info _) ?_) | (refine load_part rfl 30 (.tmp 7) rfl _ 74 rfl _ _ (0, 0) _ _ hS.g1 (OpV.pV hb) Tryz.underlying30 rfl (val_info _) ?_) | (go_at_call 24; refine (HC.out _ hS.below).mono ?_; rintro e wn ⟨rfl, hbn⟩; have hS1 := hS.step hbn; clear hS hbn; have hS := hS1; clear hS1; obtain ⟨x2, x67, x70⟩ := op_cells ha hS.g0; obtain ⟨y2, y67, y70⟩ := op_cells hb hS.g1; have x73 : wn.cell? ⟨w.heap.size, 73, none⟩ = some (.int .i64 a.M) := (cell_of_row _ _ _ _ _ _ hS.g0).trans (OpV.g73 ha); have y73 : wn.cell? ⟨w.heap.size + 1, 73, none⟩ = some (.int .i64 b.M) := (cell_of_row _ _ _ _ _ _ hS.g1).trans (OpV.g73 hb)))
  go_ret
  exact ⟨ret_bool hh.out.symm, hS.below⟩
set_option maxRecDepth 100000 in
set_option maxHeartbeats 1000000 in
theorem oSame_11 (c0 : (sameV ta tb) = true) (c1 : (a.R == b.R) = true) (c2 : (a.N == b.N) = true) (c3 : (a.T == b.T) = true) (c4 : (a.seen == b.seen) = true) (c5 : (a.K == b.K) = true) (c6 : (a.OR == b.OR) = true) (c7 : (a.ON == b.ON) = true) (c8 : (a.key.toList == b.key.toList) = true) (c9 : (a.AR == b.AR) = true) (c10 : (a.AN == b.AN) = true) (c11 : (a.M == b.M) = false) : Calls Tryz.prog 8 #[opv a, opv b] w fun e w' => e = .returned (.bool (sameO a b ta tb)) ∧ Below w.heap.size w w' := by
  have hh : Hid (sameO a b ta tb = false) := by unfold Hid sameO; simp [c0, c1, c2, c3, c4, c5, c6, c7, c8, c9, c10, c11]
  have hc := fun W (hB : Below w.heap.size w W) => vSame_any ta tb W ((HA.move hB).up hB.size) ((HB.move hB).up hB.size)
  rw [← va, ← vb, c0] at hc
  have HC := Lib.hid hc
  clear hc va vb
  have hve : ∀ W, (binOp .eql 25 (.agg (vcells a.seen)) (.agg (vcells b.seen))).run Tryz.prog W = .ok (.bool true) W := fun W => (vec_eql W _ _ ha hb).trans (by rw [c4])
  have hS : Sees w ((w.alloc (Obj.cells a.c 32)).alloc (Obj.cells b.c 32)) [(w.heap.size, Obj.cells a.c 32), (w.heap.size + 1, Obj.cells b.c 32)] := by
    have := ((Sees.start w).alloc (Obj.cells a.c 32)).alloc (Obj.cells b.c 32)
    simpa using this
  go_enter Tryz.func8, Tryz.ntmps8
  go_wp2_with (first | go_skip | (refine load_part rfl 23 (.tmp 11) rfl _ 0 rfl _ _ (0, 0) _ _ hS.g0 OpV.pId Tryz.underlying23 rfl (id_info _ _) ?_) | (refine load_part rfl 23 (.tmp 13) rfl _ 0 rfl _ _ (0, 0) _ _ hS.g1 OpV.pId Tryz.underlying23 rfl (id_info _ _) ?_) | (refine load_part rfl 25 (.tmp 25) rfl _ 3 rfl _ _ (0, 0) _ _ hS.g0 (OpV.pSeen ha) Tryz.underlying25 rfl (seen_info _ ha) ?_) | (refine load_part rfl 25 (.tmp 27) rfl _ 3 rfl _ _ (0, 0) _ _ hS.g1 (OpV.pSeen hb) Tryz.underlying25 rfl (seen_info _ hb) ?_) | (refine load_part rfl 23 (.tmp 39) rfl _ 68 rfl _ _ (0, 0) _ _ hS.g0 (OpV.pObj ha) Tryz.underlying23 rfl (id_info _ _) ?_) | (refine load_part rfl 23 (.tmp 41) rfl _ 68 rfl _ _ (0, 0) _ _ hS.g1 (OpV.pObj hb) Tryz.underlying23 rfl (id_info _ _) ?_) | (refine load_part rfl 23 (.tmp 53) rfl _ 71 rfl _ _ (0, 0) _ _ hS.g0 (OpV.pAt ha) Tryz.underlying23 rfl (id_info _ _) ?_) | (refine load_part rfl 23 (.tmp 55) rfl _ 71 rfl _ _ (0, 0) _ _ hS.g1 (OpV.pAt hb) Tryz.underlying23 rfl (id_info _ _) ?_) | (refine load_part rfl 30 (.tmp 5) rfl _ 74 rfl _ _ (0, 0) _ _ hS.g0 (OpV.pV ha) Tryz.underlying30 rfl (val_info _) ?_) | (refine load_part rfl 30 (.tmp 7) rfl _ 74 rfl _ _ (0, 0) _ _ hS.g1 (OpV.pV hb) Tryz.underlying30 rfl (val_info _) ?_) | (go_at_call 24; refine (HC.out _ hS.below).mono ?_; rintro e wn ⟨rfl, hbn⟩; have hS1 := hS.step hbn; clear hS hbn; have hS := hS1; clear hS1; obtain ⟨x2, x67, x70⟩ := op_cells ha hS.g0; obtain ⟨y2, y67, y70⟩ := op_cells hb hS.g1; have x73 : wn.cell? ⟨w.heap.size, 73, none⟩ = some (.int .i64 a.M) := (cell_of_row _ _ _ _ _ _ hS.g0).trans (OpV.g73 ha); have y73 : wn.cell? ⟨w.heap.size + 1, 73, none⟩ = some (.int .i64 b.M) := (cell_of_row _ _ _ _ _ _ hS.g1).trans (OpV.g73 hb)))
  go_ret
  exact ⟨ret_bool hh.out.symm, hS.below⟩
set_option maxRecDepth 100000 in
set_option maxHeartbeats 1000000 in
theorem oSame_12 (c0 : (sameV ta tb) = true) (c1 : (a.R == b.R) = true) (c2 : (a.N == b.N) = true) (c3 : (a.T == b.T) = true) (c4 : (a.seen == b.seen) = true) (c5 : (a.K == b.K) = true) (c6 : (a.OR == b.OR) = true) (c7 : (a.ON == b.ON) = true) (c8 : (a.key.toList == b.key.toList) = true) (c9 : (a.AR == b.AR) = true) (c10 : (a.AN == b.AN) = true) (c11 : (a.M == b.M) = true) : Calls Tryz.prog 8 #[opv a, opv b] w fun e w' => e = .returned (.bool (sameO a b ta tb)) ∧ Below w.heap.size w w' := by
  have hh : Hid (sameO a b ta tb = true) := by unfold Hid sameO; simp [c0, c1, c2, c3, c4, c5, c6, c7, c8, c9, c10, c11]
  have hc := fun W (hB : Below w.heap.size w W) => vSame_any ta tb W ((HA.move hB).up hB.size) ((HB.move hB).up hB.size)
  rw [← va, ← vb, c0] at hc
  have HC := Lib.hid hc
  clear hc va vb
  have hve : ∀ W, (binOp .eql 25 (.agg (vcells a.seen)) (.agg (vcells b.seen))).run Tryz.prog W = .ok (.bool true) W := fun W => (vec_eql W _ _ ha hb).trans (by rw [c4])
  have hS : Sees w ((w.alloc (Obj.cells a.c 32)).alloc (Obj.cells b.c 32)) [(w.heap.size, Obj.cells a.c 32), (w.heap.size + 1, Obj.cells b.c 32)] := by
    have := ((Sees.start w).alloc (Obj.cells a.c 32)).alloc (Obj.cells b.c 32)
    simpa using this
  go_enter Tryz.func8, Tryz.ntmps8
  go_wp2_with (first | go_skip | (refine load_part rfl 23 (.tmp 11) rfl _ 0 rfl _ _ (0, 0) _ _ hS.g0 OpV.pId Tryz.underlying23 rfl (id_info _ _) ?_) | (refine load_part rfl 23 (.tmp 13) rfl _ 0 rfl _ _ (0, 0) _ _ hS.g1 OpV.pId Tryz.underlying23 rfl (id_info _ _) ?_) | (refine load_part rfl 25 (.tmp 25) rfl _ 3 rfl _ _ (0, 0) _ _ hS.g0 (OpV.pSeen ha) Tryz.underlying25 rfl (seen_info _ ha) ?_) | (refine load_part rfl 25 (.tmp 27) rfl _ 3 rfl _ _ (0, 0) _ _ hS.g1 (OpV.pSeen hb) Tryz.underlying25 rfl (seen_info _ hb) ?_) | (refine load_part rfl 23 (.tmp 39) rfl _ 68 rfl _ _ (0, 0) _ _ hS.g0 (OpV.pObj ha) Tryz.underlying23 rfl (id_info _ _) ?_) | (refine load_part rfl 23 (.tmp 41) rfl _ 68 rfl _ _ (0, 0) _ _ hS.g1 (OpV.pObj hb) Tryz.underlying23 rfl (id_info _ _) ?_) | (refine load_part rfl 23 (.tmp 53) rfl _ 71 rfl _ _ (0, 0) _ _ hS.g0 (OpV.pAt ha) Tryz.underlying23 rfl (id_info _ _) ?_) | (refine load_part rfl 23 (.tmp 55) rfl _ 71 rfl _ _ (0, 0) _ _ hS.g1 (OpV.pAt hb) Tryz.underlying23 rfl (id_info _ _) ?_) | (refine load_part rfl 30 (.tmp 5) rfl _ 74 rfl _ _ (0, 0) _ _ hS.g0 (OpV.pV ha) Tryz.underlying30 rfl (val_info _) ?_) | (refine load_part rfl 30 (.tmp 7) rfl _ 74 rfl _ _ (0, 0) _ _ hS.g1 (OpV.pV hb) Tryz.underlying30 rfl (val_info _) ?_) | (go_at_call 24; refine (HC.out _ hS.below).mono ?_; rintro e wn ⟨rfl, hbn⟩; have hS1 := hS.step hbn; clear hS hbn; have hS := hS1; clear hS1; obtain ⟨x2, x67, x70⟩ := op_cells ha hS.g0; obtain ⟨y2, y67, y70⟩ := op_cells hb hS.g1; have x73 : wn.cell? ⟨w.heap.size, 73, none⟩ = some (.int .i64 a.M) := (cell_of_row _ _ _ _ _ _ hS.g0).trans (OpV.g73 ha); have y73 : wn.cell? ⟨w.heap.size + 1, 73, none⟩ = some (.int .i64 b.M) := (cell_of_row _ _ _ _ _ _ hS.g1).trans (OpV.g73 hb)))
  go_ret
  exact ⟨ret_bool hh.out.symm, hS.below⟩
theorem oSame_any : Calls Tryz.prog 8 #[opv a, opv b] w fun e w' => e = .returned (.bool (sameO a b ta tb)) ∧ Below w.heap.size w w' := by
  by_cases c0' : (sameV ta tb) = true
  case neg =>
    have c0 : (sameV ta tb) = false := by simpa using c0'
    exact oSame_0 a b ta tb w ha hb va vb HA HB c0
  have c0 := c0'
  by_cases c1' : (a.R == b.R) = true
  case neg =>
    have c1 : (a.R == b.R) = false := by simpa using c1'
    exact oSame_1 a b ta tb w ha hb va vb HA HB c0 c1
  have c1 := c1'
  by_cases c2' : (a.N == b.N) = true
  case neg =>
    have c2 : (a.N == b.N) = false := by simpa using c2'
    exact oSame_2 a b ta tb w ha hb va vb HA HB c0 c1 c2
  have c2 := c2'
  by_cases c3' : (a.T == b.T) = true
  case neg =>
    have c3 : (a.T == b.T) = false := by simpa using c3'
    exact oSame_3 a b ta tb w ha hb va vb HA HB c0 c1 c2 c3
  have c3 := c3'
  by_cases c4' : (a.seen == b.seen) = true
  case neg =>
    have c4 : (a.seen == b.seen) = false := by simpa using c4'
    exact oSame_4 a b ta tb w ha hb va vb HA HB c0 c1 c2 c3 c4
  have c4 := c4'
  by_cases c5' : (a.K == b.K) = true
  case neg =>
    have c5 : (a.K == b.K) = false := by simpa using c5'
    exact oSame_5 a b ta tb w ha hb va vb HA HB c0 c1 c2 c3 c4 c5
  have c5 := c5'
  by_cases c6' : (a.OR == b.OR) = true
  case neg =>
    have c6 : (a.OR == b.OR) = false := by simpa using c6'
    exact oSame_6 a b ta tb w ha hb va vb HA HB c0 c1 c2 c3 c4 c5 c6
  have c6 := c6'
  by_cases c7' : (a.ON == b.ON) = true
  case neg =>
    have c7 : (a.ON == b.ON) = false := by simpa using c7'
    exact oSame_7 a b ta tb w ha hb va vb HA HB c0 c1 c2 c3 c4 c5 c6 c7
  have c7 := c7'
  by_cases c8' : (a.key.toList == b.key.toList) = true
  case neg =>
    have c8 : (a.key.toList == b.key.toList) = false := by simpa using c8'
    exact oSame_8 a b ta tb w ha hb va vb HA HB c0 c1 c2 c3 c4 c5 c6 c7 c8
  have c8 := c8'
  by_cases c9' : (a.AR == b.AR) = true
  case neg =>
    have c9 : (a.AR == b.AR) = false := by simpa using c9'
    exact oSame_9 a b ta tb w ha hb va vb HA HB c0 c1 c2 c3 c4 c5 c6 c7 c8 c9
  have c9 := c9'
  by_cases c10' : (a.AN == b.AN) = true
  case neg =>
    have c10 : (a.AN == b.AN) = false := by simpa using c10'
    exact oSame_10 a b ta tb w ha hb va vb HA HB c0 c1 c2 c3 c4 c5 c6 c7 c8 c9 c10
  have c10 := c10'
  by_cases c11' : (a.M == b.M) = true
  case neg =>
    have c11 : (a.M == b.M) = false := by simpa using c11'
    exact oSame_11 a b ta tb w ha hb va vb HA HB c0 c1 c2 c3 c4 c5 c6 c7 c8 c9 c10 c11
  have c11 := c11'
  exact oSame_12 a b ta tb w ha hb va vb HA HB c0 c1 c2 c3 c4 c5 c6 c7 c8 c9 c10 c11
end
end Go.Proofs.YtjjiiaclgacfiaaGreatDoor
