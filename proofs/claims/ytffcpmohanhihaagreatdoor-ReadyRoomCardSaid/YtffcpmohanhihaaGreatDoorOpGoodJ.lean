/-
  ops.Good tells what is written here. Condition: what value.Good, ops.zero tell of the operation's value, and utf.Valid of its key, is known; 64 numbers in a vector.
-/
import Derived.Test.YtffcpmohanhihaaGreatDoorJ10
namespace Go.Proofs.YtffcpmohanhihaaGreatDoor
open Go.RowKit
set_option linter.unusedVariables false
set_option linter.unusedSimpArgs false
set_option linter.unusedSectionVars false
def opB (o : OpV) (vg vz kv : Bool) : Bool :=
  goodB o.R o.N && decide (1 ≤ o.T) && seenB o && makesB o vg vz &&
    (if o.K == 1 || o.K == 2 then kv && decide (o.key.size ≤ 4096) && (o.AR == 0 && o.AN == 0) && namedB o o.OR o.ON true
     else if o.K == 3 || o.K == 4 then o.key.toList.isEmpty && namedB o o.OR o.ON false && namedB o o.AR o.AN (o.K == 3) else false)
theorem op_info (o : OpV) (h : o.seen.length = 64) : (Tryz.prog.info? 40).map (·.size) = some o.c.size := by
  rw [OpV.size h]; kernel_rfl
theorem id_info (r n : Int) : (Tryz.prog.info? 31).map (·.size) = some (#[Value.int .i64 r, .int .i64 n] : Array Value).size := by kernel_rfl
theorem op_cells {W : World} {b : Nat} {o : OpV} (ho : o.seen.length = 64) (h : W.heap[b]? = some (.cells o.c 40 (0, 0))) :
    W.cell? ⟨b, 2, none⟩ = some (.int .i64 o.T) ∧ W.cell? ⟨b, 67, none⟩ = some (.int .i64 o.K) ∧ W.cell? ⟨b, 70, none⟩ = some (.string o.key) := by
  refine ⟨?_, ?_, ?_⟩ <;> rw [cell_of_row _ _ _ _ _ _ h]
  · exact OpV.g2
  · exact OpV.g67 ho
  · exact OpV.g70 ho
section
variable (o : OpV) (vg vz kv : Bool) (w : World) (ho : o.seen.length = 64)
  (HG : Hid (∀ W, Below w.heap.size w W → Calls Tryz.prog 95 #[.agg o.vc] W fun e w' => e = .returned (.bool vg) ∧ Below W.heap.size W w'))
  (HZ : Hid (∀ W, Below w.heap.size w W → Calls Tryz.prog 96 #[.agg o.vc] W fun e w' => e = .returned (.bool vz) ∧ Below W.heap.size W w'))
  (HV : Hid (∀ W, Below w.heap.size w W → Calls Tryz.prog 70 #[.string o.key] W fun e w' => (∃ n, e = .returned (.tuple #[.int .i64 n, .bool kv])) ∧ Below W.heap.size W w'))
include ho HG HZ HV
set_option maxRecDepth 100000 in
set_option maxHeartbeats 1000000 in
theorem oGood_1 (h1 : goodB o.R o.N = false) : Calls Tryz.prog 41 #[opv o] w fun e w' => e = .returned (.bool (opB o vg vz kv)) ∧ Below w.heap.size w w' := by
  have hh : Hid (opB o vg vz kv = false) := by unfold Hid opB; simp [h1]
  have hS : Sees w (w.alloc (Obj.cells o.c 40)) [(w.heap.size, Obj.cells o.c 40)] := (Sees.start w).alloc _
  have a2 := OpV.g2 (o := o)
  have a67 := OpV.g67 ho
  have a70 := OpV.g70 ho
  go_enter Tryz.func41, Tryz.ntmps41
  go_wp2_with (first | go_skip | (refine load_part rfl 31 (.tmp 5) rfl _ 0 rfl _ _ (0, 0) _ _ hS.g0 OpV.pId Tryz.underlying31 rfl (id_info _ _) ?_) | (go_at_call 67; with_reducible (refine (Good_is h1 _).mono ?_); rintro e wn ⟨rfl, hbn⟩; have hS1 := hS.step hbn; clear hS hbn; have hS := hS1; clear hS1; (try clear cT cK cY); obtain ⟨cT, cK, cY⟩ := op_cells ho hS.g0))
  go_ret
  exact ⟨ret_bool hh.out.symm, hS.below⟩
set_option maxRecDepth 100000 in
set_option maxHeartbeats 1000000 in
theorem oGood_2 (h1 : goodB o.R o.N = true) (h2 : o.T < 1) : Calls Tryz.prog 41 #[opv o] w fun e w' => e = .returned (.bool (opB o vg vz kv)) ∧ Below w.heap.size w w' := by
  have hh : Hid (opB o vg vz kv = false) := by unfold Hid opB; rw [decide_eq_false (show ¬ 1 ≤ o.T by omega)]; simp
  have hS : Sees w (w.alloc (Obj.cells o.c 40)) [(w.heap.size, Obj.cells o.c 40)] := (Sees.start w).alloc _
  have a2 := OpV.g2 (o := o)
  have a67 := OpV.g67 ho
  have a70 := OpV.g70 ho
  go_enter Tryz.func41, Tryz.ntmps41
  go_wp2_with (first | go_skip | (refine load_part rfl 31 (.tmp 5) rfl _ 0 rfl _ _ (0, 0) _ _ hS.g0 OpV.pId Tryz.underlying31 rfl (id_info _ _) ?_) | (go_at_call 67; with_reducible (refine (Good_is h1 _).mono ?_); rintro e wn ⟨rfl, hbn⟩; have hS1 := hS.step hbn; clear hS hbn; have hS := hS1; clear hS1; (try clear cT cK cY); obtain ⟨cT, cK, cY⟩ := op_cells ho hS.g0))
  go_ret
  exact ⟨ret_bool hh.out.symm, hS.below⟩
theorem seen_is (h1 : goodB o.R o.N = true) {b : Bool} (h : seenB o = b) (W : World) : Calls Tryz.prog 68 #[opv o] W fun e w' => e = .returned (.bool b) ∧ Below W.heap.size W w' := by
  have h2 := goodB_iff.1 h1
  exact h ▸ seen_any o W ho h2.1.1 h2.1.2 h2.2.1 h2.2.2
theorem makes_is {b : Bool} (h : makesB o vg vz = b) (W : World) (hb : Below w.heap.size w W) : Calls Tryz.prog 69 #[opv o] W fun e w' => e = .returned (.bool b) ∧ Below W.heap.size W w' := by
  refine h ▸ makes_any o vg vz W ho ?_ ?_
  · exact fun W' hb' => HG.out W' (hb.trans (hb'.mono hb.size))
  · exact fun W' hb' => HZ.out W' (hb.trans (hb'.mono hb.size))
set_option maxRecDepth 100000 in
set_option maxHeartbeats 1000000 in
theorem oGood_3 (h1 : goodB o.R o.N = true) (h2 : 1 ≤ o.T) (h3 : seenB o = false) : Calls Tryz.prog 41 #[opv o] w fun e w' => e = .returned (.bool (opB o vg vz kv)) ∧ Below w.heap.size w w' := by
  have hh : Hid (opB o vg vz kv = false) := by unfold Hid opB; simp [h3]
  have hS : Sees w (w.alloc (Obj.cells o.c 40)) [(w.heap.size, Obj.cells o.c 40)] := (Sees.start w).alloc _
  have a2 := OpV.g2 (o := o)
  have a67 := OpV.g67 ho
  have a70 := OpV.g70 ho
  have h2b : decide (o.T < 1) = false := by simp; omega
  have k3 := seen_is o vg vz kv w ho HG HZ HV h1 h3
  have K3 := Lib.hid k3
  clear k3
  go_enter Tryz.func41, Tryz.ntmps41
  go_wp2_with (first | go_skip | (refine load_part rfl 31 (.tmp 5) rfl _ 0 rfl _ _ (0, 0) _ _ hS.g0 OpV.pId Tryz.underlying31 rfl (id_info _ _) ?_) | (refine wpList_load_row' rfl 40 (.tmp 1) rfl _ rfl 40 _ (0, 0) _ hS.g0 Tryz.underlying40 rfl (op_info _ ho) ?_) | (go_at_call 67; with_reducible (refine (Good_is h1 _).mono ?_); rintro e wn ⟨rfl, hbn⟩; have hS1 := hS.step hbn; clear hS hbn; have hS := hS1; clear hS1; (try clear cT cK cY); obtain ⟨cT, cK, cY⟩ := op_cells ho hS.g0) | (go_at_call 68; with_reducible (refine (K3.out _).mono ?_); rintro e wn ⟨rfl, hbn⟩; have hS1 := hS.step hbn; clear hS hbn; have hS := hS1; clear hS1; (try clear cT cK cY); obtain ⟨cT, cK, cY⟩ := op_cells ho hS.g0))
  go_ret
  exact ⟨ret_bool hh.out.symm, hS.below⟩
set_option maxRecDepth 100000 in
set_option maxHeartbeats 1000000 in
theorem oGood_4 (h1 : goodB o.R o.N = true) (h2 : 1 ≤ o.T) (h3 : seenB o = true) (h4 : makesB o vg vz = false) : Calls Tryz.prog 41 #[opv o] w fun e w' => e = .returned (.bool (opB o vg vz kv)) ∧ Below w.heap.size w w' := by
  have hh : Hid (opB o vg vz kv = false) := by unfold Hid opB; simp [h4]
  have hS : Sees w (w.alloc (Obj.cells o.c 40)) [(w.heap.size, Obj.cells o.c 40)] := (Sees.start w).alloc _
  have a2 := OpV.g2 (o := o)
  have a67 := OpV.g67 ho
  have a70 := OpV.g70 ho
  have h2b : decide (o.T < 1) = false := by simp; omega
  have k3 := seen_is o vg vz kv w ho HG HZ HV h1 h3
  have K3 := Lib.hid k3
  have k4 := makes_is o vg vz kv w ho HG HZ HV h4
  have K4 := Lib.hid k4
  clear k3 k4
  go_enter Tryz.func41, Tryz.ntmps41
  go_wp2_with (first | go_skip | (refine load_part rfl 31 (.tmp 5) rfl _ 0 rfl _ _ (0, 0) _ _ hS.g0 OpV.pId Tryz.underlying31 rfl (id_info _ _) ?_) | (refine wpList_load_row' rfl 40 (.tmp 1) rfl _ rfl 40 _ (0, 0) _ hS.g0 Tryz.underlying40 rfl (op_info _ ho) ?_) | (go_at_call 67; with_reducible (refine (Good_is h1 _).mono ?_); rintro e wn ⟨rfl, hbn⟩; have hS1 := hS.step hbn; clear hS hbn; have hS := hS1; clear hS1; (try clear cT cK cY); obtain ⟨cT, cK, cY⟩ := op_cells ho hS.g0) | (go_at_call 68; with_reducible (refine (K3.out _).mono ?_); rintro e wn ⟨rfl, hbn⟩; have hS1 := hS.step hbn; clear hS hbn; have hS := hS1; clear hS1; (try clear cT cK cY); obtain ⟨cT, cK, cY⟩ := op_cells ho hS.g0) | (go_at_call 69; with_reducible (refine (K4.out _ hS.below).mono ?_); rintro e wn ⟨rfl, hbn⟩; have hS1 := hS.step hbn; clear hS hbn; have hS := hS1; clear hS1; (try clear cT cK cY); obtain ⟨cT, cK, cY⟩ := op_cells ho hS.g0))
  go_ret
  exact ⟨ret_bool hh.out.symm, hS.below⟩
set_option maxRecDepth 100000 in
  set_option maxHeartbeats 2000000 in
  theorem oGood_sv (h1 : goodB o.R o.N = true) (h2 : 1 ≤ o.T) (h3 : seenB o = true) (h4 : makesB o vg vz = true) (h5 : (o.K == 1) = true) (h6 : kv = false) : Calls Tryz.prog 41 #[opv o] w fun e w' => e = .returned (.bool (opB o vg vz kv)) ∧ Below w.heap.size w w' := by
    have hh : Hid (opB o vg vz kv = false) := by unfold Hid opB; rw [h1, h3, h4, decide_eq_true h2]; simp [h5, h6]
    have hS : Sees w (w.alloc (Obj.cells o.c 40)) [(w.heap.size, Obj.cells o.c 40)] := (Sees.start w).alloc _
    have a2 := OpV.g2 (o := o)
    have a67 := OpV.g67 ho
    have a70 := OpV.g70 ho
    have h2b : decide (o.T < 1) = false := by simp; omega
    have k3 := seen_is o vg vz kv w ho HG HZ HV h1 h3
    have K3 := Lib.hid k3
    have k4 := makes_is o vg vz kv w ho HG HZ HV h4
    have K4 := Lib.hid k4
    clear k3 k4
    subst h6
    go_enter Tryz.func41, Tryz.ntmps41
    go_wp2_with (first | go_skip | (refine load_part rfl 31 (.tmp 5) rfl _ 0 rfl _ _ (0, 0) _ _ hS.g0 OpV.pId Tryz.underlying31 rfl (id_info _ _) ?_) | (refine load_part rfl 31 (.tmp 43) rfl _ 71 rfl _ _ (0, 0) _ _ hS.g0 (OpV.pAt ho) Tryz.underlying31 rfl (id_info _ _) ?_) | (refine load_part rfl 31 (.tmp 50) rfl _ 68 rfl _ _ (0, 0) _ _ hS.g0 (OpV.pObj ho) Tryz.underlying31 rfl (id_info _ _) ?_) | (refine load_part rfl 31 (.tmp 62) rfl _ 68 rfl _ _ (0, 0) _ _ hS.g0 (OpV.pObj ho) Tryz.underlying31 rfl (id_info _ _) ?_) | (refine load_part rfl 31 (.tmp 68) rfl _ 71 rfl _ _ (0, 0) _ _ hS.g0 (OpV.pAt ho) Tryz.underlying31 rfl (id_info _ _) ?_) | (refine wpList_load_row' rfl 40 (.tmp 1) rfl _ rfl 40 _ (0, 0) _ hS.g0 Tryz.underlying40 rfl (op_info _ ho) ?_) | (go_at_call 67; with_reducible (refine (Good_is h1 _).mono ?_); rintro e wn ⟨rfl, hbn⟩; have hS1 := hS.step hbn; clear hS hbn; have hS := hS1; clear hS1; (try clear cT cK cY); obtain ⟨cT, cK, cY⟩ := op_cells ho hS.g0) | (go_at_call 68; with_reducible (refine (K3.out _).mono ?_); rintro e wn ⟨rfl, hbn⟩; have hS1 := hS.step hbn; clear hS hbn; have hS := hS1; clear hS1; (try clear cT cK cY); obtain ⟨cT, cK, cY⟩ := op_cells ho hS.g0) | (go_at_call 69; with_reducible (refine (K4.out _ hS.below).mono ?_); rintro e wn ⟨rfl, hbn⟩; have hS1 := hS.step hbn; clear hS hbn; have hS := hS1; clear hS1; (try clear cT cK cY); obtain ⟨cT, cK, cY⟩ := op_cells ho hS.g0) | (go_at_call 70; with_reducible (refine (HV.out _ hS.below).mono ?_); rintro e wn ⟨⟨nv, rfl⟩, hbn⟩; have hS1 := hS.step hbn; clear hS hbn; have hS := hS1; clear hS1; (try clear cT cK cY); obtain ⟨cT, cK, cY⟩ := op_cells ho hS.g0))
    go_ret
    exact ⟨ret_bool hh.out.symm, hS.below⟩
  set_option maxRecDepth 100000 in
  set_option maxHeartbeats 2000000 in
  theorem oGood_sl (h1 : goodB o.R o.N = true) (h2 : 1 ≤ o.T) (h3 : seenB o = true) (h4 : makesB o vg vz = true) (h5 : (o.K == 1) = true) (h6 : kv = true) (h7 : ¬ o.key.size ≤ 4096) : Calls Tryz.prog 41 #[opv o] w fun e w' => e = .returned (.bool (opB o vg vz kv)) ∧ Below w.heap.size w w' := by
    have hh : Hid (opB o vg vz kv = false) := by unfold Hid opB; rw [h1, h3, h4, decide_eq_true h2]; simp [h5, h7]
    have hS : Sees w (w.alloc (Obj.cells o.c 40)) [(w.heap.size, Obj.cells o.c 40)] := (Sees.start w).alloc _
    have a2 := OpV.g2 (o := o)
    have a67 := OpV.g67 ho
    have a70 := OpV.g70 ho
    have h2b : decide (o.T < 1) = false := by simp; omega
    have k3 := seen_is o vg vz kv w ho HG HZ HV h1 h3
    have K3 := Lib.hid k3
    have k4 := makes_is o vg vz kv w ho HG HZ HV h4
    have K4 := Lib.hid k4
    clear k3 k4
    subst h6; have h7b : decide ((o.key.size : Int) ≤ 4096) = false := (by simp; omega); have h7c : decide (o.key.size ≤ 4096) = false := (by simp; omega)
    go_enter Tryz.func41, Tryz.ntmps41
    go_wp2_with (first | go_skip | (refine load_part rfl 31 (.tmp 5) rfl _ 0 rfl _ _ (0, 0) _ _ hS.g0 OpV.pId Tryz.underlying31 rfl (id_info _ _) ?_) | (refine load_part rfl 31 (.tmp 43) rfl _ 71 rfl _ _ (0, 0) _ _ hS.g0 (OpV.pAt ho) Tryz.underlying31 rfl (id_info _ _) ?_) | (refine load_part rfl 31 (.tmp 50) rfl _ 68 rfl _ _ (0, 0) _ _ hS.g0 (OpV.pObj ho) Tryz.underlying31 rfl (id_info _ _) ?_) | (refine load_part rfl 31 (.tmp 62) rfl _ 68 rfl _ _ (0, 0) _ _ hS.g0 (OpV.pObj ho) Tryz.underlying31 rfl (id_info _ _) ?_) | (refine load_part rfl 31 (.tmp 68) rfl _ 71 rfl _ _ (0, 0) _ _ hS.g0 (OpV.pAt ho) Tryz.underlying31 rfl (id_info _ _) ?_) | (refine wpList_load_row' rfl 40 (.tmp 1) rfl _ rfl 40 _ (0, 0) _ hS.g0 Tryz.underlying40 rfl (op_info _ ho) ?_) | (go_at_call 67; with_reducible (refine (Good_is h1 _).mono ?_); rintro e wn ⟨rfl, hbn⟩; have hS1 := hS.step hbn; clear hS hbn; have hS := hS1; clear hS1; (try clear cT cK cY); obtain ⟨cT, cK, cY⟩ := op_cells ho hS.g0) | (go_at_call 68; with_reducible (refine (K3.out _).mono ?_); rintro e wn ⟨rfl, hbn⟩; have hS1 := hS.step hbn; clear hS hbn; have hS := hS1; clear hS1; (try clear cT cK cY); obtain ⟨cT, cK, cY⟩ := op_cells ho hS.g0) | (go_at_call 69; with_reducible (refine (K4.out _ hS.below).mono ?_); rintro e wn ⟨rfl, hbn⟩; have hS1 := hS.step hbn; clear hS hbn; have hS := hS1; clear hS1; (try clear cT cK cY); obtain ⟨cT, cK, cY⟩ := op_cells ho hS.g0) | (go_at_call 70; with_reducible (refine (HV.out _ hS.below).mono ?_); rintro e wn ⟨⟨nv, rfl⟩, hbn⟩; have hS1 := hS.step hbn; clear hS hbn; have hS := hS1; clear hS1; (try clear cT cK cY); obtain ⟨cT, cK, cY⟩ := op_cells ho hS.g0))
    go_ret
    exact ⟨ret_bool hh.out.symm, hS.below⟩
  set_option maxRecDepth 100000 in
  set_option maxHeartbeats 2000000 in
  theorem oGood_sr (h1 : goodB o.R o.N = true) (h2 : 1 ≤ o.T) (h3 : seenB o = true) (h4 : makesB o vg vz = true) (h5 : (o.K == 1) = true) (h6 : kv = true) (h7 : o.key.size ≤ 4096) (h8 : (o.AR == 0) = false) : Calls Tryz.prog 41 #[opv o] w fun e w' => e = .returned (.bool (opB o vg vz kv)) ∧ Below w.heap.size w w' := by
    have hh : Hid (opB o vg vz kv = false) := by unfold Hid opB; rw [h1, h3, h4, decide_eq_true h2]; simp [h5, h8]
    have hS : Sees w (w.alloc (Obj.cells o.c 40)) [(w.heap.size, Obj.cells o.c 40)] := (Sees.start w).alloc _
    have a2 := OpV.g2 (o := o)
    have a67 := OpV.g67 ho
    have a70 := OpV.g70 ho
    have h2b : decide (o.T < 1) = false := by simp; omega
    have k3 := seen_is o vg vz kv w ho HG HZ HV h1 h3
    have K3 := Lib.hid k3
    have k4 := makes_is o vg vz kv w ho HG HZ HV h4
    have K4 := Lib.hid k4
    clear k3 k4
    subst h6; have h7b : decide ((o.key.size : Int) ≤ 4096) = true := (by simp; omega); have h7c : decide (o.key.size ≤ 4096) = true := (by simp; omega)
    go_enter Tryz.func41, Tryz.ntmps41
    go_wp2_with (first | go_skip | (refine load_part rfl 31 (.tmp 5) rfl _ 0 rfl _ _ (0, 0) _ _ hS.g0 OpV.pId Tryz.underlying31 rfl (id_info _ _) ?_) | (refine load_part rfl 31 (.tmp 43) rfl _ 71 rfl _ _ (0, 0) _ _ hS.g0 (OpV.pAt ho) Tryz.underlying31 rfl (id_info _ _) ?_) | (refine load_part rfl 31 (.tmp 50) rfl _ 68 rfl _ _ (0, 0) _ _ hS.g0 (OpV.pObj ho) Tryz.underlying31 rfl (id_info _ _) ?_) | (refine load_part rfl 31 (.tmp 62) rfl _ 68 rfl _ _ (0, 0) _ _ hS.g0 (OpV.pObj ho) Tryz.underlying31 rfl (id_info _ _) ?_) | (refine load_part rfl 31 (.tmp 68) rfl _ 71 rfl _ _ (0, 0) _ _ hS.g0 (OpV.pAt ho) Tryz.underlying31 rfl (id_info _ _) ?_) | (refine wpList_load_row' rfl 40 (.tmp 1) rfl _ rfl 40 _ (0, 0) _ hS.g0 Tryz.underlying40 rfl (op_info _ ho) ?_) | (go_at_call 67; with_reducible (refine (Good_is h1 _).mono ?_); rintro e wn ⟨rfl, hbn⟩; have hS1 := hS.step hbn; clear hS hbn; have hS := hS1; clear hS1; (try clear cT cK cY); obtain ⟨cT, cK, cY⟩ := op_cells ho hS.g0) | (go_at_call 68; with_reducible (refine (K3.out _).mono ?_); rintro e wn ⟨rfl, hbn⟩; have hS1 := hS.step hbn; clear hS hbn; have hS := hS1; clear hS1; (try clear cT cK cY); obtain ⟨cT, cK, cY⟩ := op_cells ho hS.g0) | (go_at_call 69; with_reducible (refine (K4.out _ hS.below).mono ?_); rintro e wn ⟨rfl, hbn⟩; have hS1 := hS.step hbn; clear hS hbn; have hS := hS1; clear hS1; (try clear cT cK cY); obtain ⟨cT, cK, cY⟩ := op_cells ho hS.g0) | (go_at_call 70; with_reducible (refine (HV.out _ hS.below).mono ?_); rintro e wn ⟨⟨nv, rfl⟩, hbn⟩; have hS1 := hS.step hbn; clear hS hbn; have hS := hS1; clear hS1; (try clear cT cK cY); obtain ⟨cT, cK, cY⟩ := op_cells ho hS.g0))
    go_ret
    exact ⟨ret_bool hh.out.symm, hS.below⟩
  set_option maxRecDepth 100000 in
  set_option maxHeartbeats 2000000 in
  theorem oGood_sn (h1 : goodB o.R o.N = true) (h2 : 1 ≤ o.T) (h3 : seenB o = true) (h4 : makesB o vg vz = true) (h5 : (o.K == 1) = true) (h6 : kv = true) (h7 : o.key.size ≤ 4096) (h8 : (o.AR == 0) = true) (h9 : (o.AN == 0) = false) : Calls Tryz.prog 41 #[opv o] w fun e w' => e = .returned (.bool (opB o vg vz kv)) ∧ Below w.heap.size w w' := by
    have hh : Hid (opB o vg vz kv = false) := by unfold Hid opB; rw [h1, h3, h4, decide_eq_true h2]; simp [h5, h9]
    have hS : Sees w (w.alloc (Obj.cells o.c 40)) [(w.heap.size, Obj.cells o.c 40)] := (Sees.start w).alloc _
    have a2 := OpV.g2 (o := o)
    have a67 := OpV.g67 ho
    have a70 := OpV.g70 ho
    have h2b : decide (o.T < 1) = false := by simp; omega
    have k3 := seen_is o vg vz kv w ho HG HZ HV h1 h3
    have K3 := Lib.hid k3
    have k4 := makes_is o vg vz kv w ho HG HZ HV h4
    have K4 := Lib.hid k4
    clear k3 k4
    subst h6; have h7b : decide ((o.key.size : Int) ≤ 4096) = true := (by simp; omega); have h7c : decide (o.key.size ≤ 4096) = true := (by simp; omega)
    go_enter Tryz.func41, Tryz.ntmps41
    go_wp2_with (first | go_skip | (refine load_part rfl 31 (.tmp 5) rfl _ 0 rfl _ _ (0, 0) _ _ hS.g0 OpV.pId Tryz.underlying31 rfl (id_info _ _) ?_) | (refine load_part rfl 31 (.tmp 43) rfl _ 71 rfl _ _ (0, 0) _ _ hS.g0 (OpV.pAt ho) Tryz.underlying31 rfl (id_info _ _) ?_) | (refine load_part rfl 31 (.tmp 50) rfl _ 68 rfl _ _ (0, 0) _ _ hS.g0 (OpV.pObj ho) Tryz.underlying31 rfl (id_info _ _) ?_) | (refine load_part rfl 31 (.tmp 62) rfl _ 68 rfl _ _ (0, 0) _ _ hS.g0 (OpV.pObj ho) Tryz.underlying31 rfl (id_info _ _) ?_) | (refine load_part rfl 31 (.tmp 68) rfl _ 71 rfl _ _ (0, 0) _ _ hS.g0 (OpV.pAt ho) Tryz.underlying31 rfl (id_info _ _) ?_) | (refine wpList_load_row' rfl 40 (.tmp 1) rfl _ rfl 40 _ (0, 0) _ hS.g0 Tryz.underlying40 rfl (op_info _ ho) ?_) | (go_at_call 67; with_reducible (refine (Good_is h1 _).mono ?_); rintro e wn ⟨rfl, hbn⟩; have hS1 := hS.step hbn; clear hS hbn; have hS := hS1; clear hS1; (try clear cT cK cY); obtain ⟨cT, cK, cY⟩ := op_cells ho hS.g0) | (go_at_call 68; with_reducible (refine (K3.out _).mono ?_); rintro e wn ⟨rfl, hbn⟩; have hS1 := hS.step hbn; clear hS hbn; have hS := hS1; clear hS1; (try clear cT cK cY); obtain ⟨cT, cK, cY⟩ := op_cells ho hS.g0) | (go_at_call 69; with_reducible (refine (K4.out _ hS.below).mono ?_); rintro e wn ⟨rfl, hbn⟩; have hS1 := hS.step hbn; clear hS hbn; have hS := hS1; clear hS1; (try clear cT cK cY); obtain ⟨cT, cK, cY⟩ := op_cells ho hS.g0) | (go_at_call 70; with_reducible (refine (HV.out _ hS.below).mono ?_); rintro e wn ⟨⟨nv, rfl⟩, hbn⟩; have hS1 := hS.step hbn; clear hS hbn; have hS := hS1; clear hS1; (try clear cT cK cY); obtain ⟨cT, cK, cY⟩ := op_cells ho hS.g0))
    go_ret
    exact ⟨ret_bool hh.out.symm, hS.below⟩
  set_option maxRecDepth 100000 in
  set_option maxHeartbeats 2000000 in
  theorem oGood_sg (h1 : goodB o.R o.N = true) (h2 : 1 ≤ o.T) (h3 : seenB o = true) (h4 : makesB o vg vz = true) (h5 : (o.K == 1) = true) (h6 : kv = true) (h7 : o.key.size ≤ 4096) (h8 : (o.AR == 0) = true) (h9 : (o.AN == 0) = true) : Calls Tryz.prog 41 #[opv o] w fun e w' => e = .returned (.bool (opB o vg vz kv)) ∧ Below w.heap.size w w' := by
    have hh : Hid (opB o vg vz kv = namedB o o.OR o.ON true) := by unfold Hid opB; rw [h1, h3, h4, decide_eq_true h2]; simp [h5, h6, h7, h8, h9]
    have hS : Sees w (w.alloc (Obj.cells o.c 40)) [(w.heap.size, Obj.cells o.c 40)] := (Sees.start w).alloc _
    have a2 := OpV.g2 (o := o)
    have a67 := OpV.g67 ho
    have a70 := OpV.g70 ho
    have h2b : decide (o.T < 1) = false := by simp; omega
    have k3 := seen_is o vg vz kv w ho HG HZ HV h1 h3
    have K3 := Lib.hid k3
    have k4 := makes_is o vg vz kv w ho HG HZ HV h4
    have K4 := Lib.hid k4
    clear k3 k4
    subst h6; have h7b : decide ((o.key.size : Int) ≤ 4096) = true := (by simp; omega); have h7c : decide (o.key.size ≤ 4096) = true := (by simp; omega)
    go_enter Tryz.func41, Tryz.ntmps41
    go_wp2_with (first | go_skip | (refine load_part rfl 31 (.tmp 5) rfl _ 0 rfl _ _ (0, 0) _ _ hS.g0 OpV.pId Tryz.underlying31 rfl (id_info _ _) ?_) | (refine load_part rfl 31 (.tmp 43) rfl _ 71 rfl _ _ (0, 0) _ _ hS.g0 (OpV.pAt ho) Tryz.underlying31 rfl (id_info _ _) ?_) | (refine load_part rfl 31 (.tmp 50) rfl _ 68 rfl _ _ (0, 0) _ _ hS.g0 (OpV.pObj ho) Tryz.underlying31 rfl (id_info _ _) ?_) | (refine load_part rfl 31 (.tmp 62) rfl _ 68 rfl _ _ (0, 0) _ _ hS.g0 (OpV.pObj ho) Tryz.underlying31 rfl (id_info _ _) ?_) | (refine load_part rfl 31 (.tmp 68) rfl _ 71 rfl _ _ (0, 0) _ _ hS.g0 (OpV.pAt ho) Tryz.underlying31 rfl (id_info _ _) ?_) | (refine wpList_load_row' rfl 40 (.tmp 1) rfl _ rfl 40 _ (0, 0) _ hS.g0 Tryz.underlying40 rfl (op_info _ ho) ?_) | (go_at_call 67; with_reducible (refine (Good_is h1 _).mono ?_); rintro e wn ⟨rfl, hbn⟩; have hS1 := hS.step hbn; clear hS hbn; have hS := hS1; clear hS1; (try clear cT cK cY); obtain ⟨cT, cK, cY⟩ := op_cells ho hS.g0) | (go_at_call 68; with_reducible (refine (K3.out _).mono ?_); rintro e wn ⟨rfl, hbn⟩; have hS1 := hS.step hbn; clear hS hbn; have hS := hS1; clear hS1; (try clear cT cK cY); obtain ⟨cT, cK, cY⟩ := op_cells ho hS.g0) | (go_at_call 69; with_reducible (refine (K4.out _ hS.below).mono ?_); rintro e wn ⟨rfl, hbn⟩; have hS1 := hS.step hbn; clear hS hbn; have hS := hS1; clear hS1; (try clear cT cK cY); obtain ⟨cT, cK, cY⟩ := op_cells ho hS.g0) | (go_at_call 70; with_reducible (refine (HV.out _ hS.below).mono ?_); rintro e wn ⟨⟨nv, rfl⟩, hbn⟩; have hS1 := hS.step hbn; clear hS hbn; have hS := hS1; clear hS1; (try clear cT cK cY); obtain ⟨cT, cK, cY⟩ := op_cells ho hS.g0) | (go_at_call 71; with_reducible (refine (named_any _ _ _ _ _ ho).mono ?_); rintro e wn ⟨rfl, hbn⟩; have hS1 := hS.step hbn; clear hS hbn; have hS := hS1; clear hS1; (try clear cT cK cY); obtain ⟨cT, cK, cY⟩ := op_cells ho hS.g0))
    go_ret
    exact ⟨ret_bool hh.out.symm, hS.below⟩
set_option maxRecDepth 100000 in
  set_option maxHeartbeats 2000000 in
  theorem oGood_uv (h1 : goodB o.R o.N = true) (h2 : 1 ≤ o.T) (h3 : seenB o = true) (h4 : makesB o vg vz = true) (h5 : (o.K == 1) = false) (h5' : (o.K == 2) = true) (h6 : kv = false) : Calls Tryz.prog 41 #[opv o] w fun e w' => e = .returned (.bool (opB o vg vz kv)) ∧ Below w.heap.size w w' := by
    have hh : Hid (opB o vg vz kv = false) := by unfold Hid opB; rw [h1, h3, h4, decide_eq_true h2]; simp [h5, h5', h6]
    have hS : Sees w (w.alloc (Obj.cells o.c 40)) [(w.heap.size, Obj.cells o.c 40)] := (Sees.start w).alloc _
    have a2 := OpV.g2 (o := o)
    have a67 := OpV.g67 ho
    have a70 := OpV.g70 ho
    have h2b : decide (o.T < 1) = false := by simp; omega
    have k3 := seen_is o vg vz kv w ho HG HZ HV h1 h3
    have K3 := Lib.hid k3
    have k4 := makes_is o vg vz kv w ho HG HZ HV h4
    have K4 := Lib.hid k4
    clear k3 k4
    subst h6
    go_enter Tryz.func41, Tryz.ntmps41
    go_wp2_with (first | go_skip | (refine load_part rfl 31 (.tmp 5) rfl _ 0 rfl _ _ (0, 0) _ _ hS.g0 OpV.pId Tryz.underlying31 rfl (id_info _ _) ?_) | (refine load_part rfl 31 (.tmp 43) rfl _ 71 rfl _ _ (0, 0) _ _ hS.g0 (OpV.pAt ho) Tryz.underlying31 rfl (id_info _ _) ?_) | (refine load_part rfl 31 (.tmp 50) rfl _ 68 rfl _ _ (0, 0) _ _ hS.g0 (OpV.pObj ho) Tryz.underlying31 rfl (id_info _ _) ?_) | (refine load_part rfl 31 (.tmp 62) rfl _ 68 rfl _ _ (0, 0) _ _ hS.g0 (OpV.pObj ho) Tryz.underlying31 rfl (id_info _ _) ?_) | (refine load_part rfl 31 (.tmp 68) rfl _ 71 rfl _ _ (0, 0) _ _ hS.g0 (OpV.pAt ho) Tryz.underlying31 rfl (id_info _ _) ?_) | (refine wpList_load_row' rfl 40 (.tmp 1) rfl _ rfl 40 _ (0, 0) _ hS.g0 Tryz.underlying40 rfl (op_info _ ho) ?_) | (go_at_call 67; with_reducible (refine (Good_is h1 _).mono ?_); rintro e wn ⟨rfl, hbn⟩; have hS1 := hS.step hbn; clear hS hbn; have hS := hS1; clear hS1; (try clear cT cK cY); obtain ⟨cT, cK, cY⟩ := op_cells ho hS.g0) | (go_at_call 68; with_reducible (refine (K3.out _).mono ?_); rintro e wn ⟨rfl, hbn⟩; have hS1 := hS.step hbn; clear hS hbn; have hS := hS1; clear hS1; (try clear cT cK cY); obtain ⟨cT, cK, cY⟩ := op_cells ho hS.g0) | (go_at_call 69; with_reducible (refine (K4.out _ hS.below).mono ?_); rintro e wn ⟨rfl, hbn⟩; have hS1 := hS.step hbn; clear hS hbn; have hS := hS1; clear hS1; (try clear cT cK cY); obtain ⟨cT, cK, cY⟩ := op_cells ho hS.g0) | (go_at_call 70; with_reducible (refine (HV.out _ hS.below).mono ?_); rintro e wn ⟨⟨nv, rfl⟩, hbn⟩; have hS1 := hS.step hbn; clear hS hbn; have hS := hS1; clear hS1; (try clear cT cK cY); obtain ⟨cT, cK, cY⟩ := op_cells ho hS.g0))
    go_ret
    exact ⟨ret_bool hh.out.symm, hS.below⟩
set_option maxRecDepth 100000 in
set_option maxHeartbeats 2000000 in
theorem oGood_ul (h1 : goodB o.R o.N = true) (h2 : 1 ≤ o.T) (h3 : seenB o = true) (h4 : makesB o vg vz = true) (h5 : (o.K == 1) = false) (h5' : (o.K == 2) = true) (h6 : kv = true) (h7 : ¬ o.key.size ≤ 4096) : Calls Tryz.prog 41 #[opv o] w fun e w' => e = .returned (.bool (opB o vg vz kv)) ∧ Below w.heap.size w w' := by
  have hh : Hid (opB o vg vz kv = false) := by unfold Hid opB; rw [h1, h3, h4, decide_eq_true h2]; simp [h5, h5', h7]
  have hS : Sees w (w.alloc (Obj.cells o.c 40)) [(w.heap.size, Obj.cells o.c 40)] := (Sees.start w).alloc _
  have a2 := OpV.g2 (o := o)
  have a67 := OpV.g67 ho
  have a70 := OpV.g70 ho
  have h2b : decide (o.T < 1) = false := by simp; omega
  have k3 := seen_is o vg vz kv w ho HG HZ HV h1 h3
  have K3 := Lib.hid k3
  have k4 := makes_is o vg vz kv w ho HG HZ HV h4
  have K4 := Lib.hid k4
  clear k3 k4
  subst h6; have h7b : decide ((o.key.size : Int) ≤ 4096) = false := (by simp; omega); have h7c : decide (o.key.size ≤ 4096) = false := (by simp; omega)
  go_enter Tryz.func41, Tryz.ntmps41
  go_wp2_with (first | go_skip | (refine load_part rfl 31 (.tmp 5) rfl _ 0 rfl _ _ (0, 0) _ _ hS.g0 OpV.pId Tryz.underlying31 rfl (id_info _ _) ?_) | (refine load_part rfl 31 (.tmp 43) rfl _ 71 rfl _ _ (0, 0) _ _ hS.g0 (OpV.pAt ho) Tryz.underlying31 rfl (id_info _ _) ?_) | (refine load_part rfl 31 (.tmp 50) rfl _ 68 rfl _ _ (0, 0) _ _ hS.g0 (OpV.pObj ho) Tryz.underlying31 rfl (id_info _ _) ?_) | (refine load_part rfl 31 (.tmp 62) rfl _ 68 rfl _ _ (0, 0) _ _ hS.g0 (OpV.pObj ho) Tryz.underlying31 rfl (id_info _ _) ?_) | (refine load_part rfl 31 (.tmp 68) rfl _ 71 rfl _ _ (0, 0) _ _ hS.g0 (OpV.pAt ho) Tryz.underlying31 rfl (id_info _ _) ?_) | (refine wpList_load_row' rfl 40 (.tmp 1) rfl _ rfl 40 _ (0, 0) _ hS.g0 Tryz.underlying40 rfl (op_info _ ho) ?_) | (go_at_call 67; with_reducible (refine (Good_is h1 _).mono ?_); rintro e wn ⟨rfl, hbn⟩; have hS1 := hS.step hbn; clear hS hbn; have hS := hS1; clear hS1; (try clear cT cK cY); obtain ⟨cT, cK, cY⟩ := op_cells ho hS.g0) | (go_at_call 68; with_reducible (refine (K3.out _).mono ?_); rintro e wn ⟨rfl, hbn⟩; have hS1 := hS.step hbn; clear hS hbn; have hS := hS1; clear hS1; (try clear cT cK cY); obtain ⟨cT, cK, cY⟩ := op_cells ho hS.g0) | (go_at_call 69; with_reducible (refine (K4.out _ hS.below).mono ?_); rintro e wn ⟨rfl, hbn⟩; have hS1 := hS.step hbn; clear hS hbn; have hS := hS1; clear hS1; (try clear cT cK cY); obtain ⟨cT, cK, cY⟩ := op_cells ho hS.g0) | (go_at_call 70; with_reducible (refine (HV.out _ hS.below).mono ?_); rintro e wn ⟨⟨nv, rfl⟩, hbn⟩; have hS1 := hS.step hbn; clear hS hbn; have hS := hS1; clear hS1; (try clear cT cK cY); obtain ⟨cT, cK, cY⟩ := op_cells ho hS.g0))
  go_ret
  exact ⟨ret_bool hh.out.symm, hS.below⟩
set_option maxRecDepth 100000 in
set_option maxHeartbeats 2000000 in
theorem oGood_ur (h1 : goodB o.R o.N = true) (h2 : 1 ≤ o.T) (h3 : seenB o = true) (h4 : makesB o vg vz = true) (h5 : (o.K == 1) = false) (h5' : (o.K == 2) = true) (h6 : kv = true) (h7 : o.key.size ≤ 4096) (h8 : (o.AR == 0) = false) : Calls Tryz.prog 41 #[opv o] w fun e w' => e = .returned (.bool (opB o vg vz kv)) ∧ Below w.heap.size w w' := by
  have hh : Hid (opB o vg vz kv = false) := by unfold Hid opB; rw [h1, h3, h4, decide_eq_true h2]; simp [h5, h5', h8]
  have hS : Sees w (w.alloc (Obj.cells o.c 40)) [(w.heap.size, Obj.cells o.c 40)] := (Sees.start w).alloc _
  have a2 := OpV.g2 (o := o)
  have a67 := OpV.g67 ho
  have a70 := OpV.g70 ho
  have h2b : decide (o.T < 1) = false := by simp; omega
  have k3 := seen_is o vg vz kv w ho HG HZ HV h1 h3
  have K3 := Lib.hid k3
  have k4 := makes_is o vg vz kv w ho HG HZ HV h4
  have K4 := Lib.hid k4
  clear k3 k4
  subst h6; have h7b : decide ((o.key.size : Int) ≤ 4096) = true := (by simp; omega); have h7c : decide (o.key.size ≤ 4096) = true := (by simp; omega)
  go_enter Tryz.func41, Tryz.ntmps41
  go_wp2_with (first | go_skip | (refine load_part rfl 31 (.tmp 5) rfl _ 0 rfl _ _ (0, 0) _ _ hS.g0 OpV.pId Tryz.underlying31 rfl (id_info _ _) ?_) | (refine load_part rfl 31 (.tmp 43) rfl _ 71 rfl _ _ (0, 0) _ _ hS.g0 (OpV.pAt ho) Tryz.underlying31 rfl (id_info _ _) ?_) | (refine load_part rfl 31 (.tmp 50) rfl _ 68 rfl _ _ (0, 0) _ _ hS.g0 (OpV.pObj ho) Tryz.underlying31 rfl (id_info _ _) ?_) | (refine load_part rfl 31 (.tmp 62) rfl _ 68 rfl _ _ (0, 0) _ _ hS.g0 (OpV.pObj ho) Tryz.underlying31 rfl (id_info _ _) ?_) | (refine load_part rfl 31 (.tmp 68) rfl _ 71 rfl _ _ (0, 0) _ _ hS.g0 (OpV.pAt ho) Tryz.underlying31 rfl (id_info _ _) ?_) | (refine wpList_load_row' rfl 40 (.tmp 1) rfl _ rfl 40 _ (0, 0) _ hS.g0 Tryz.underlying40 rfl (op_info _ ho) ?_) | (go_at_call 67; with_reducible (refine (Good_is h1 _).mono ?_); rintro e wn ⟨rfl, hbn⟩; have hS1 := hS.step hbn; clear hS hbn; have hS := hS1; clear hS1; (try clear cT cK cY); obtain ⟨cT, cK, cY⟩ := op_cells ho hS.g0) | (go_at_call 68; with_reducible (refine (K3.out _).mono ?_); rintro e wn ⟨rfl, hbn⟩; have hS1 := hS.step hbn; clear hS hbn; have hS := hS1; clear hS1; (try clear cT cK cY); obtain ⟨cT, cK, cY⟩ := op_cells ho hS.g0) | (go_at_call 69; with_reducible (refine (K4.out _ hS.below).mono ?_); rintro e wn ⟨rfl, hbn⟩; have hS1 := hS.step hbn; clear hS hbn; have hS := hS1; clear hS1; (try clear cT cK cY); obtain ⟨cT, cK, cY⟩ := op_cells ho hS.g0) | (go_at_call 70; with_reducible (refine (HV.out _ hS.below).mono ?_); rintro e wn ⟨⟨nv, rfl⟩, hbn⟩; have hS1 := hS.step hbn; clear hS hbn; have hS := hS1; clear hS1; (try clear cT cK cY); obtain ⟨cT, cK, cY⟩ := op_cells ho hS.g0))
  go_ret
  exact ⟨ret_bool hh.out.symm, hS.below⟩
set_option maxRecDepth 100000 in
set_option maxHeartbeats 2000000 in
theorem oGood_un (h1 : goodB o.R o.N = true) (h2 : 1 ≤ o.T) (h3 : seenB o = true) (h4 : makesB o vg vz = true) (h5 : (o.K == 1) = false) (h5' : (o.K == 2) = true) (h6 : kv = true) (h7 : o.key.size ≤ 4096) (h8 : (o.AR == 0) = true) (h9 : (o.AN == 0) = false) : Calls Tryz.prog 41 #[opv o] w fun e w' => e = .returned (.bool (opB o vg vz kv)) ∧ Below w.heap.size w w' := by
  have hh : Hid (opB o vg vz kv = false) := by unfold Hid opB; rw [h1, h3, h4, decide_eq_true h2]; simp [h5, h5', h9]
  have hS : Sees w (w.alloc (Obj.cells o.c 40)) [(w.heap.size, Obj.cells o.c 40)] := (Sees.start w).alloc _
  have a2 := OpV.g2 (o := o)
  have a67 := OpV.g67 ho
  have a70 := OpV.g70 ho
  have h2b : decide (o.T < 1) = false := by simp; omega
  have k3 := seen_is o vg vz kv w ho HG HZ HV h1 h3
  have K3 := Lib.hid k3
  have k4 := makes_is o vg vz kv w ho HG HZ HV h4
  have K4 := Lib.hid k4
  clear k3 k4
  subst h6; have h7b : decide ((o.key.size : Int) ≤ 4096) = true := (by simp; omega); have h7c : decide (o.key.size ≤ 4096) = true := (by simp; omega)
  go_enter Tryz.func41, Tryz.ntmps41
  go_wp2_with (first | go_skip | (refine load_part rfl 31 (.tmp 5) rfl _ 0 rfl _ _ (0, 0) _ _ hS.g0 OpV.pId Tryz.underlying31 rfl (id_info _ _) ?_) | (refine load_part rfl 31 (.tmp 43) rfl _ 71 rfl _ _ (0, 0) _ _ hS.g0 (OpV.pAt ho) Tryz.underlying31 rfl (id_info _ _) ?_) | (refine load_part rfl 31 (.tmp 50) rfl _ 68 rfl _ _ (0, 0) _ _ hS.g0 (OpV.pObj ho) Tryz.underlying31 rfl (id_info _ _) ?_) | (refine load_part rfl 31 (.tmp 62) rfl _ 68 rfl _ _ (0, 0) _ _ hS.g0 (OpV.pObj ho) Tryz.underlying31 rfl (id_info _ _) ?_) | (refine load_part rfl 31 (.tmp 68) rfl _ 71 rfl _ _ (0, 0) _ _ hS.g0 (OpV.pAt ho) Tryz.underlying31 rfl (id_info _ _) ?_) | (refine wpList_load_row' rfl 40 (.tmp 1) rfl _ rfl 40 _ (0, 0) _ hS.g0 Tryz.underlying40 rfl (op_info _ ho) ?_) | (go_at_call 67; with_reducible (refine (Good_is h1 _).mono ?_); rintro e wn ⟨rfl, hbn⟩; have hS1 := hS.step hbn; clear hS hbn; have hS := hS1; clear hS1; (try clear cT cK cY); obtain ⟨cT, cK, cY⟩ := op_cells ho hS.g0) | (go_at_call 68; with_reducible (refine (K3.out _).mono ?_); rintro e wn ⟨rfl, hbn⟩; have hS1 := hS.step hbn; clear hS hbn; have hS := hS1; clear hS1; (try clear cT cK cY); obtain ⟨cT, cK, cY⟩ := op_cells ho hS.g0) | (go_at_call 69; with_reducible (refine (K4.out _ hS.below).mono ?_); rintro e wn ⟨rfl, hbn⟩; have hS1 := hS.step hbn; clear hS hbn; have hS := hS1; clear hS1; (try clear cT cK cY); obtain ⟨cT, cK, cY⟩ := op_cells ho hS.g0) | (go_at_call 70; with_reducible (refine (HV.out _ hS.below).mono ?_); rintro e wn ⟨⟨nv, rfl⟩, hbn⟩; have hS1 := hS.step hbn; clear hS hbn; have hS := hS1; clear hS1; (try clear cT cK cY); obtain ⟨cT, cK, cY⟩ := op_cells ho hS.g0))
  go_ret
  exact ⟨ret_bool hh.out.symm, hS.below⟩
set_option maxRecDepth 100000 in
set_option maxHeartbeats 2000000 in
theorem oGood_ug (h1 : goodB o.R o.N = true) (h2 : 1 ≤ o.T) (h3 : seenB o = true) (h4 : makesB o vg vz = true) (h5 : (o.K == 1) = false) (h5' : (o.K == 2) = true) (h6 : kv = true) (h7 : o.key.size ≤ 4096) (h8 : (o.AR == 0) = true) (h9 : (o.AN == 0) = true) : Calls Tryz.prog 41 #[opv o] w fun e w' => e = .returned (.bool (opB o vg vz kv)) ∧ Below w.heap.size w w' := by
  have hh : Hid (opB o vg vz kv = namedB o o.OR o.ON true) := by unfold Hid opB; rw [h1, h3, h4, decide_eq_true h2]; simp [h5, h5', h6, h7, h8, h9]
  have hS : Sees w (w.alloc (Obj.cells o.c 40)) [(w.heap.size, Obj.cells o.c 40)] := (Sees.start w).alloc _
  have a2 := OpV.g2 (o := o)
  have a67 := OpV.g67 ho
  have a70 := OpV.g70 ho
  have h2b : decide (o.T < 1) = false := by simp; omega
  have k3 := seen_is o vg vz kv w ho HG HZ HV h1 h3
  have K3 := Lib.hid k3
  have k4 := makes_is o vg vz kv w ho HG HZ HV h4
  have K4 := Lib.hid k4
  clear k3 k4
  subst h6; have h7b : decide ((o.key.size : Int) ≤ 4096) = true := (by simp; omega); have h7c : decide (o.key.size ≤ 4096) = true := (by simp; omega)
  go_enter Tryz.func41, Tryz.ntmps41
  go_wp2_with (first | go_skip | (refine load_part rfl 31 (.tmp 5) rfl _ 0 rfl _ _ (0, 0) _ _ hS.g0 OpV.pId Tryz.underlying31 rfl (id_info _ _) ?_) | (refine load_part rfl 31 (.tmp 43) rfl _ 71 rfl _ _ (0, 0) _ _ hS.g0 (OpV.pAt ho) Tryz.underlying31 rfl (id_info _ _) ?_) | (refine load_part rfl 31 (.tmp 50) rfl _ 68 rfl _ _ (0, 0) _ _ hS.g0 (OpV.pObj ho) Tryz.underlying31 rfl (id_info _ _) ?_) | (refine load_part rfl 31 (.tmp 62) rfl _ 68 rfl _ _ (0, 0) _ _ hS.g0 (OpV.pObj ho) Tryz.underlying31 rfl (id_info _ _) ?_) | (refine load_part rfl 31 (.tmp 68) rfl _ 71 rfl _ _ (0, 0) _ _ hS.g0 (OpV.pAt ho) Tryz.underlying31 rfl (id_info _ _) ?_) | (refine wpList_load_row' rfl 40 (.tmp 1) rfl _ rfl 40 _ (0, 0) _ hS.g0 Tryz.underlying40 rfl (op_info _ ho) ?_) | (go_at_call 67; with_reducible (refine (Good_is h1 _).mono ?_); rintro e wn ⟨rfl, hbn⟩; have hS1 := hS.step hbn; clear hS hbn; have hS := hS1; clear hS1; (try clear cT cK cY); obtain ⟨cT, cK, cY⟩ := op_cells ho hS.g0) | (go_at_call 68; with_reducible (refine (K3.out _).mono ?_); rintro e wn ⟨rfl, hbn⟩; have hS1 := hS.step hbn; clear hS hbn; have hS := hS1; clear hS1; (try clear cT cK cY); obtain ⟨cT, cK, cY⟩ := op_cells ho hS.g0) | (go_at_call 69; with_reducible (refine (K4.out _ hS.below).mono ?_); rintro e wn ⟨rfl, hbn⟩; have hS1 := hS.step hbn; clear hS hbn; have hS := hS1; clear hS1; (try clear cT cK cY); obtain ⟨cT, cK, cY⟩ := op_cells ho hS.g0) | (go_at_call 70; with_reducible (refine (HV.out _ hS.below).mono ?_); rintro e wn ⟨⟨nv, rfl⟩, hbn⟩; have hS1 := hS.step hbn; clear hS hbn; have hS := hS1; clear hS1; (try clear cT cK cY); obtain ⟨cT, cK, cY⟩ := op_cells ho hS.g0) | (go_at_call 71; with_reducible (refine (named_any _ _ _ _ _ ho).mono ?_); rintro e wn ⟨rfl, hbn⟩; have hS1 := hS.step hbn; clear hS hbn; have hS := hS1; clear hS1; (try clear cT cK cY); obtain ⟨cT, cK, cY⟩ := op_cells ho hS.g0))
  go_ret
  exact ⟨ret_bool hh.out.symm, hS.below⟩
theorem named_is {r n : Int} {nb b : Bool} (h : namedB o r n nb = b) (W : World) : Calls Tryz.prog 71 #[opv o, .agg #[.int .i64 r, .int .i64 n], .bool nb] W fun e w' => e = .returned (.bool b) ∧ Below W.heap.size W w' := h ▸ named_any o r n nb W ho
set_option maxRecDepth 100000 in
set_option maxHeartbeats 2000000 in
theorem oGood_ik (h1 : goodB o.R o.N = true) (h2 : 1 ≤ o.T) (h3 : seenB o = true) (h4 : makesB o vg vz = true) (h5 : (o.K == 1) = false) (h5' : (o.K == 2) = false) (h5'' : (o.K == 3) = true) (h6 : o.key.toList.isEmpty = false) : Calls Tryz.prog 41 #[opv o] w fun e w' => e = .returned (.bool (opB o vg vz kv)) ∧ Below w.heap.size w w' := by
  have hh : Hid (opB o vg vz kv = false) := by unfold Hid opB; rw [h1, h3, h4, decide_eq_true h2]; simp [h5, h5', h5'', h6]
  have hS : Sees w (w.alloc (Obj.cells o.c 40)) [(w.heap.size, Obj.cells o.c 40)] := (Sees.start w).alloc _
  have a2 := OpV.g2 (o := o)
  have a67 := OpV.g67 ho
  have a70 := OpV.g70 ho
  have h2b : decide (o.T < 1) = false := by simp; omega
  have k3 := seen_is o vg vz kv w ho HG HZ HV h1 h3
  have K3 := Lib.hid k3
  have k4 := makes_is o vg vz kv w ho HG HZ HV h4
  have K4 := Lib.hid k4
  clear k3 k4
  have h6b : (o.key.toList == []) = false := by cases hl : o.key.toList <;> simp_all
  go_enter Tryz.func41, Tryz.ntmps41
  go_wp2_with (first | go_skip | (refine load_part rfl 31 (.tmp 5) rfl _ 0 rfl _ _ (0, 0) _ _ hS.g0 OpV.pId Tryz.underlying31 rfl (id_info _ _) ?_) | (refine load_part rfl 31 (.tmp 43) rfl _ 71 rfl _ _ (0, 0) _ _ hS.g0 (OpV.pAt ho) Tryz.underlying31 rfl (id_info _ _) ?_) | (refine load_part rfl 31 (.tmp 50) rfl _ 68 rfl _ _ (0, 0) _ _ hS.g0 (OpV.pObj ho) Tryz.underlying31 rfl (id_info _ _) ?_) | (refine load_part rfl 31 (.tmp 62) rfl _ 68 rfl _ _ (0, 0) _ _ hS.g0 (OpV.pObj ho) Tryz.underlying31 rfl (id_info _ _) ?_) | (refine load_part rfl 31 (.tmp 68) rfl _ 71 rfl _ _ (0, 0) _ _ hS.g0 (OpV.pAt ho) Tryz.underlying31 rfl (id_info _ _) ?_) | (refine wpList_load_row' rfl 40 (.tmp 1) rfl _ rfl 40 _ (0, 0) _ hS.g0 Tryz.underlying40 rfl (op_info _ ho) ?_) | (go_at_call 67; with_reducible (refine (Good_is h1 _).mono ?_); rintro e wn ⟨rfl, hbn⟩; have hS1 := hS.step hbn; clear hS hbn; have hS := hS1; clear hS1; (try clear cT cK cY); obtain ⟨cT, cK, cY⟩ := op_cells ho hS.g0) | (go_at_call 68; with_reducible (refine (K3.out _).mono ?_); rintro e wn ⟨rfl, hbn⟩; have hS1 := hS.step hbn; clear hS hbn; have hS := hS1; clear hS1; (try clear cT cK cY); obtain ⟨cT, cK, cY⟩ := op_cells ho hS.g0) | (go_at_call 69; with_reducible (refine (K4.out _ hS.below).mono ?_); rintro e wn ⟨rfl, hbn⟩; have hS1 := hS.step hbn; clear hS hbn; have hS := hS1; clear hS1; (try clear cT cK cY); obtain ⟨cT, cK, cY⟩ := op_cells ho hS.g0) | (go_at_call 70; with_reducible (refine (HV.out _ hS.below).mono ?_); rintro e wn ⟨⟨nv, rfl⟩, hbn⟩; have hS1 := hS.step hbn; clear hS hbn; have hS := hS1; clear hS1; (try clear cT cK cY); obtain ⟨cT, cK, cY⟩ := op_cells ho hS.g0))
  go_ret
  exact ⟨ret_bool hh.out.symm, hS.below⟩
set_option maxRecDepth 100000 in
set_option maxHeartbeats 2000000 in
theorem oGood_im (h1 : goodB o.R o.N = true) (h2 : 1 ≤ o.T) (h3 : seenB o = true) (h4 : makesB o vg vz = true) (h5 : (o.K == 1) = false) (h5' : (o.K == 2) = false) (h5'' : (o.K == 3) = true) (h6 : o.key.toList.isEmpty = true) (h7 : namedB o o.OR o.ON false = false) : Calls Tryz.prog 41 #[opv o] w fun e w' => e = .returned (.bool (opB o vg vz kv)) ∧ Below w.heap.size w w' := by
  have hh : Hid (opB o vg vz kv = false) := by unfold Hid opB; rw [h1, h3, h4, decide_eq_true h2]; simp [h5, h5', h5'', h6, h7]
  have hS : Sees w (w.alloc (Obj.cells o.c 40)) [(w.heap.size, Obj.cells o.c 40)] := (Sees.start w).alloc _
  have a2 := OpV.g2 (o := o)
  have a67 := OpV.g67 ho
  have a70 := OpV.g70 ho
  have h2b : decide (o.T < 1) = false := by simp; omega
  have k3 := seen_is o vg vz kv w ho HG HZ HV h1 h3
  have K3 := Lib.hid k3
  have k4 := makes_is o vg vz kv w ho HG HZ HV h4
  have K4 := Lib.hid k4
  clear k3 k4
  have h6b : (o.key.toList == []) = true := (by cases hl : o.key.toList <;> simp_all); have n7 := named_is o vg vz kv w ho HG HZ HV h7; have N7 := Lib.hid n7; clear n7
  go_enter Tryz.func41, Tryz.ntmps41
  go_wp2_with (first | go_skip | (refine load_part rfl 31 (.tmp 5) rfl _ 0 rfl _ _ (0, 0) _ _ hS.g0 OpV.pId Tryz.underlying31 rfl (id_info _ _) ?_) | (refine load_part rfl 31 (.tmp 43) rfl _ 71 rfl _ _ (0, 0) _ _ hS.g0 (OpV.pAt ho) Tryz.underlying31 rfl (id_info _ _) ?_) | (refine load_part rfl 31 (.tmp 50) rfl _ 68 rfl _ _ (0, 0) _ _ hS.g0 (OpV.pObj ho) Tryz.underlying31 rfl (id_info _ _) ?_) | (refine load_part rfl 31 (.tmp 62) rfl _ 68 rfl _ _ (0, 0) _ _ hS.g0 (OpV.pObj ho) Tryz.underlying31 rfl (id_info _ _) ?_) | (refine load_part rfl 31 (.tmp 68) rfl _ 71 rfl _ _ (0, 0) _ _ hS.g0 (OpV.pAt ho) Tryz.underlying31 rfl (id_info _ _) ?_) | (refine wpList_load_row' rfl 40 (.tmp 1) rfl _ rfl 40 _ (0, 0) _ hS.g0 Tryz.underlying40 rfl (op_info _ ho) ?_) | (go_at_call 67; with_reducible (refine (Good_is h1 _).mono ?_); rintro e wn ⟨rfl, hbn⟩; have hS1 := hS.step hbn; clear hS hbn; have hS := hS1; clear hS1; (try clear cT cK cY); obtain ⟨cT, cK, cY⟩ := op_cells ho hS.g0) | (go_at_call 68; with_reducible (refine (K3.out _).mono ?_); rintro e wn ⟨rfl, hbn⟩; have hS1 := hS.step hbn; clear hS hbn; have hS := hS1; clear hS1; (try clear cT cK cY); obtain ⟨cT, cK, cY⟩ := op_cells ho hS.g0) | (go_at_call 69; with_reducible (refine (K4.out _ hS.below).mono ?_); rintro e wn ⟨rfl, hbn⟩; have hS1 := hS.step hbn; clear hS hbn; have hS := hS1; clear hS1; (try clear cT cK cY); obtain ⟨cT, cK, cY⟩ := op_cells ho hS.g0) | (go_at_call 70; with_reducible (refine (HV.out _ hS.below).mono ?_); rintro e wn ⟨⟨nv, rfl⟩, hbn⟩; have hS1 := hS.step hbn; clear hS hbn; have hS := hS1; clear hS1; (try clear cT cK cY); obtain ⟨cT, cK, cY⟩ := op_cells ho hS.g0) | (go_at_call 71; with_reducible (refine (N7.out _).mono ?_); rintro e wn ⟨rfl, hbn⟩; have hS1 := hS.step hbn; clear hS hbn; have hS := hS1; clear hS1; (try clear cT cK cY); obtain ⟨cT, cK, cY⟩ := op_cells ho hS.g0))
  go_ret
  exact ⟨ret_bool hh.out.symm, hS.below⟩
set_option maxRecDepth 100000 in
set_option maxHeartbeats 2000000 in
theorem oGood_ig (h1 : goodB o.R o.N = true) (h2 : 1 ≤ o.T) (h3 : seenB o = true) (h4 : makesB o vg vz = true) (h5 : (o.K == 1) = false) (h5' : (o.K == 2) = false) (h5'' : (o.K == 3) = true) (h6 : o.key.toList.isEmpty = true) (h7 : namedB o o.OR o.ON false = true) : Calls Tryz.prog 41 #[opv o] w fun e w' => e = .returned (.bool (opB o vg vz kv)) ∧ Below w.heap.size w w' := by
  have hh : Hid (opB o vg vz kv = namedB o o.AR o.AN true) := by unfold Hid opB; rw [h1, h3, h4, decide_eq_true h2]; simp [h5, h5', h5'', h6, h7]
  have hS : Sees w (w.alloc (Obj.cells o.c 40)) [(w.heap.size, Obj.cells o.c 40)] := (Sees.start w).alloc _
  have a2 := OpV.g2 (o := o)
  have a67 := OpV.g67 ho
  have a70 := OpV.g70 ho
  have h2b : decide (o.T < 1) = false := by simp; omega
  have k3 := seen_is o vg vz kv w ho HG HZ HV h1 h3
  have K3 := Lib.hid k3
  have k4 := makes_is o vg vz kv w ho HG HZ HV h4
  have K4 := Lib.hid k4
  clear k3 k4
  have h6b : (o.key.toList == []) = true := (by cases hl : o.key.toList <;> simp_all); have n7 := named_is o vg vz kv w ho HG HZ HV h7; have N7 := Lib.hid n7; clear n7
  go_enter Tryz.func41, Tryz.ntmps41
  go_wp2_with (first | go_skip | (refine load_part rfl 31 (.tmp 5) rfl _ 0 rfl _ _ (0, 0) _ _ hS.g0 OpV.pId Tryz.underlying31 rfl (id_info _ _) ?_) | (refine load_part rfl 31 (.tmp 43) rfl _ 71 rfl _ _ (0, 0) _ _ hS.g0 (OpV.pAt ho) Tryz.underlying31 rfl (id_info _ _) ?_) | (refine load_part rfl 31 (.tmp 50) rfl _ 68 rfl _ _ (0, 0) _ _ hS.g0 (OpV.pObj ho) Tryz.underlying31 rfl (id_info _ _) ?_) | (refine load_part rfl 31 (.tmp 62) rfl _ 68 rfl _ _ (0, 0) _ _ hS.g0 (OpV.pObj ho) Tryz.underlying31 rfl (id_info _ _) ?_) | (refine load_part rfl 31 (.tmp 68) rfl _ 71 rfl _ _ (0, 0) _ _ hS.g0 (OpV.pAt ho) Tryz.underlying31 rfl (id_info _ _) ?_) | (refine wpList_load_row' rfl 40 (.tmp 1) rfl _ rfl 40 _ (0, 0) _ hS.g0 Tryz.underlying40 rfl (op_info _ ho) ?_) | (go_at_call 67; with_reducible (refine (Good_is h1 _).mono ?_); rintro e wn ⟨rfl, hbn⟩; have hS1 := hS.step hbn; clear hS hbn; have hS := hS1; clear hS1; (try clear cT cK cY); obtain ⟨cT, cK, cY⟩ := op_cells ho hS.g0) | (go_at_call 68; with_reducible (refine (K3.out _).mono ?_); rintro e wn ⟨rfl, hbn⟩; have hS1 := hS.step hbn; clear hS hbn; have hS := hS1; clear hS1; (try clear cT cK cY); obtain ⟨cT, cK, cY⟩ := op_cells ho hS.g0) | (go_at_call 69; with_reducible (refine (K4.out _ hS.below).mono ?_); rintro e wn ⟨rfl, hbn⟩; have hS1 := hS.step hbn; clear hS hbn; have hS := hS1; clear hS1; (try clear cT cK cY); obtain ⟨cT, cK, cY⟩ := op_cells ho hS.g0) | (go_at_call 70; with_reducible (refine (HV.out _ hS.below).mono ?_); rintro e wn ⟨⟨nv, rfl⟩, hbn⟩; have hS1 := hS.step hbn; clear hS hbn; have hS := hS1; clear hS1; (try clear cT cK cY); obtain ⟨cT, cK, cY⟩ := op_cells ho hS.g0) | (go_at_call 71; with_reducible (refine (N7.out _).mono ?_); rintro e wn ⟨rfl, hbn⟩; have hS1 := hS.step hbn; clear hS hbn; have hS := hS1; clear hS1; (try clear cT cK cY); obtain ⟨cT, cK, cY⟩ := op_cells ho hS.g0) | (go_at_call 71; with_reducible (refine (named_any _ _ _ _ _ ho).mono ?_); rintro e wn ⟨rfl, hbn⟩; have hS1 := hS.step hbn; clear hS hbn; have hS := hS1; clear hS1; (try clear cT cK cY); obtain ⟨cT, cK, cY⟩ := op_cells ho hS.g0))
  go_ret
  exact ⟨ret_bool hh.out.symm, hS.below⟩
set_option maxRecDepth 100000 in
set_option maxHeartbeats 2000000 in
theorem oGood_dk (h1 : goodB o.R o.N = true) (h2 : 1 ≤ o.T) (h3 : seenB o = true) (h4 : makesB o vg vz = true) (h5 : (o.K == 1) = false) (h5' : (o.K == 2) = false) (h5'' : (o.K == 3) = false) (h5''' : (o.K == 4) = true) (h6 : o.key.toList.isEmpty = false) : Calls Tryz.prog 41 #[opv o] w fun e w' => e = .returned (.bool (opB o vg vz kv)) ∧ Below w.heap.size w w' := by
  have hh : Hid (opB o vg vz kv = false) := by unfold Hid opB; rw [h1, h3, h4, decide_eq_true h2]; simp [h5, h5', h5'', h5''', h6]
  have hS : Sees w (w.alloc (Obj.cells o.c 40)) [(w.heap.size, Obj.cells o.c 40)] := (Sees.start w).alloc _
  have a2 := OpV.g2 (o := o)
  have a67 := OpV.g67 ho
  have a70 := OpV.g70 ho
  have h2b : decide (o.T < 1) = false := by simp; omega
  have k3 := seen_is o vg vz kv w ho HG HZ HV h1 h3
  have K3 := Lib.hid k3
  have k4 := makes_is o vg vz kv w ho HG HZ HV h4
  have K4 := Lib.hid k4
  clear k3 k4
  have h6b : (o.key.toList == []) = false := by cases hl : o.key.toList <;> simp_all
  go_enter Tryz.func41, Tryz.ntmps41
  go_wp2_with (first | go_skip | (refine load_part rfl 31 (.tmp 5) rfl _ 0 rfl _ _ (0, 0) _ _ hS.g0 OpV.pId Tryz.underlying31 rfl (id_info _ _) ?_) | (refine load_part rfl 31 (.tmp 43) rfl _ 71 rfl _ _ (0, 0) _ _ hS.g0 (OpV.pAt ho) Tryz.underlying31 rfl (id_info _ _) ?_) | (refine load_part rfl 31 (.tmp 50) rfl _ 68 rfl _ _ (0, 0) _ _ hS.g0 (OpV.pObj ho) Tryz.underlying31 rfl (id_info _ _) ?_) | (refine load_part rfl 31 (.tmp 62) rfl _ 68 rfl _ _ (0, 0) _ _ hS.g0 (OpV.pObj ho) Tryz.underlying31 rfl (id_info _ _) ?_) | (refine load_part rfl 31 (.tmp 68) rfl _ 71 rfl _ _ (0, 0) _ _ hS.g0 (OpV.pAt ho) Tryz.underlying31 rfl (id_info _ _) ?_) | (refine wpList_load_row' rfl 40 (.tmp 1) rfl _ rfl 40 _ (0, 0) _ hS.g0 Tryz.underlying40 rfl (op_info _ ho) ?_) | (go_at_call 67; with_reducible (refine (Good_is h1 _).mono ?_); rintro e wn ⟨rfl, hbn⟩; have hS1 := hS.step hbn; clear hS hbn; have hS := hS1; clear hS1; (try clear cT cK cY); obtain ⟨cT, cK, cY⟩ := op_cells ho hS.g0) | (go_at_call 68; with_reducible (refine (K3.out _).mono ?_); rintro e wn ⟨rfl, hbn⟩; have hS1 := hS.step hbn; clear hS hbn; have hS := hS1; clear hS1; (try clear cT cK cY); obtain ⟨cT, cK, cY⟩ := op_cells ho hS.g0) | (go_at_call 69; with_reducible (refine (K4.out _ hS.below).mono ?_); rintro e wn ⟨rfl, hbn⟩; have hS1 := hS.step hbn; clear hS hbn; have hS := hS1; clear hS1; (try clear cT cK cY); obtain ⟨cT, cK, cY⟩ := op_cells ho hS.g0) | (go_at_call 70; with_reducible (refine (HV.out _ hS.below).mono ?_); rintro e wn ⟨⟨nv, rfl⟩, hbn⟩; have hS1 := hS.step hbn; clear hS hbn; have hS := hS1; clear hS1; (try clear cT cK cY); obtain ⟨cT, cK, cY⟩ := op_cells ho hS.g0))
  go_ret
  exact ⟨ret_bool hh.out.symm, hS.below⟩
set_option maxRecDepth 100000 in
set_option maxHeartbeats 2000000 in
theorem oGood_dm (h1 : goodB o.R o.N = true) (h2 : 1 ≤ o.T) (h3 : seenB o = true) (h4 : makesB o vg vz = true) (h5 : (o.K == 1) = false) (h5' : (o.K == 2) = false) (h5'' : (o.K == 3) = false) (h5''' : (o.K == 4) = true) (h6 : o.key.toList.isEmpty = true) (h7 : namedB o o.OR o.ON false = false) : Calls Tryz.prog 41 #[opv o] w fun e w' => e = .returned (.bool (opB o vg vz kv)) ∧ Below w.heap.size w w' := by
  have hh : Hid (opB o vg vz kv = false) := by unfold Hid opB; rw [h1, h3, h4, decide_eq_true h2]; simp [h5, h5', h5'', h5''', h6, h7]
  have hS : Sees w (w.alloc (Obj.cells o.c 40)) [(w.heap.size, Obj.cells o.c 40)] := (Sees.start w).alloc _
  have a2 := OpV.g2 (o := o)
  have a67 := OpV.g67 ho
  have a70 := OpV.g70 ho
  have h2b : decide (o.T < 1) = false := by simp; omega
  have k3 := seen_is o vg vz kv w ho HG HZ HV h1 h3
  have K3 := Lib.hid k3
  have k4 := makes_is o vg vz kv w ho HG HZ HV h4
  have K4 := Lib.hid k4
  clear k3 k4
  have h6b : (o.key.toList == []) = true := (by cases hl : o.key.toList <;> simp_all); have n7 := named_is o vg vz kv w ho HG HZ HV h7; have N7 := Lib.hid n7; clear n7
  go_enter Tryz.func41, Tryz.ntmps41
  go_wp2_with (first | go_skip | (refine load_part rfl 31 (.tmp 5) rfl _ 0 rfl _ _ (0, 0) _ _ hS.g0 OpV.pId Tryz.underlying31 rfl (id_info _ _) ?_) | (refine load_part rfl 31 (.tmp 43) rfl _ 71 rfl _ _ (0, 0) _ _ hS.g0 (OpV.pAt ho) Tryz.underlying31 rfl (id_info _ _) ?_) | (refine load_part rfl 31 (.tmp 50) rfl _ 68 rfl _ _ (0, 0) _ _ hS.g0 (OpV.pObj ho) Tryz.underlying31 rfl (id_info _ _) ?_) | (refine load_part rfl 31 (.tmp 62) rfl _ 68 rfl _ _ (0, 0) _ _ hS.g0 (OpV.pObj ho) Tryz.underlying31 rfl (id_info _ _) ?_) | (refine load_part rfl 31 (.tmp 68) rfl _ 71 rfl _ _ (0, 0) _ _ hS.g0 (OpV.pAt ho) Tryz.underlying31 rfl (id_info _ _) ?_) | (refine wpList_load_row' rfl 40 (.tmp 1) rfl _ rfl 40 _ (0, 0) _ hS.g0 Tryz.underlying40 rfl (op_info _ ho) ?_) | (go_at_call 67; with_reducible (refine (Good_is h1 _).mono ?_); rintro e wn ⟨rfl, hbn⟩; have hS1 := hS.step hbn; clear hS hbn; have hS := hS1; clear hS1; (try clear cT cK cY); obtain ⟨cT, cK, cY⟩ := op_cells ho hS.g0) | (go_at_call 68; with_reducible (refine (K3.out _).mono ?_); rintro e wn ⟨rfl, hbn⟩; have hS1 := hS.step hbn; clear hS hbn; have hS := hS1; clear hS1; (try clear cT cK cY); obtain ⟨cT, cK, cY⟩ := op_cells ho hS.g0) | (go_at_call 69; with_reducible (refine (K4.out _ hS.below).mono ?_); rintro e wn ⟨rfl, hbn⟩; have hS1 := hS.step hbn; clear hS hbn; have hS := hS1; clear hS1; (try clear cT cK cY); obtain ⟨cT, cK, cY⟩ := op_cells ho hS.g0) | (go_at_call 70; with_reducible (refine (HV.out _ hS.below).mono ?_); rintro e wn ⟨⟨nv, rfl⟩, hbn⟩; have hS1 := hS.step hbn; clear hS hbn; have hS := hS1; clear hS1; (try clear cT cK cY); obtain ⟨cT, cK, cY⟩ := op_cells ho hS.g0) | (go_at_call 71; with_reducible (refine (N7.out _).mono ?_); rintro e wn ⟨rfl, hbn⟩; have hS1 := hS.step hbn; clear hS hbn; have hS := hS1; clear hS1; (try clear cT cK cY); obtain ⟨cT, cK, cY⟩ := op_cells ho hS.g0))
  go_ret
  exact ⟨ret_bool hh.out.symm, hS.below⟩
set_option maxRecDepth 100000 in
set_option maxHeartbeats 2000000 in
theorem oGood_dg (h1 : goodB o.R o.N = true) (h2 : 1 ≤ o.T) (h3 : seenB o = true) (h4 : makesB o vg vz = true) (h5 : (o.K == 1) = false) (h5' : (o.K == 2) = false) (h5'' : (o.K == 3) = false) (h5''' : (o.K == 4) = true) (h6 : o.key.toList.isEmpty = true) (h7 : namedB o o.OR o.ON false = true) : Calls Tryz.prog 41 #[opv o] w fun e w' => e = .returned (.bool (opB o vg vz kv)) ∧ Below w.heap.size w w' := by
  have hh : Hid (opB o vg vz kv = namedB o o.AR o.AN false) := by unfold Hid opB; rw [h1, h3, h4, decide_eq_true h2]; simp [h5, h5', h5'', h5''', h6, h7]
  have hS : Sees w (w.alloc (Obj.cells o.c 40)) [(w.heap.size, Obj.cells o.c 40)] := (Sees.start w).alloc _
  have a2 := OpV.g2 (o := o)
  have a67 := OpV.g67 ho
  have a70 := OpV.g70 ho
  have h2b : decide (o.T < 1) = false := by simp; omega
  have k3 := seen_is o vg vz kv w ho HG HZ HV h1 h3
  have K3 := Lib.hid k3
  have k4 := makes_is o vg vz kv w ho HG HZ HV h4
  have K4 := Lib.hid k4
  clear k3 k4
  have h6b : (o.key.toList == []) = true := (by cases hl : o.key.toList <;> simp_all); have n7 := named_is o vg vz kv w ho HG HZ HV h7; have N7 := Lib.hid n7; clear n7
  go_enter Tryz.func41, Tryz.ntmps41
  go_wp2_with (first | go_skip | (refine load_part rfl 31 (.tmp 5) rfl _ 0 rfl _ _ (0, 0) _ _ hS.g0 OpV.pId Tryz.underlying31 rfl (id_info _ _) ?_) | (refine load_part rfl 31 (.tmp 43) rfl _ 71 rfl _ _ (0, 0) _ _ hS.g0 (OpV.pAt ho) Tryz.underlying31 rfl (id_info _ _) ?_) | (refine load_part rfl 31 (.tmp 50) rfl _ 68 rfl _ _ (0, 0) _ _ hS.g0 (OpV.pObj ho) Tryz.underlying31 rfl (id_info _ _) ?_) | (refine load_part rfl 31 (.tmp 62) rfl _ 68 rfl _ _ (0, 0) _ _ hS.g0 (OpV.pObj ho) Tryz.underlying31 rfl (id_info _ _) ?_) | (refine load_part rfl 31 (.tmp 68) rfl _ 71 rfl _ _ (0, 0) _ _ hS.g0 (OpV.pAt ho) Tryz.underlying31 rfl (id_info _ _) ?_) | (refine wpList_load_row' rfl 40 (.tmp 1) rfl _ rfl 40 _ (0, 0) _ hS.g0 Tryz.underlying40 rfl (op_info _ ho) ?_) | (go_at_call 67; with_reducible (refine (Good_is h1 _).mono ?_); rintro e wn ⟨rfl, hbn⟩; have hS1 := hS.step hbn; clear hS hbn; have hS := hS1; clear hS1; (try clear cT cK cY); obtain ⟨cT, cK, cY⟩ := op_cells ho hS.g0) | (go_at_call 68; with_reducible (refine (K3.out _).mono ?_); rintro e wn ⟨rfl, hbn⟩; have hS1 := hS.step hbn; clear hS hbn; have hS := hS1; clear hS1; (try clear cT cK cY); obtain ⟨cT, cK, cY⟩ := op_cells ho hS.g0) | (go_at_call 69; with_reducible (refine (K4.out _ hS.below).mono ?_); rintro e wn ⟨rfl, hbn⟩; have hS1 := hS.step hbn; clear hS hbn; have hS := hS1; clear hS1; (try clear cT cK cY); obtain ⟨cT, cK, cY⟩ := op_cells ho hS.g0) | (go_at_call 70; with_reducible (refine (HV.out _ hS.below).mono ?_); rintro e wn ⟨⟨nv, rfl⟩, hbn⟩; have hS1 := hS.step hbn; clear hS hbn; have hS := hS1; clear hS1; (try clear cT cK cY); obtain ⟨cT, cK, cY⟩ := op_cells ho hS.g0) | (go_at_call 71; with_reducible (refine (N7.out _).mono ?_); rintro e wn ⟨rfl, hbn⟩; have hS1 := hS.step hbn; clear hS hbn; have hS := hS1; clear hS1; (try clear cT cK cY); obtain ⟨cT, cK, cY⟩ := op_cells ho hS.g0) | (go_at_call 71; with_reducible (refine (named_any _ _ _ _ _ ho).mono ?_); rintro e wn ⟨rfl, hbn⟩; have hS1 := hS.step hbn; clear hS hbn; have hS := hS1; clear hS1; (try clear cT cK cY); obtain ⟨cT, cK, cY⟩ := op_cells ho hS.g0))
  go_ret
  exact ⟨ret_bool hh.out.symm, hS.below⟩
set_option maxRecDepth 100000 in
set_option maxHeartbeats 2000000 in
theorem oGood_o (h1 : goodB o.R o.N = true) (h2 : 1 ≤ o.T) (h3 : seenB o = true) (h4 : makesB o vg vz = true) (h5 : (o.K == 1) = false) (h5' : (o.K == 2) = false) (h5'' : (o.K == 3) = false) (h5''' : (o.K == 4) = false) : Calls Tryz.prog 41 #[opv o] w fun e w' => e = .returned (.bool (opB o vg vz kv)) ∧ Below w.heap.size w w' := by
  have hh : Hid (opB o vg vz kv = false) := by unfold Hid opB; rw [h1, h3, h4, decide_eq_true h2]; simp [h5, h5', h5'', h5''']
  have hS : Sees w (w.alloc (Obj.cells o.c 40)) [(w.heap.size, Obj.cells o.c 40)] := (Sees.start w).alloc _
  have a2 := OpV.g2 (o := o)
  have a67 := OpV.g67 ho
  have a70 := OpV.g70 ho
  have h2b : decide (o.T < 1) = false := by simp; omega
  have k3 := seen_is o vg vz kv w ho HG HZ HV h1 h3
  have K3 := Lib.hid k3
  have k4 := makes_is o vg vz kv w ho HG HZ HV h4
  have K4 := Lib.hid k4
  clear k3 k4
  skip
  go_enter Tryz.func41, Tryz.ntmps41
  go_wp2_with (first | go_skip | (refine load_part rfl 31 (.tmp 5) rfl _ 0 rfl _ _ (0, 0) _ _ hS.g0 OpV.pId Tryz.underlying31 rfl (id_info _ _) ?_) | (refine load_part rfl 31 (.tmp 43) rfl _ 71 rfl _ _ (0, 0) _ _ hS.g0 (OpV.pAt ho) Tryz.underlying31 rfl (id_info _ _) ?_) | (refine load_part rfl 31 (.tmp 50) rfl _ 68 rfl _ _ (0, 0) _ _ hS.g0 (OpV.pObj ho) Tryz.underlying31 rfl (id_info _ _) ?_) | (refine load_part rfl 31 (.tmp 62) rfl _ 68 rfl _ _ (0, 0) _ _ hS.g0 (OpV.pObj ho) Tryz.underlying31 rfl (id_info _ _) ?_) | (refine load_part rfl 31 (.tmp 68) rfl _ 71 rfl _ _ (0, 0) _ _ hS.g0 (OpV.pAt ho) Tryz.underlying31 rfl (id_info _ _) ?_) | (refine wpList_load_row' rfl 40 (.tmp 1) rfl _ rfl 40 _ (0, 0) _ hS.g0 Tryz.underlying40 rfl (op_info _ ho) ?_) | (go_at_call 67; with_reducible (refine (Good_is h1 _).mono ?_); rintro e wn ⟨rfl, hbn⟩; have hS1 := hS.step hbn; clear hS hbn; have hS := hS1; clear hS1; (try clear cT cK cY); obtain ⟨cT, cK, cY⟩ := op_cells ho hS.g0) | (go_at_call 68; with_reducible (refine (K3.out _).mono ?_); rintro e wn ⟨rfl, hbn⟩; have hS1 := hS.step hbn; clear hS hbn; have hS := hS1; clear hS1; (try clear cT cK cY); obtain ⟨cT, cK, cY⟩ := op_cells ho hS.g0) | (go_at_call 69; with_reducible (refine (K4.out _ hS.below).mono ?_); rintro e wn ⟨rfl, hbn⟩; have hS1 := hS.step hbn; clear hS hbn; have hS := hS1; clear hS1; (try clear cT cK cY); obtain ⟨cT, cK, cY⟩ := op_cells ho hS.g0) | (go_at_call 70; with_reducible (refine (HV.out _ hS.below).mono ?_); rintro e wn ⟨⟨nv, rfl⟩, hbn⟩; have hS1 := hS.step hbn; clear hS hbn; have hS := hS1; clear hS1; (try clear cT cK cY); obtain ⟨cT, cK, cY⟩ := op_cells ho hS.g0))
  go_ret
  exact ⟨ret_bool hh.out.symm, hS.below⟩
theorem oGood_any : Calls Tryz.prog 41 #[opv o] w fun e w' => e = .returned (.bool (opB o vg vz kv)) ∧ Below w.heap.size w w' := by
  cases h1 : goodB o.R o.N
  · exact oGood_1 o vg vz kv w ho HG HZ HV h1
  by_cases h2 : o.T < 1
  · exact oGood_2 o vg vz kv w ho HG HZ HV h1 h2
  have h2' : 1 ≤ o.T := by omega
  cases h3 : seenB o
  · exact oGood_3 o vg vz kv w ho HG HZ HV h1 h2' h3
  cases h4 : makesB o vg vz
  · exact oGood_4 o vg vz kv w ho HG HZ HV h1 h2' h3 h4
  cases h5 : (o.K == 1)
  · cases h5' : (o.K == 2)
    · cases h5'' : (o.K == 3)
      · cases h5''' : (o.K == 4)
        · exact oGood_o o vg vz kv w ho HG HZ HV h1 h2' h3 h4 h5 h5' h5'' h5'''
        · cases h6 : o.key.toList.isEmpty
          · exact oGood_dk o vg vz kv w ho HG HZ HV h1 h2' h3 h4 h5 h5' h5'' h5''' h6
          · cases h7 : namedB o o.OR o.ON false
            · exact oGood_dm o vg vz kv w ho HG HZ HV h1 h2' h3 h4 h5 h5' h5'' h5''' h6 h7
            · exact oGood_dg o vg vz kv w ho HG HZ HV h1 h2' h3 h4 h5 h5' h5'' h5''' h6 h7
      · cases h6 : o.key.toList.isEmpty
        · exact oGood_ik o vg vz kv w ho HG HZ HV h1 h2' h3 h4 h5 h5' h5'' h6
        · cases h7 : namedB o o.OR o.ON false
          · exact oGood_im o vg vz kv w ho HG HZ HV h1 h2' h3 h4 h5 h5' h5'' h6 h7
          · exact oGood_ig o vg vz kv w ho HG HZ HV h1 h2' h3 h4 h5 h5' h5'' h6 h7
    · by_cases h6 : kv = true
      case neg => 
        have h6 : kv = false := by simpa using h6
        exact oGood_uv o vg vz kv w ho HG HZ HV h1 h2' h3 h4 h5 h5' h6
      case pos =>
        by_cases h7 : o.key.size ≤ 4096
        · cases h8 : (o.AR == 0)
          · exact oGood_ur o vg vz kv w ho HG HZ HV h1 h2' h3 h4 h5 h5' h6 h7 h8
          · cases h9 : (o.AN == 0)
            · exact oGood_un o vg vz kv w ho HG HZ HV h1 h2' h3 h4 h5 h5' h6 h7 h8 h9
            · exact oGood_ug o vg vz kv w ho HG HZ HV h1 h2' h3 h4 h5 h5' h6 h7 h8 h9
        · exact oGood_ul o vg vz kv w ho HG HZ HV h1 h2' h3 h4 h5 h5' h6 h7
  · by_cases h6 : kv = true
    case neg => 
      have h6 : kv = false := by simpa using h6
      exact oGood_sv o vg vz kv w ho HG HZ HV h1 h2' h3 h4 h5 h6
    case pos =>
      by_cases h7 : o.key.size ≤ 4096
      · cases h8 : (o.AR == 0)
        · exact oGood_sr o vg vz kv w ho HG HZ HV h1 h2' h3 h4 h5 h6 h7 h8
        · cases h9 : (o.AN == 0)
          · exact oGood_sn o vg vz kv w ho HG HZ HV h1 h2' h3 h4 h5 h6 h7 h8 h9
          · exact oGood_sg o vg vz kv w ho HG HZ HV h1 h2' h3 h4 h5 h6 h7 h8 h9
      · exact oGood_sl o vg vz kv w ho HG HZ HV h1 h2' h3 h4 h5 h6 h7
end
end Go.Proofs.YtffcpmohanhihaaGreatDoor
