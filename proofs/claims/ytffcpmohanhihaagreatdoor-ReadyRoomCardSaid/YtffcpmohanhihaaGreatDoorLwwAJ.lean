/-
  lww.New, Map.Apply, walked. Condition: the library's variables as it lays them.
-/
import Derived.Test.YtffcpmohanhihaaGreatDoorJ17
namespace Go.Proofs.YtffcpmohanhihaaGreatDoor
open Go.RowKit
set_option linter.unusedVariables false
set_option linter.unusedSimpArgs false
set_option linter.unusedSectionVars false
theorem lNew_any (w : World) : Calls Tryz.prog 39 #[] w fun e w' => ∃ p b, e = .returned (.pointer (some ⟨p, 0, none⟩)) ∧ Boxes w w' [(b, wordsO []), (p, headO b)] := by
  have hm := @run_makeMap Tryz.prog
  go_enter Tryz.func39, Tryz.ntmps39
  go_wp2
  go_ret
  have h := ((Boxes.start w).alloc (Obj.map #[] 0)).alloc (headO w.heap.size)
  rw [show (w.alloc (Obj.map #[] 0)).heap.size = w.heap.size + 1 from Array.size_push ..] at h
  exact ⟨_, _, rfl, h⟩
noncomputable def app3 : Array Oper := regOf Tryz.f46 3
noncomputable def app6 : Array Oper := regOf Tryz.f46 6
theorem obj_regrown {w : World} {b : Nat} {o : Obj} (h : w.heap[b]? = some o) : ∀ W, (∃ p : Regrown, W = Go.Sort.grow (redrawn w p.d) p.os) → W.heap[b]? = some o := by
  rintro W ⟨p, rfl⟩
  rw [(below_regrown w p.d p.os).block b (Array.getElem?_eq_some_iff.1 h).1]
  exact h
theorem mapt_under : Tryz.prog.underlying 118 = some (.map 9 40) := Tryz.underlying118
/-- A look-up of a word. -/
theorem look_word {l : Wd} {k : ByteArray} {r : Option OT} (h : assoc l k = r) : lookV true OT.v (.agg zeroO.c) (assoc l k) = .tuple #[opv (r.getD zOT).o, .bool r.isSome] := by
  rw [h]; cases r <;> rfl
section
variable (x : OT) (l : Wd) (p b : Nat) (w : World) (hw : Vars w) (hx : OpIn w x.o x.t)
include hw hx
set_option maxRecDepth 100000 in
set_option maxHeartbeats 1000000 in
theorem apply_kind (h1 : (x.o.K != 1) = true) (h2 : (x.o.K != 2) = true) : Calls Tryz.prog 46 #[.pointer (some ⟨p, 0, none⟩), opv x.o] w fun e w' => e = .returned (.bool false) ∧ Below w.heap.size w w' := by
  have HX := Lib.hid hx; have HV := Lib.hid hw; have hs := hx.seen; have HC0 := Lib.hid (hx.vc); have hS : Boxes w (w.alloc (Obj.cells x.o.c 40)) [(w.heap.size, Obj.cells x.o.c 40)] := (Boxes.start w).alloc (Obj.cells x.o.c 40)
  have x67 : (w.alloc (Obj.cells x.o.c 40)).cell? ⟨w.heap.size, 67, none⟩ = some (.int .i64 x.o.K) := by rw [cell_of_row _ _ _ _ _ _ (hS.at_ 0 rfl)]; exact OpV.g67 hs
  clear hw hx
  go_enter Tryz.func46, Tryz.ntmps46
  go_wp2_with go_skip
  go_ret
  exact ⟨rfl, hS.below⟩
set_option maxRecDepth 100000 in
  set_option maxHeartbeats 1000000 in
  theorem apply_bad1 (h1 : (x.o.K != 1) = false) (hg : x.good = false) : Calls Tryz.prog 46 #[.pointer (some ⟨p, 0, none⟩), opv x.o] w fun e w' => e = .returned (.bool false) ∧ Below w.heap.size w w' := by
    have HX := Lib.hid hx; have HV := Lib.hid hw; have hs := hx.seen; have HC0 := Lib.hid (hx.vc); have hS : Boxes w (w.alloc (Obj.cells x.o.c 40)) [(w.heap.size, Obj.cells x.o.c 40)] := (Boxes.start w).alloc (Obj.cells x.o.c 40)
    have x67 : (w.alloc (Obj.cells x.o.c 40)).cell? ⟨w.heap.size, 67, none⟩ = some (.int .i64 x.o.K) := by rw [cell_of_row _ _ _ _ _ _ (hS.at_ 0 rfl)]; exact OpV.g67 hs
    have hg' : opB x.o (goodT x.t) (sameV x.t .no) (validS x.o.key).2 = false := hg
    clear hw hx hg
    go_enter Tryz.func46, Tryz.ntmps46
    go_wp2_with (first | go_skip | ((with_reducible refine gate_op (op := .load 40 (.tmp 3)) rfl ?_); refine wpList_load_row' rfl 40 (.tmp 3) rfl _ rfl 40 _ (0, 0) _ (hS.at_ 0 rfl) Tryz.underlying40 rfl (op_info _ hs) ?_) | (go_at_call 41; (with_reducible (refine (good_v x.o x.t _ (HV.out.step hS.below) hs HC0.out ((HX.out.tin.move hS.below).up hS.below.size) HX.out.key).mono ?_)); rintro e wn ⟨rfl, hbn⟩; have hS1 := hS.step hbn; clear hS hbn; have hS := hS1; clear hS1))
    go_ret
    exact ⟨rfl, hS.below⟩
set_option maxRecDepth 100000 in
set_option maxHeartbeats 1000000 in
theorem apply_bad2 (h1 : (x.o.K != 1) = true) (h2 : (x.o.K != 2) = false) (hg : x.good = false) : Calls Tryz.prog 46 #[.pointer (some ⟨p, 0, none⟩), opv x.o] w fun e w' => e = .returned (.bool false) ∧ Below w.heap.size w w' := by
  have HX := Lib.hid hx; have HV := Lib.hid hw; have hs := hx.seen; have HC0 := Lib.hid (hx.vc); have hS : Boxes w (w.alloc (Obj.cells x.o.c 40)) [(w.heap.size, Obj.cells x.o.c 40)] := (Boxes.start w).alloc (Obj.cells x.o.c 40)
  have x67 : (w.alloc (Obj.cells x.o.c 40)).cell? ⟨w.heap.size, 67, none⟩ = some (.int .i64 x.o.K) := by rw [cell_of_row _ _ _ _ _ _ (hS.at_ 0 rfl)]; exact OpV.g67 hs
  have hg' : opB x.o (goodT x.t) (sameV x.t .no) (validS x.o.key).2 = false := hg
  clear hw hx hg
  go_enter Tryz.func46, Tryz.ntmps46
  go_wp2_with (first | go_skip | ((with_reducible refine gate_op (op := .load 40 (.tmp 3)) rfl ?_); refine wpList_load_row' rfl 40 (.tmp 3) rfl _ rfl 40 _ (0, 0) _ (hS.at_ 0 rfl) Tryz.underlying40 rfl (op_info _ hs) ?_) | (go_at_call 41; (with_reducible (refine (good_v x.o x.t _ (HV.out.step hS.below) hs HC0.out ((HX.out.tin.move hS.below).up hS.below.size) HX.out.key).mono ?_)); rintro e wn ⟨rfl, hbn⟩; have hS1 := hS.step hbn; clear hS hbn; have hS := hS1; clear hS1))
  go_ret
  exact ⟨rfl, hS.below⟩
variable (hl : WdOk l) (hp : w.heap[p]? = some (headO b)) (hb : w.heap[b]? = some (wordsO l))
include hl hp hb
set_option maxRecDepth 100000 in
set_option maxHeartbeats 2000000 in
theorem apply_old1 (y : OT) (h1 : (x.o.K != 1) = false) (hg : x.good = true) (ha : assoc l x.o.key = some y) (hy : OT.Ok y) (hf : afterB x.o y.o = false) : Calls Tryz.prog 46 #[.pointer (some ⟨p, 0, none⟩), opv x.o] w fun e w' => e = .returned (.bool false) ∧ Below w.heap.size w w' := by
  have HY := Lib.hid hy
  have hys := hy.seen
  clear hy
  have HX := Lib.hid hx; have HV := Lib.hid hw; have hs := hx.seen; have HC0 := Lib.hid (hx.vc); have hS : Boxes w (w.alloc (Obj.cells x.o.c 40)) [(w.heap.size, Obj.cells x.o.c 40)] := (Boxes.start w).alloc (Obj.cells x.o.c 40)
  have x67 : (w.alloc (Obj.cells x.o.c 40)).cell? ⟨w.heap.size, 67, none⟩ = some (.int .i64 x.o.K) := by rw [cell_of_row _ _ _ _ _ _ (hS.at_ 0 rfl)]; exact OpV.g67 hs
  have hg' : opB x.o (goodT x.t) (sameV x.t .no) (validS x.o.key).2 = true := hg
  have HL := Lib.hid hl
  have HP := Lib.hid hp
  have HB := Lib.hid hb
  have hpl : Hid (p < w.heap.size) := Lib.hid (Array.getElem?_eq_some_iff.1 hp).1
  have hbl : Hid (b < w.heap.size) := Lib.hid (Array.getElem?_eq_some_iff.1 hb).1
  have HA := Lib.hid ha
  clear hw hx hg hl hp hb ha
  go_enter Tryz.func46, Tryz.ntmps46
  go_upto_region 3 with (first | go_skip | ((with_reducible refine gate_op (op := .load 40 (.tmp 3)) rfl ?_); refine wpList_load_row' rfl 40 (.tmp 3) rfl _ rfl 40 _ (0, 0) _ (hS.at_ 0 rfl) Tryz.underlying40 rfl (op_info _ hs) ?_) | (go_at_call 41; (with_reducible (refine (good_v x.o x.t _ (HV.out.step hS.below) hs HC0.out ((HX.out.tin.move hS.below).up hS.below.size) HX.out.key).mono ?_)); rintro e wn ⟨rfl, hbn⟩; have hS1 := hS.step hbn; clear hS hbn; have hS := hS1; clear hS1))
  rename World => w3
  have B3 := hS.below
  have p3 : w3.heap[p]? = some (headO b) := (B3.block p hpl.out).trans HP.out
  have b3 : w3.heap[b]? = some (wordsO l) := (B3.block b hbl.out).trans HB.out
  have q1 := cell_regrown (show w3.cell? ⟨p, 0, none⟩ = some (.map (some b)) by rw [cell_of_row _ _ _ _ _ _ p3]; rfl)
  have q2 := cell_regrown (show w3.cell? ⟨w.heap.size, 70, none⟩ = some (.string x.o.key) by rw [cell_of_row _ _ _ _ _ _ (hS.at_ 0 rfl)]; exact OpV.g70 hs)
  clear B3 p3
  refine wp_region_box app3 (by kernel_rfl) 10 (by kernel_rfl) (by kernel_rfl) (by kernel_rfl) (by decide) (by kernel_rfl) (by kernel_rfl) (by kernel_rfl) 40 5 28 (of_decide_eq_true (by kernel_rfl)) (by decide) (by kernel_rfl) (by kernel_rfl) zeroO.c (by kernel_rfl) (by kernel_rfl) ?_
  simp only [List.take_succ_cons, List.take_zero]
  repeat (first | go_big_quiet_skip | (refine BigFrame.wpQuiet_want rfl (fun K hK => ?_); refine quiet_look (.tmp 24) (.tmp 26) true rfl str_key mapt_under HL.out.keys HX.out.key rfl rfl (obj_regrown b3) op_zero (look_word HA.out) ?_; refine hK _ ?_; clear hK K) | (quiet_step (fail)))
  refine wpQuiet_nil ?_
  refine ⟨((some y).getD zOT).o.c, rfl, ((OpV.size (o := zeroO) rfl).trans (OpV.size (o := y.o) hys).symm), (ot_one HY.out.vc), ?_⟩
  intro bz wz hbz hbw hrz
  have hS1 := hS.newer hbz hbw hrz
  clear hS q1 q2 b3
  have hS := hS1
  clear hS1 hbz hbw hrz
  simp only [List.drop_succ_cons, List.drop_zero, Act.put, List.setIfInBounds_toArray, List.set_cons_zero, List.set_cons_succ]
  go_wp2_with (first | go_skip | ((with_reducible refine gate_op (op := .load 40 (.tmp 3)) rfl ?_); refine wpList_load_row' rfl 40 (.tmp 3) rfl _ rfl 40 _ (0, 0) _ (hS.at_ 0 rfl) Tryz.underlying40 rfl (op_info _ hs) ?_) | ((with_reducible refine gate_op (op := .load 40 (.tmp 5)) rfl ?_); refine wpList_load_row' rfl 40 (.tmp 5) rfl _ rfl 40 _ (0, 0) _ (hS.at_ 1 rfl) Tryz.underlying40 rfl (op_info _ hys) ?_) | (go_at_call 77; (with_reducible (refine (After_any x.o y.o _).mono ?_)); rintro e wn ⟨rfl, hbn⟩; have hS1 := hS.step hbn; clear hS hbn; have hS := hS1; clear hS1))
  go_ret
  exact ⟨rfl, hS.below⟩
set_option maxRecDepth 100000 in
set_option maxHeartbeats 2000000 in
theorem apply_old2 (y : OT) (h1 : (x.o.K != 1) = true) (h2 : (x.o.K != 2) = false) (hg : x.good = true) (ha : assoc l x.o.key = some y) (hy : OT.Ok y) (hf : afterB x.o y.o = false) : Calls Tryz.prog 46 #[.pointer (some ⟨p, 0, none⟩), opv x.o] w fun e w' => e = .returned (.bool false) ∧ Below w.heap.size w w' := by
  have HY := Lib.hid hy
  have hys := hy.seen
  clear hy
  have HX := Lib.hid hx; have HV := Lib.hid hw; have hs := hx.seen; have HC0 := Lib.hid (hx.vc); have hS : Boxes w (w.alloc (Obj.cells x.o.c 40)) [(w.heap.size, Obj.cells x.o.c 40)] := (Boxes.start w).alloc (Obj.cells x.o.c 40)
  have x67 : (w.alloc (Obj.cells x.o.c 40)).cell? ⟨w.heap.size, 67, none⟩ = some (.int .i64 x.o.K) := by rw [cell_of_row _ _ _ _ _ _ (hS.at_ 0 rfl)]; exact OpV.g67 hs
  have hg' : opB x.o (goodT x.t) (sameV x.t .no) (validS x.o.key).2 = true := hg
  have HL := Lib.hid hl
  have HP := Lib.hid hp
  have HB := Lib.hid hb
  have hpl : Hid (p < w.heap.size) := Lib.hid (Array.getElem?_eq_some_iff.1 hp).1
  have hbl : Hid (b < w.heap.size) := Lib.hid (Array.getElem?_eq_some_iff.1 hb).1
  have HA := Lib.hid ha
  clear hw hx hg hl hp hb ha
  go_enter Tryz.func46, Tryz.ntmps46
  go_upto_region 3 with (first | go_skip | ((with_reducible refine gate_op (op := .load 40 (.tmp 3)) rfl ?_); refine wpList_load_row' rfl 40 (.tmp 3) rfl _ rfl 40 _ (0, 0) _ (hS.at_ 0 rfl) Tryz.underlying40 rfl (op_info _ hs) ?_) | (go_at_call 41; (with_reducible (refine (good_v x.o x.t _ (HV.out.step hS.below) hs HC0.out ((HX.out.tin.move hS.below).up hS.below.size) HX.out.key).mono ?_)); rintro e wn ⟨rfl, hbn⟩; have hS1 := hS.step hbn; clear hS hbn; have hS := hS1; clear hS1))
  rename World => w3
  have B3 := hS.below
  have p3 : w3.heap[p]? = some (headO b) := (B3.block p hpl.out).trans HP.out
  have b3 : w3.heap[b]? = some (wordsO l) := (B3.block b hbl.out).trans HB.out
  have q1 := cell_regrown (show w3.cell? ⟨p, 0, none⟩ = some (.map (some b)) by rw [cell_of_row _ _ _ _ _ _ p3]; rfl)
  have q2 := cell_regrown (show w3.cell? ⟨w.heap.size, 70, none⟩ = some (.string x.o.key) by rw [cell_of_row _ _ _ _ _ _ (hS.at_ 0 rfl)]; exact OpV.g70 hs)
  clear B3 p3
  refine wp_region_box app3 (by kernel_rfl) 10 (by kernel_rfl) (by kernel_rfl) (by kernel_rfl) (by decide) (by kernel_rfl) (by kernel_rfl) (by kernel_rfl) 40 5 28 (of_decide_eq_true (by kernel_rfl)) (by decide) (by kernel_rfl) (by kernel_rfl) zeroO.c (by kernel_rfl) (by kernel_rfl) ?_
  simp only [List.take_succ_cons, List.take_zero]
  repeat (first | go_big_quiet_skip | (refine BigFrame.wpQuiet_want rfl (fun K hK => ?_); refine quiet_look (.tmp 24) (.tmp 26) true rfl str_key mapt_under HL.out.keys HX.out.key rfl rfl (obj_regrown b3) op_zero (look_word HA.out) ?_; refine hK _ ?_; clear hK K) | (quiet_step (fail)))
  refine wpQuiet_nil ?_
  refine ⟨((some y).getD zOT).o.c, rfl, ((OpV.size (o := zeroO) rfl).trans (OpV.size (o := y.o) hys).symm), (ot_one HY.out.vc), ?_⟩
  intro bz wz hbz hbw hrz
  have hS1 := hS.newer hbz hbw hrz
  clear hS q1 q2 b3
  have hS := hS1
  clear hS1 hbz hbw hrz
  simp only [List.drop_succ_cons, List.drop_zero, Act.put, List.setIfInBounds_toArray, List.set_cons_zero, List.set_cons_succ]
  go_wp2_with (first | go_skip | ((with_reducible refine gate_op (op := .load 40 (.tmp 3)) rfl ?_); refine wpList_load_row' rfl 40 (.tmp 3) rfl _ rfl 40 _ (0, 0) _ (hS.at_ 0 rfl) Tryz.underlying40 rfl (op_info _ hs) ?_) | ((with_reducible refine gate_op (op := .load 40 (.tmp 5)) rfl ?_); refine wpList_load_row' rfl 40 (.tmp 5) rfl _ rfl 40 _ (0, 0) _ (hS.at_ 1 rfl) Tryz.underlying40 rfl (op_info _ hys) ?_) | (go_at_call 77; (with_reducible (refine (After_any x.o y.o _).mono ?_)); rintro e wn ⟨rfl, hbn⟩; have hS1 := hS.step hbn; clear hS hbn; have hS := hS1; clear hS1))
  go_ret
  exact ⟨rfl, hS.below⟩
set_option maxRecDepth 100000 in
set_option maxHeartbeats 2000000 in
theorem apply_new1 (h1 : (x.o.K != 1) = false) (hg : x.good = true) (ha : assoc l x.o.key = none) : Calls Tryz.prog 46 #[.pointer (some ⟨p, 0, none⟩), opv x.o] w fun e w' => ∃ y : OT, e = .returned (.bool true) ∧ OT.Ok y ∧ OT.Same x y ∧ w'.heap[b]? = some (wordsO (assocPut l x.o.key y)) ∧ But b w w' := by
  have HLN := Lib.hid (good_bare hx.vc hg)
  have HX := Lib.hid hx; have HV := Lib.hid hw; have hs := hx.seen; have HC0 := Lib.hid (hx.vc); have hS : Boxes w (w.alloc (Obj.cells x.o.c 40)) [(w.heap.size, Obj.cells x.o.c 40)] := (Boxes.start w).alloc (Obj.cells x.o.c 40)
  have x67 : (w.alloc (Obj.cells x.o.c 40)).cell? ⟨w.heap.size, 67, none⟩ = some (.int .i64 x.o.K) := by rw [cell_of_row _ _ _ _ _ _ (hS.at_ 0 rfl)]; exact OpV.g67 hs
  have hg' : opB x.o (goodT x.t) (sameV x.t .no) (validS x.o.key).2 = true := hg
  have HL := Lib.hid hl
  have HP := Lib.hid hp
  have HB := Lib.hid hb
  have hpl : Hid (p < w.heap.size) := Lib.hid (Array.getElem?_eq_some_iff.1 hp).1
  have hbl : Hid (b < w.heap.size) := Lib.hid (Array.getElem?_eq_some_iff.1 hb).1
  have HA := Lib.hid ha
  clear hw hx hg hl hp hb ha
  go_enter Tryz.func46, Tryz.ntmps46
  go_upto_region 3 with (first | go_skip | ((with_reducible refine gate_op (op := .load 40 (.tmp 3)) rfl ?_); refine wpList_load_row' rfl 40 (.tmp 3) rfl _ rfl 40 _ (0, 0) _ (hS.at_ 0 rfl) Tryz.underlying40 rfl (op_info _ hs) ?_) | (go_at_call 41; (with_reducible (refine (good_v x.o x.t _ (HV.out.step hS.below) hs HC0.out ((HX.out.tin.move hS.below).up hS.below.size) HX.out.key).mono ?_)); rintro e wn ⟨rfl, hbn⟩; have hS1 := hS.step hbn; clear hS hbn; have hS := hS1; clear hS1))
  rename World => w3
  have B3 := hS.below
  have p3 : w3.heap[p]? = some (headO b) := (B3.block p hpl.out).trans HP.out
  have b3 : w3.heap[b]? = some (wordsO l) := (B3.block b hbl.out).trans HB.out
  have q1 := cell_regrown (show w3.cell? ⟨p, 0, none⟩ = some (.map (some b)) by rw [cell_of_row _ _ _ _ _ _ p3]; rfl)
  have q2 := cell_regrown (show w3.cell? ⟨w.heap.size, 70, none⟩ = some (.string x.o.key) by rw [cell_of_row _ _ _ _ _ _ (hS.at_ 0 rfl)]; exact OpV.g70 hs)
  clear B3 p3
  refine wp_region_box app3 (by kernel_rfl) 10 (by kernel_rfl) (by kernel_rfl) (by kernel_rfl) (by decide) (by kernel_rfl) (by kernel_rfl) (by kernel_rfl) 40 5 28 (of_decide_eq_true (by kernel_rfl)) (by decide) (by kernel_rfl) (by kernel_rfl) zeroO.c (by kernel_rfl) (by kernel_rfl) ?_
  simp only [List.take_succ_cons, List.take_zero]
  repeat (first | go_big_quiet_skip | (refine BigFrame.wpQuiet_want rfl (fun K hK => ?_); refine quiet_look (.tmp 24) (.tmp 26) true rfl str_key mapt_under HL.out.keys HX.out.key rfl rfl (obj_regrown b3) op_zero (look_word HA.out) ?_; refine hK _ ?_; clear hK K) | (quiet_step (fail)))
  refine wpQuiet_nil ?_
  refine ⟨((none).getD zOT).o.c, rfl, rfl, (op_one rfl rfl), ?_⟩
  intro bz wz hbz hbw hrz
  have hS1 := hS.newer hbz hbw hrz
  clear hS q1 q2 b3
  have hS := hS1
  clear hS1 hbz hbw hrz
  simp only [List.drop_succ_cons, List.drop_zero, Act.put, List.setIfInBounds_toArray, List.set_cons_zero, List.set_cons_succ]
  go_upto_region 6 with (first | go_skip | ((with_reducible refine gate_op (op := .load 40 (.tmp 3)) rfl ?_); refine wpList_load_row' rfl 40 (.tmp 3) rfl _ rfl 40 _ (0, 0) _ (hS.at_ 0 rfl) Tryz.underlying40 rfl (op_info _ hs) ?_) | ((with_reducible refine gate_op (op := .load 40 (.tmp 5)) rfl ?_); refine wpList_load_row' rfl 40 (.tmp 5) rfl _ rfl 40 _ (0, 0) _ (hS.at_ 1 rfl) Tryz.underlying40 rfl (op_info _ hys) ?_) | (go_at_call 77; (with_reducible (refine (After_any x.o y.o _).mono ?_)); rintro e wn ⟨rfl, hbn⟩; have hS1 := hS.step hbn; clear hS hbn; have hS := hS1; clear hS1))
  rename World => w6
  have B6 := hS.below
  have p6 : w6.heap[p]? = some (headO b) := (B6.block p hpl.out).trans HP.out
  have b6 : w6.heap[b]? = some (wordsO l) := (B6.block b hbl.out).trans HB.out
  have q1 := cell_regrown (show w6.cell? ⟨p, 0, none⟩ = some (.map (some b)) by rw [cell_of_row _ _ _ _ _ _ p6]; rfl)
  have q2 := cell_regrown (show w6.cell? ⟨w.heap.size, 70, none⟩ = some (.string x.o.key) by rw [cell_of_row _ _ _ _ _ _ (hS.at_ 0 rfl)]; exact OpV.g70 hs)
  have r3 := hS.at_ 0 rfl
  have hbel := Lib.hid B6
  clear B6 p6 hS
  refine wp_region_one app6 (by kernel_rfl) 7 (by kernel_rfl) (by kernel_rfl) (by kernel_rfl) (by decide) (by kernel_rfl) (by kernel_rfl) (fun v _ => ∃ y : OT, v = y.v ∧ OT.Ok y ∧ OT.Same x y) ?_
  simp only [List.take_succ_cons, List.take_zero]
  repeat (first | go_big_quiet_skip | (refine BigFrame.wpQuiet_want rfl (fun K hK => ?_); refine quiet_load_row 40 (.tmp 3) rfl _ rfl 40 _ (0, 0) _ (row_regrown r3) Tryz.underlying40 rfl (op_info _ hs) ?_; refine hK _ ?_; clear hK K) | (quiet_step (fail)))
  refine wpQuiet_nil ?_
  intro o ho
  simp only [List.getElem?_toArray, List.getElem?_cons_succ, List.getElem?_cons_zero, Option.some.injEq] at ho
  subst ho
  refine ⟨rfl, ?_, ?_⟩
  · intro W hW
    exact gives_call_ex #[.tmp 43] #[40] rfl (f := 30) Tryz.func30 (by kernel_rfl) rfl #[opv x.o] (one_arg rfl) ((oCopy_any x W (HX.out.ok HLN.out.1 HLN.out.2)).mono fun e w' ⟨y, he, hy, hsy, hb⟩ => ⟨_, he, hW.trans (hb.mono hW.size), y, rfl, hy, hsy⟩)
  intro v W hW hv
  obtain ⟨y2, rfl, hy2, hsy⟩ := hv
  simp only [List.drop_succ_cons, List.drop_zero, Act.put, List.setIfInBounds_toArray, List.set_cons_zero, List.set_cons_succ]
  have bW : W.heap[b]? = some (wordsO l) := (hW.block b (Array.getElem?_eq_some_iff.1 b6).1).trans b6
  refine update_arm rfl (.tmp 40) (.tmp 42) (.tmp 44) rfl str_key mapt_under HL.out.keys HX.out.key rfl rfl y2 rfl bW ?_
  intro wn hgn hon hbn hsn
  have hbut : Hid (But b w wn) := Lib.hid ((But.of_below hbel.out).then ((But.of_below hW).then (But.turn hon hbn)))
  have hfin := Lib.hid hgn
  clear hgn hon hbn hsn bW hW q1 q2 b6 r3
  go_wp2_with go_skip
  go_ret
  exact ⟨y2, rfl, hy2, hsy, hfin.out, hbut.out⟩
set_option maxRecDepth 100000 in
set_option maxHeartbeats 2000000 in
theorem apply_new2 (h1 : (x.o.K != 1) = true) (h2 : (x.o.K != 2) = false) (hg : x.good = true) (ha : assoc l x.o.key = none) : Calls Tryz.prog 46 #[.pointer (some ⟨p, 0, none⟩), opv x.o] w fun e w' => ∃ y : OT, e = .returned (.bool true) ∧ OT.Ok y ∧ OT.Same x y ∧ w'.heap[b]? = some (wordsO (assocPut l x.o.key y)) ∧ But b w w' := by
  have HLN := Lib.hid (good_bare hx.vc hg)
  have HX := Lib.hid hx; have HV := Lib.hid hw; have hs := hx.seen; have HC0 := Lib.hid (hx.vc); have hS : Boxes w (w.alloc (Obj.cells x.o.c 40)) [(w.heap.size, Obj.cells x.o.c 40)] := (Boxes.start w).alloc (Obj.cells x.o.c 40)
  have x67 : (w.alloc (Obj.cells x.o.c 40)).cell? ⟨w.heap.size, 67, none⟩ = some (.int .i64 x.o.K) := by rw [cell_of_row _ _ _ _ _ _ (hS.at_ 0 rfl)]; exact OpV.g67 hs
  have hg' : opB x.o (goodT x.t) (sameV x.t .no) (validS x.o.key).2 = true := hg
  have HL := Lib.hid hl
  have HP := Lib.hid hp
  have HB := Lib.hid hb
  have hpl : Hid (p < w.heap.size) := Lib.hid (Array.getElem?_eq_some_iff.1 hp).1
  have hbl : Hid (b < w.heap.size) := Lib.hid (Array.getElem?_eq_some_iff.1 hb).1
  have HA := Lib.hid ha
  clear hw hx hg hl hp hb ha
  go_enter Tryz.func46, Tryz.ntmps46
  go_upto_region 3 with (first | go_skip | ((with_reducible refine gate_op (op := .load 40 (.tmp 3)) rfl ?_); refine wpList_load_row' rfl 40 (.tmp 3) rfl _ rfl 40 _ (0, 0) _ (hS.at_ 0 rfl) Tryz.underlying40 rfl (op_info _ hs) ?_) | (go_at_call 41; (with_reducible (refine (good_v x.o x.t _ (HV.out.step hS.below) hs HC0.out ((HX.out.tin.move hS.below).up hS.below.size) HX.out.key).mono ?_)); rintro e wn ⟨rfl, hbn⟩; have hS1 := hS.step hbn; clear hS hbn; have hS := hS1; clear hS1))
  rename World => w3
  have B3 := hS.below
  have p3 : w3.heap[p]? = some (headO b) := (B3.block p hpl.out).trans HP.out
  have b3 : w3.heap[b]? = some (wordsO l) := (B3.block b hbl.out).trans HB.out
  have q1 := cell_regrown (show w3.cell? ⟨p, 0, none⟩ = some (.map (some b)) by rw [cell_of_row _ _ _ _ _ _ p3]; rfl)
  have q2 := cell_regrown (show w3.cell? ⟨w.heap.size, 70, none⟩ = some (.string x.o.key) by rw [cell_of_row _ _ _ _ _ _ (hS.at_ 0 rfl)]; exact OpV.g70 hs)
  clear B3 p3
  refine wp_region_box app3 (by kernel_rfl) 10 (by kernel_rfl) (by kernel_rfl) (by kernel_rfl) (by decide) (by kernel_rfl) (by kernel_rfl) (by kernel_rfl) 40 5 28 (of_decide_eq_true (by kernel_rfl)) (by decide) (by kernel_rfl) (by kernel_rfl) zeroO.c (by kernel_rfl) (by kernel_rfl) ?_
  simp only [List.take_succ_cons, List.take_zero]
  repeat (first | go_big_quiet_skip | (refine BigFrame.wpQuiet_want rfl (fun K hK => ?_); refine quiet_look (.tmp 24) (.tmp 26) true rfl str_key mapt_under HL.out.keys HX.out.key rfl rfl (obj_regrown b3) op_zero (look_word HA.out) ?_; refine hK _ ?_; clear hK K) | (quiet_step (fail)))
  refine wpQuiet_nil ?_
  refine ⟨((none).getD zOT).o.c, rfl, rfl, (op_one rfl rfl), ?_⟩
  intro bz wz hbz hbw hrz
  have hS1 := hS.newer hbz hbw hrz
  clear hS q1 q2 b3
  have hS := hS1
  clear hS1 hbz hbw hrz
  simp only [List.drop_succ_cons, List.drop_zero, Act.put, List.setIfInBounds_toArray, List.set_cons_zero, List.set_cons_succ]
  go_upto_region 6 with (first | go_skip | ((with_reducible refine gate_op (op := .load 40 (.tmp 3)) rfl ?_); refine wpList_load_row' rfl 40 (.tmp 3) rfl _ rfl 40 _ (0, 0) _ (hS.at_ 0 rfl) Tryz.underlying40 rfl (op_info _ hs) ?_) | ((with_reducible refine gate_op (op := .load 40 (.tmp 5)) rfl ?_); refine wpList_load_row' rfl 40 (.tmp 5) rfl _ rfl 40 _ (0, 0) _ (hS.at_ 1 rfl) Tryz.underlying40 rfl (op_info _ hys) ?_) | (go_at_call 77; (with_reducible (refine (After_any x.o y.o _).mono ?_)); rintro e wn ⟨rfl, hbn⟩; have hS1 := hS.step hbn; clear hS hbn; have hS := hS1; clear hS1))
  rename World => w6
  have B6 := hS.below
  have p6 : w6.heap[p]? = some (headO b) := (B6.block p hpl.out).trans HP.out
  have b6 : w6.heap[b]? = some (wordsO l) := (B6.block b hbl.out).trans HB.out
  have q1 := cell_regrown (show w6.cell? ⟨p, 0, none⟩ = some (.map (some b)) by rw [cell_of_row _ _ _ _ _ _ p6]; rfl)
  have q2 := cell_regrown (show w6.cell? ⟨w.heap.size, 70, none⟩ = some (.string x.o.key) by rw [cell_of_row _ _ _ _ _ _ (hS.at_ 0 rfl)]; exact OpV.g70 hs)
  have r3 := hS.at_ 0 rfl
  have hbel := Lib.hid B6
  clear B6 p6 hS
  refine wp_region_one app6 (by kernel_rfl) 7 (by kernel_rfl) (by kernel_rfl) (by kernel_rfl) (by decide) (by kernel_rfl) (by kernel_rfl) (fun v _ => ∃ y : OT, v = y.v ∧ OT.Ok y ∧ OT.Same x y) ?_
  simp only [List.take_succ_cons, List.take_zero]
  repeat (first | go_big_quiet_skip | (refine BigFrame.wpQuiet_want rfl (fun K hK => ?_); refine quiet_load_row 40 (.tmp 3) rfl _ rfl 40 _ (0, 0) _ (row_regrown r3) Tryz.underlying40 rfl (op_info _ hs) ?_; refine hK _ ?_; clear hK K) | (quiet_step (fail)))
  refine wpQuiet_nil ?_
  intro o ho
  simp only [List.getElem?_toArray, List.getElem?_cons_succ, List.getElem?_cons_zero, Option.some.injEq] at ho
  subst ho
  refine ⟨rfl, ?_, ?_⟩
  · intro W hW
    exact gives_call_ex #[.tmp 43] #[40] rfl (f := 30) Tryz.func30 (by kernel_rfl) rfl #[opv x.o] (one_arg rfl) ((oCopy_any x W (HX.out.ok HLN.out.1 HLN.out.2)).mono fun e w' ⟨y, he, hy, hsy, hb⟩ => ⟨_, he, hW.trans (hb.mono hW.size), y, rfl, hy, hsy⟩)
  intro v W hW hv
  obtain ⟨y2, rfl, hy2, hsy⟩ := hv
  simp only [List.drop_succ_cons, List.drop_zero, Act.put, List.setIfInBounds_toArray, List.set_cons_zero, List.set_cons_succ]
  have bW : W.heap[b]? = some (wordsO l) := (hW.block b (Array.getElem?_eq_some_iff.1 b6).1).trans b6
  refine update_arm rfl (.tmp 40) (.tmp 42) (.tmp 44) rfl str_key mapt_under HL.out.keys HX.out.key rfl rfl y2 rfl bW ?_
  intro wn hgn hon hbn hsn
  have hbut : Hid (But b w wn) := Lib.hid ((But.of_below hbel.out).then ((But.of_below hW).then (But.turn hon hbn)))
  have hfin := Lib.hid hgn
  clear hgn hon hbn hsn bW hW q1 q2 b6 r3
  go_wp2_with go_skip
  go_ret
  exact ⟨y2, rfl, hy2, hsy, hfin.out, hbut.out⟩
set_option maxRecDepth 100000 in
set_option maxHeartbeats 2000000 in
theorem apply_put1 (y : OT) (h1 : (x.o.K != 1) = false) (hg : x.good = true) (ha : assoc l x.o.key = some y) (hy : OT.Ok y) (hf : afterB x.o y.o = true) : Calls Tryz.prog 46 #[.pointer (some ⟨p, 0, none⟩), opv x.o] w fun e w' => ∃ y : OT, e = .returned (.bool true) ∧ OT.Ok y ∧ OT.Same x y ∧ w'.heap[b]? = some (wordsO (assocPut l x.o.key y)) ∧ But b w w' := by
  have HLN := Lib.hid (good_bare hx.vc hg)
  have HY := Lib.hid hy
  have hys := hy.seen
  clear hy
  have HX := Lib.hid hx; have HV := Lib.hid hw; have hs := hx.seen; have HC0 := Lib.hid (hx.vc); have hS : Boxes w (w.alloc (Obj.cells x.o.c 40)) [(w.heap.size, Obj.cells x.o.c 40)] := (Boxes.start w).alloc (Obj.cells x.o.c 40)
  have x67 : (w.alloc (Obj.cells x.o.c 40)).cell? ⟨w.heap.size, 67, none⟩ = some (.int .i64 x.o.K) := by rw [cell_of_row _ _ _ _ _ _ (hS.at_ 0 rfl)]; exact OpV.g67 hs
  have hg' : opB x.o (goodT x.t) (sameV x.t .no) (validS x.o.key).2 = true := hg
  have HL := Lib.hid hl
  have HP := Lib.hid hp
  have HB := Lib.hid hb
  have hpl : Hid (p < w.heap.size) := Lib.hid (Array.getElem?_eq_some_iff.1 hp).1
  have hbl : Hid (b < w.heap.size) := Lib.hid (Array.getElem?_eq_some_iff.1 hb).1
  have HA := Lib.hid ha
  clear hw hx hg hl hp hb ha
  go_enter Tryz.func46, Tryz.ntmps46
  go_upto_region 3 with (first | go_skip | ((with_reducible refine gate_op (op := .load 40 (.tmp 3)) rfl ?_); refine wpList_load_row' rfl 40 (.tmp 3) rfl _ rfl 40 _ (0, 0) _ (hS.at_ 0 rfl) Tryz.underlying40 rfl (op_info _ hs) ?_) | (go_at_call 41; (with_reducible (refine (good_v x.o x.t _ (HV.out.step hS.below) hs HC0.out ((HX.out.tin.move hS.below).up hS.below.size) HX.out.key).mono ?_)); rintro e wn ⟨rfl, hbn⟩; have hS1 := hS.step hbn; clear hS hbn; have hS := hS1; clear hS1))
  rename World => w3
  have B3 := hS.below
  have p3 : w3.heap[p]? = some (headO b) := (B3.block p hpl.out).trans HP.out
  have b3 : w3.heap[b]? = some (wordsO l) := (B3.block b hbl.out).trans HB.out
  have q1 := cell_regrown (show w3.cell? ⟨p, 0, none⟩ = some (.map (some b)) by rw [cell_of_row _ _ _ _ _ _ p3]; rfl)
  have q2 := cell_regrown (show w3.cell? ⟨w.heap.size, 70, none⟩ = some (.string x.o.key) by rw [cell_of_row _ _ _ _ _ _ (hS.at_ 0 rfl)]; exact OpV.g70 hs)
  clear B3 p3
  refine wp_region_box app3 (by kernel_rfl) 10 (by kernel_rfl) (by kernel_rfl) (by kernel_rfl) (by decide) (by kernel_rfl) (by kernel_rfl) (by kernel_rfl) 40 5 28 (of_decide_eq_true (by kernel_rfl)) (by decide) (by kernel_rfl) (by kernel_rfl) zeroO.c (by kernel_rfl) (by kernel_rfl) ?_
  simp only [List.take_succ_cons, List.take_zero]
  repeat (first | go_big_quiet_skip | (refine BigFrame.wpQuiet_want rfl (fun K hK => ?_); refine quiet_look (.tmp 24) (.tmp 26) true rfl str_key mapt_under HL.out.keys HX.out.key rfl rfl (obj_regrown b3) op_zero (look_word HA.out) ?_; refine hK _ ?_; clear hK K) | (quiet_step (fail)))
  refine wpQuiet_nil ?_
  refine ⟨((some y).getD zOT).o.c, rfl, ((OpV.size (o := zeroO) rfl).trans (OpV.size (o := y.o) hys).symm), (ot_one HY.out.vc), ?_⟩
  intro bz wz hbz hbw hrz
  have hS1 := hS.newer hbz hbw hrz
  clear hS q1 q2 b3
  have hS := hS1
  clear hS1 hbz hbw hrz
  simp only [List.drop_succ_cons, List.drop_zero, Act.put, List.setIfInBounds_toArray, List.set_cons_zero, List.set_cons_succ]
  go_upto_region 6 with (first | go_skip | ((with_reducible refine gate_op (op := .load 40 (.tmp 3)) rfl ?_); refine wpList_load_row' rfl 40 (.tmp 3) rfl _ rfl 40 _ (0, 0) _ (hS.at_ 0 rfl) Tryz.underlying40 rfl (op_info _ hs) ?_) | ((with_reducible refine gate_op (op := .load 40 (.tmp 5)) rfl ?_); refine wpList_load_row' rfl 40 (.tmp 5) rfl _ rfl 40 _ (0, 0) _ (hS.at_ 1 rfl) Tryz.underlying40 rfl (op_info _ hys) ?_) | (go_at_call 77; (with_reducible (refine (After_any x.o y.o _).mono ?_)); rintro e wn ⟨rfl, hbn⟩; have hS1 := hS.step hbn; clear hS hbn; have hS := hS1; clear hS1))
  rename World => w6
  have B6 := hS.below
  have p6 : w6.heap[p]? = some (headO b) := (B6.block p hpl.out).trans HP.out
  have b6 : w6.heap[b]? = some (wordsO l) := (B6.block b hbl.out).trans HB.out
  have q1 := cell_regrown (show w6.cell? ⟨p, 0, none⟩ = some (.map (some b)) by rw [cell_of_row _ _ _ _ _ _ p6]; rfl)
  have q2 := cell_regrown (show w6.cell? ⟨w.heap.size, 70, none⟩ = some (.string x.o.key) by rw [cell_of_row _ _ _ _ _ _ (hS.at_ 0 rfl)]; exact OpV.g70 hs)
  have r3 := hS.at_ 0 rfl
  have hbel := Lib.hid B6
  clear B6 p6 hS
  refine wp_region_one app6 (by kernel_rfl) 7 (by kernel_rfl) (by kernel_rfl) (by kernel_rfl) (by decide) (by kernel_rfl) (by kernel_rfl) (fun v _ => ∃ y : OT, v = y.v ∧ OT.Ok y ∧ OT.Same x y) ?_
  simp only [List.take_succ_cons, List.take_zero]
  repeat (first | go_big_quiet_skip | (refine BigFrame.wpQuiet_want rfl (fun K hK => ?_); refine quiet_load_row 40 (.tmp 3) rfl _ rfl 40 _ (0, 0) _ (row_regrown r3) Tryz.underlying40 rfl (op_info _ hs) ?_; refine hK _ ?_; clear hK K) | (quiet_step (fail)))
  refine wpQuiet_nil ?_
  intro o ho
  simp only [List.getElem?_toArray, List.getElem?_cons_succ, List.getElem?_cons_zero, Option.some.injEq] at ho
  subst ho
  refine ⟨rfl, ?_, ?_⟩
  · intro W hW
    exact gives_call_ex #[.tmp 43] #[40] rfl (f := 30) Tryz.func30 (by kernel_rfl) rfl #[opv x.o] (one_arg rfl) ((oCopy_any x W (HX.out.ok HLN.out.1 HLN.out.2)).mono fun e w' ⟨y, he, hy, hsy, hb⟩ => ⟨_, he, hW.trans (hb.mono hW.size), y, rfl, hy, hsy⟩)
  intro v W hW hv
  obtain ⟨y2, rfl, hy2, hsy⟩ := hv
  simp only [List.drop_succ_cons, List.drop_zero, Act.put, List.setIfInBounds_toArray, List.set_cons_zero, List.set_cons_succ]
  have bW : W.heap[b]? = some (wordsO l) := (hW.block b (Array.getElem?_eq_some_iff.1 b6).1).trans b6
  refine update_arm rfl (.tmp 40) (.tmp 42) (.tmp 44) rfl str_key mapt_under HL.out.keys HX.out.key rfl rfl y2 rfl bW ?_
  intro wn hgn hon hbn hsn
  have hbut : Hid (But b w wn) := Lib.hid ((But.of_below hbel.out).then ((But.of_below hW).then (But.turn hon hbn)))
  have hfin := Lib.hid hgn
  clear hgn hon hbn hsn bW hW q1 q2 b6 r3
  go_wp2_with go_skip
  go_ret
  exact ⟨y2, rfl, hy2, hsy, hfin.out, hbut.out⟩
set_option maxRecDepth 100000 in
set_option maxHeartbeats 2000000 in
theorem apply_put2 (y : OT) (h1 : (x.o.K != 1) = true) (h2 : (x.o.K != 2) = false) (hg : x.good = true) (ha : assoc l x.o.key = some y) (hy : OT.Ok y) (hf : afterB x.o y.o = true) : Calls Tryz.prog 46 #[.pointer (some ⟨p, 0, none⟩), opv x.o] w fun e w' => ∃ y : OT, e = .returned (.bool true) ∧ OT.Ok y ∧ OT.Same x y ∧ w'.heap[b]? = some (wordsO (assocPut l x.o.key y)) ∧ But b w w' := by
  have HLN := Lib.hid (good_bare hx.vc hg)
  have HY := Lib.hid hy
  have hys := hy.seen
  clear hy
  have HX := Lib.hid hx; have HV := Lib.hid hw; have hs := hx.seen; have HC0 := Lib.hid (hx.vc); have hS : Boxes w (w.alloc (Obj.cells x.o.c 40)) [(w.heap.size, Obj.cells x.o.c 40)] := (Boxes.start w).alloc (Obj.cells x.o.c 40)
  have x67 : (w.alloc (Obj.cells x.o.c 40)).cell? ⟨w.heap.size, 67, none⟩ = some (.int .i64 x.o.K) := by rw [cell_of_row _ _ _ _ _ _ (hS.at_ 0 rfl)]; exact OpV.g67 hs
  have hg' : opB x.o (goodT x.t) (sameV x.t .no) (validS x.o.key).2 = true := hg
  have HL := Lib.hid hl
  have HP := Lib.hid hp
  have HB := Lib.hid hb
  have hpl : Hid (p < w.heap.size) := Lib.hid (Array.getElem?_eq_some_iff.1 hp).1
  have hbl : Hid (b < w.heap.size) := Lib.hid (Array.getElem?_eq_some_iff.1 hb).1
  have HA := Lib.hid ha
  clear hw hx hg hl hp hb ha
  go_enter Tryz.func46, Tryz.ntmps46
  go_upto_region 3 with (first | go_skip | ((with_reducible refine gate_op (op := .load 40 (.tmp 3)) rfl ?_); refine wpList_load_row' rfl 40 (.tmp 3) rfl _ rfl 40 _ (0, 0) _ (hS.at_ 0 rfl) Tryz.underlying40 rfl (op_info _ hs) ?_) | (go_at_call 41; (with_reducible (refine (good_v x.o x.t _ (HV.out.step hS.below) hs HC0.out ((HX.out.tin.move hS.below).up hS.below.size) HX.out.key).mono ?_)); rintro e wn ⟨rfl, hbn⟩; have hS1 := hS.step hbn; clear hS hbn; have hS := hS1; clear hS1))
  rename World => w3
  have B3 := hS.below
  have p3 : w3.heap[p]? = some (headO b) := (B3.block p hpl.out).trans HP.out
  have b3 : w3.heap[b]? = some (wordsO l) := (B3.block b hbl.out).trans HB.out
  have q1 := cell_regrown (show w3.cell? ⟨p, 0, none⟩ = some (.map (some b)) by rw [cell_of_row _ _ _ _ _ _ p3]; rfl)
  have q2 := cell_regrown (show w3.cell? ⟨w.heap.size, 70, none⟩ = some (.string x.o.key) by rw [cell_of_row _ _ _ _ _ _ (hS.at_ 0 rfl)]; exact OpV.g70 hs)
  clear B3 p3
  refine wp_region_box app3 (by kernel_rfl) 10 (by kernel_rfl) (by kernel_rfl) (by kernel_rfl) (by decide) (by kernel_rfl) (by kernel_rfl) (by kernel_rfl) 40 5 28 (of_decide_eq_true (by kernel_rfl)) (by decide) (by kernel_rfl) (by kernel_rfl) zeroO.c (by kernel_rfl) (by kernel_rfl) ?_
  simp only [List.take_succ_cons, List.take_zero]
  repeat (first | go_big_quiet_skip | (refine BigFrame.wpQuiet_want rfl (fun K hK => ?_); refine quiet_look (.tmp 24) (.tmp 26) true rfl str_key mapt_under HL.out.keys HX.out.key rfl rfl (obj_regrown b3) op_zero (look_word HA.out) ?_; refine hK _ ?_; clear hK K) | (quiet_step (fail)))
  refine wpQuiet_nil ?_
  refine ⟨((some y).getD zOT).o.c, rfl, ((OpV.size (o := zeroO) rfl).trans (OpV.size (o := y.o) hys).symm), (ot_one HY.out.vc), ?_⟩
  intro bz wz hbz hbw hrz
  have hS1 := hS.newer hbz hbw hrz
  clear hS q1 q2 b3
  have hS := hS1
  clear hS1 hbz hbw hrz
  simp only [List.drop_succ_cons, List.drop_zero, Act.put, List.setIfInBounds_toArray, List.set_cons_zero, List.set_cons_succ]
  go_upto_region 6 with (first | go_skip | ((with_reducible refine gate_op (op := .load 40 (.tmp 3)) rfl ?_); refine wpList_load_row' rfl 40 (.tmp 3) rfl _ rfl 40 _ (0, 0) _ (hS.at_ 0 rfl) Tryz.underlying40 rfl (op_info _ hs) ?_) | ((with_reducible refine gate_op (op := .load 40 (.tmp 5)) rfl ?_); refine wpList_load_row' rfl 40 (.tmp 5) rfl _ rfl 40 _ (0, 0) _ (hS.at_ 1 rfl) Tryz.underlying40 rfl (op_info _ hys) ?_) | (go_at_call 77; (with_reducible (refine (After_any x.o y.o _).mono ?_)); rintro e wn ⟨rfl, hbn⟩; have hS1 := hS.step hbn; clear hS hbn; have hS := hS1; clear hS1))
  rename World => w6
  have B6 := hS.below
  have p6 : w6.heap[p]? = some (headO b) := (B6.block p hpl.out).trans HP.out
  have b6 : w6.heap[b]? = some (wordsO l) := (B6.block b hbl.out).trans HB.out
  have q1 := cell_regrown (show w6.cell? ⟨p, 0, none⟩ = some (.map (some b)) by rw [cell_of_row _ _ _ _ _ _ p6]; rfl)
  have q2 := cell_regrown (show w6.cell? ⟨w.heap.size, 70, none⟩ = some (.string x.o.key) by rw [cell_of_row _ _ _ _ _ _ (hS.at_ 0 rfl)]; exact OpV.g70 hs)
  have r3 := hS.at_ 0 rfl
  have hbel := Lib.hid B6
  clear B6 p6 hS
  refine wp_region_one app6 (by kernel_rfl) 7 (by kernel_rfl) (by kernel_rfl) (by kernel_rfl) (by decide) (by kernel_rfl) (by kernel_rfl) (fun v _ => ∃ y : OT, v = y.v ∧ OT.Ok y ∧ OT.Same x y) ?_
  simp only [List.take_succ_cons, List.take_zero]
  repeat (first | go_big_quiet_skip | (refine BigFrame.wpQuiet_want rfl (fun K hK => ?_); refine quiet_load_row 40 (.tmp 3) rfl _ rfl 40 _ (0, 0) _ (row_regrown r3) Tryz.underlying40 rfl (op_info _ hs) ?_; refine hK _ ?_; clear hK K) | (quiet_step (fail)))
  refine wpQuiet_nil ?_
  intro o ho
  simp only [List.getElem?_toArray, List.getElem?_cons_succ, List.getElem?_cons_zero, Option.some.injEq] at ho
  subst ho
  refine ⟨rfl, ?_, ?_⟩
  · intro W hW
    exact gives_call_ex #[.tmp 43] #[40] rfl (f := 30) Tryz.func30 (by kernel_rfl) rfl #[opv x.o] (one_arg rfl) ((oCopy_any x W (HX.out.ok HLN.out.1 HLN.out.2)).mono fun e w' ⟨y, he, hy, hsy, hb⟩ => ⟨_, he, hW.trans (hb.mono hW.size), y, rfl, hy, hsy⟩)
  intro v W hW hv
  obtain ⟨y2, rfl, hy2, hsy⟩ := hv
  simp only [List.drop_succ_cons, List.drop_zero, Act.put, List.setIfInBounds_toArray, List.set_cons_zero, List.set_cons_succ]
  have bW : W.heap[b]? = some (wordsO l) := (hW.block b (Array.getElem?_eq_some_iff.1 b6).1).trans b6
  refine update_arm rfl (.tmp 40) (.tmp 42) (.tmp 44) rfl str_key mapt_under HL.out.keys HX.out.key rfl rfl y2 rfl bW ?_
  intro wn hgn hon hbn hsn
  have hbut : Hid (But b w wn) := Lib.hid ((But.of_below hbel.out).then ((But.of_below hW).then (But.turn hon hbn)))
  have hfin := Lib.hid hgn
  clear hgn hon hbn hsn bW hW q1 q2 b6 r3
  go_wp2_with go_skip
  go_ret
  exact ⟨y2, rfl, hy2, hsy, hfin.out, hbut.out⟩
end
end Go.Proofs.YtffcpmohanhihaaGreatDoor
