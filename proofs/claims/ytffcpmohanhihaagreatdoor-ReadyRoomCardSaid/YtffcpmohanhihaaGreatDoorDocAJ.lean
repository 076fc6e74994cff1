/-
  Doc.Apply of a document that has the root alone, walked, where it refuses. Condition: the library's variables as it lays them.
-/
import Derived.Test.YtffcpmohanhihaaGreatDoorDocMJ
namespace Go.Proofs.YtffcpmohanhihaaGreatDoor
open Go.RowKit Go.Sort
set_option linter.unusedVariables false
set_option linter.unusedSimpArgs false
set_option linter.unusedSectionVars false
/-- What Apply answers. -/
def applyE (s : DocS) (x : OT) : Int := if x.good = false then 11 else if hasB s.v x.o.R x.o.N = true then 5 else if coversB s.v x.o.seen = false then 9 else if mayB s x = false then 11 else 0
section
variable (B : DB) (s : DocS) (x : OT) (w : World) (hd : DocAt B s w) (hs : DocOk s) (hw : Vars w) (hx : OpIn w x.o x.t)
include hd hs hw hx
set_option maxRecDepth 100000 in
set_option maxHeartbeats 2000000 in
theorem dApply_bad (hg : x.good = false) : Calls Tryz.prog 23 #[.pointer (some ⟨B.d, 0, none⟩), opv x.o] w fun e w' => e = .returned (.int .i64 (applyE s x)) ∧ Below w.heap.size w w' := by
  have HE : Hid (applyE s x = 11) := Lib.hid (by unfold applyE; rw [if_pos hg])
  have HD := Lib.hid hd
  have HK := Lib.hid hs
  have HX := Lib.hid hx
  have HV := Lib.hid hw
  have hxs := hx.seen
  have HC0 := Lib.hid (hx.vc)
  have hS : Boxes w (w.alloc (Obj.cells x.o.c 40)) [(w.heap.size, Obj.cells x.o.c 40)] := (Boxes.start w).alloc _
  have hg' : opB x.o (goodT x.t) (sameV x.t .no) (validS x.o.key).2 = false := hg
  clear hd hs hx hw hg
  go_enter Tryz.func23, Tryz.ntmps23
  go_wp2_with (first | go_skip | ((with_reducible refine gate_op (op := .load 40 (.tmp 3)) rfl ?_); refine wpList_load_row' rfl 40 (.tmp 3) rfl _ rfl 40 _ (0, 0) _ (hS.at_ 0 rfl) Tryz.underlying40 rfl (op_info _ hxs) ?_) | (go_at_call 41; (with_reducible (refine (good_v x.o x.t _ (HV.out.step hS.below) hxs HC0.out ((HX.out.tin.move hS.below).up hS.below.size) HX.out.key).mono ?_)); rintro e wn ⟨rfl, hbn⟩; have hS1 := hS.step hbn; clear hS hbn; have hS := hS1; clear hS1))
  go_ret
  exact ⟨by rw [HE.out]; rfl, hS.below⟩
set_option maxRecDepth 100000 in
set_option maxHeartbeats 2000000 in
theorem dApply_has (hg : x.good = true) (hh : hasB s.v x.o.R x.o.N = true) : Calls Tryz.prog 23 #[.pointer (some ⟨B.d, 0, none⟩), opv x.o] w fun e w' => e = .returned (.int .i64 (applyE s x)) ∧ Below w.heap.size w w' := by
  have HE : Hid (applyE s x = 5) := Lib.hid (by unfold applyE; rw [if_neg (by rw [hg]; decide), if_pos hh])
  have HD := Lib.hid hd
  have HK := Lib.hid hs
  have HX := Lib.hid hx
  have HV := Lib.hid hw
  have hxs := hx.seen
  have HC0 := Lib.hid (hx.vc)
  have hS : Boxes w (w.alloc (Obj.cells x.o.c 40)) [(w.heap.size, Obj.cells x.o.c 40)] := (Boxes.start w).alloc _
  have hg' : opB x.o (goodT x.t) (sameV x.t .no) (validS x.o.key).2 = true := hg
  clear hd hs hx hw hg
  go_enter Tryz.func23, Tryz.ntmps23
  go_upto_region 3 with (first | go_skip | ((with_reducible refine gate_op (op := .load 40 (.tmp 3)) rfl ?_); refine wpList_load_row' rfl 40 (.tmp 3) rfl _ rfl 40 _ (0, 0) _ (hS.at_ 0 rfl) Tryz.underlying40 rfl (op_info _ hxs) ?_) | (go_at_call 41; (with_reducible (refine (good_v x.o x.t _ (HV.out.step hS.below) hxs HC0.out ((HX.out.tin.move hS.below).up hS.below.size) HX.out.key).mono ?_)); rintro e wn ⟨rfl, hbn⟩; have hS1 := hS.step hbn; clear hS hbn; have hS := hS1; clear hS1))
  rename World => w3
  have dv := Lib.hid (cells_regrown (w := w3) (b := B.d) (i := 0) (cs := vcells s.v) (fun j v hv => doc_cell (HD.out.move hS.below) (docC_vec HK.out.v s.t B.po B.pj j v hv)))
  have di := Lib.hid (cells_regrown (w := w3) (b := w.heap.size) (i := 0) (cs := #[.int .i64 x.o.R, .int .i64 x.o.N]) (fun j v hv => (cell_of_row _ _ _ _ _ _ (hS.at_ 0 rfl)).trans (OpV.pId j v hv)))
  have cH := grown_calls (w := w3) (fun W' hb => Has_any s.v x.o.R x.o.N W' HK.out.v)
  rw [hh] at cH
  refine wp_region_quiet_below (by kernel_rfl) (by kernel_rfl) ?_
  repeat (first | go_big_quiet_skip | (refine BigFrame.wpQuiet_want rfl (fun K hK => ?_); refine quiet_load_cells 33 (.tmp 13) rfl _ _ rfl (vcells s.v) _ (dv.out) Tryz.underlying33 rfl (vec_info _ HK.out.v) ?_; refine hK _ ?_; clear hK K) | (refine BigFrame.wpQuiet_want rfl (fun K hK => ?_); refine quiet_load_cells 31 (.tmp 15) rfl _ _ rfl _ _ di.out Tryz.underlying31 rfl (id_info _ _) ?_; refine hK _ ?_; clear hK K) | (quiet_step (with_reducible exact cH _ _)))
  refine wpQuiet_nil ?_; rintro w4 ⟨⟨dq, osq⟩, rfl⟩; have hbn := below_regrown w3 dq osq; generalize Go.Sort.grow (redrawn w3 dq) osq = w4 at *
  have hS1 := hS.step hbn; clear hS hbn; have hS := hS1; clear hS1
  clear dv di cH
  go_wp2_with go_skip
  go_ret
  exact ⟨by rw [HE.out]; rfl, hS.below⟩
set_option maxRecDepth 100000 in
set_option maxHeartbeats 2000000 in
theorem dApply_none (hg : x.good = true) (hh : hasB s.v x.o.R x.o.N = false) (hc : coversB s.v x.o.seen = false) : Calls Tryz.prog 23 #[.pointer (some ⟨B.d, 0, none⟩), opv x.o] w fun e w' => e = .returned (.int .i64 (applyE s x)) ∧ Below w.heap.size w w' := by
  have HE : Hid (applyE s x = 9) := Lib.hid (by unfold applyE; rw [if_neg (by rw [hg]; decide), if_neg (by rw [hh]; decide), if_pos hc])
  have HD := Lib.hid hd
  have HK := Lib.hid hs
  have HX := Lib.hid hx
  have HV := Lib.hid hw
  have hxs := hx.seen
  have HC0 := Lib.hid (hx.vc)
  have hS : Boxes w (w.alloc (Obj.cells x.o.c 40)) [(w.heap.size, Obj.cells x.o.c 40)] := (Boxes.start w).alloc _
  have hg' : opB x.o (goodT x.t) (sameV x.t .no) (validS x.o.key).2 = true := hg
  clear hd hs hx hw hg
  go_enter Tryz.func23, Tryz.ntmps23
  go_upto_region 3 with (first | go_skip | ((with_reducible refine gate_op (op := .load 40 (.tmp 3)) rfl ?_); refine wpList_load_row' rfl 40 (.tmp 3) rfl _ rfl 40 _ (0, 0) _ (hS.at_ 0 rfl) Tryz.underlying40 rfl (op_info _ hxs) ?_) | (go_at_call 41; (with_reducible (refine (good_v x.o x.t _ (HV.out.step hS.below) hxs HC0.out ((HX.out.tin.move hS.below).up hS.below.size) HX.out.key).mono ?_)); rintro e wn ⟨rfl, hbn⟩; have hS1 := hS.step hbn; clear hS hbn; have hS := hS1; clear hS1))
  rename World => w3
  have dv := Lib.hid (cells_regrown (w := w3) (b := B.d) (i := 0) (cs := vcells s.v) (fun j v hv => doc_cell (HD.out.move hS.below) (docC_vec HK.out.v s.t B.po B.pj j v hv)))
  have di := Lib.hid (cells_regrown (w := w3) (b := w.heap.size) (i := 0) (cs := #[.int .i64 x.o.R, .int .i64 x.o.N]) (fun j v hv => (cell_of_row _ _ _ _ _ _ (hS.at_ 0 rfl)).trans (OpV.pId j v hv)))
  have cH := grown_calls (w := w3) (fun W' hb => Has_any s.v x.o.R x.o.N W' HK.out.v)
  rw [hh] at cH
  refine wp_region_quiet_below (by kernel_rfl) (by kernel_rfl) ?_
  repeat (first | go_big_quiet_skip | (refine BigFrame.wpQuiet_want rfl (fun K hK => ?_); refine quiet_load_cells 33 (.tmp 13) rfl _ _ rfl (vcells s.v) _ (dv.out) Tryz.underlying33 rfl (vec_info _ HK.out.v) ?_; refine hK _ ?_; clear hK K) | (refine BigFrame.wpQuiet_want rfl (fun K hK => ?_); refine quiet_load_cells 31 (.tmp 15) rfl _ _ rfl _ _ di.out Tryz.underlying31 rfl (id_info _ _) ?_; refine hK _ ?_; clear hK K) | (quiet_step (with_reducible exact cH _ _)))
  refine wpQuiet_nil ?_; rintro w4 ⟨⟨dq, osq⟩, rfl⟩; have hbn := below_regrown w3 dq osq; generalize Go.Sort.grow (redrawn w3 dq) osq = w4 at *
  have hS1 := hS.step hbn; clear hS hbn; have hS := hS1; clear hS1
  clear dv di cH
  go_upto_region 5 with go_skip
  have dv := Lib.hid (cells_regrown (w := w4) (b := B.d) (i := 0) (cs := vcells s.v) (fun j v hv => doc_cell (HD.out.move hS.below) (docC_vec HK.out.v s.t B.po B.pj j v hv)))
  have ds := Lib.hid (cells_regrown (w := w4) (b := w.heap.size) (i := 3) (cs := vcells x.o.seen) (fun j v hv => (cell_of_row _ _ _ _ _ _ (hS.at_ 0 rfl)).trans (OpV.pSeen hxs j v hv)))
  have cC := grown_calls (w := w4) (fun W' hb => Covers_any s.v x.o.seen W' HK.out.v hxs)
  rw [hc] at cC
  refine wp_region_quiet_below (by kernel_rfl) (by kernel_rfl) ?_
  repeat (first | go_big_quiet_skip | (refine BigFrame.wpQuiet_want rfl (fun K hK => ?_); refine quiet_load_cells 33 (.tmp 21) rfl _ _ rfl (vcells s.v) _ (dv.out) Tryz.underlying33 rfl (vec_info _ HK.out.v) ?_; refine hK _ ?_; clear hK K) | (refine BigFrame.wpQuiet_want rfl (fun K hK => ?_); refine quiet_load_cells 33 (.tmp 23) rfl _ _ rfl (vcells x.o.seen) _ (ds.out) Tryz.underlying33 rfl (vec_info _ hxs) ?_; refine hK _ ?_; clear hK K) | (quiet_step (with_reducible exact cC _ _)))
  refine wpQuiet_nil ?_; rintro w5 ⟨⟨dq, osq⟩, rfl⟩; have hbn := below_regrown w4 dq osq; generalize Go.Sort.grow (redrawn w4 dq) osq = w5 at *
  have hS1 := hS.step hbn; clear hS hbn; have hS := hS1; clear hS1
  clear dv ds cC
  go_wp2_with go_skip
  go_ret
  exact ⟨by rw [HE.out]; rfl, hS.below⟩
set_option maxRecDepth 100000 in
set_option maxHeartbeats 2000000 in
theorem dApply_may (hg : x.good = true) (hh : hasB s.v x.o.R x.o.N = false) (hc : coversB s.v x.o.seen = true) (hm : mayB s x = false) : Calls Tryz.prog 23 #[.pointer (some ⟨B.d, 0, none⟩), opv x.o] w fun e w' => e = .returned (.int .i64 (applyE s x)) ∧ Below w.heap.size w w' := by
  have HE : Hid (applyE s x = 11) := Lib.hid (by unfold applyE; rw [if_neg (by rw [hg]; decide), if_neg (by rw [hh]; decide), if_neg (by rw [hc]; decide), if_pos hm])
  have HO := Lib.hid (hx.ok (good_bare hx.vc hg).1 (good_bare hx.vc hg).2)
  have HG := Lib.hid hg
  have HM := Lib.hid hm
  clear hm
  have HD := Lib.hid hd
  have HK := Lib.hid hs
  have HX := Lib.hid hx
  have HV := Lib.hid hw
  have hxs := hx.seen
  have HC0 := Lib.hid (hx.vc)
  have hS : Boxes w (w.alloc (Obj.cells x.o.c 40)) [(w.heap.size, Obj.cells x.o.c 40)] := (Boxes.start w).alloc _
  have hg' : opB x.o (goodT x.t) (sameV x.t .no) (validS x.o.key).2 = true := hg
  clear hd hs hx hw hg
  go_enter Tryz.func23, Tryz.ntmps23
  go_upto_region 3 with (first | go_skip | ((with_reducible refine gate_op (op := .load 40 (.tmp 3)) rfl ?_); refine wpList_load_row' rfl 40 (.tmp 3) rfl _ rfl 40 _ (0, 0) _ (hS.at_ 0 rfl) Tryz.underlying40 rfl (op_info _ hxs) ?_) | (go_at_call 41; (with_reducible (refine (good_v x.o x.t _ (HV.out.step hS.below) hxs HC0.out ((HX.out.tin.move hS.below).up hS.below.size) HX.out.key).mono ?_)); rintro e wn ⟨rfl, hbn⟩; have hS1 := hS.step hbn; clear hS hbn; have hS := hS1; clear hS1))
  rename World => w3
  have dv := Lib.hid (cells_regrown (w := w3) (b := B.d) (i := 0) (cs := vcells s.v) (fun j v hv => doc_cell (HD.out.move hS.below) (docC_vec HK.out.v s.t B.po B.pj j v hv)))
  have di := Lib.hid (cells_regrown (w := w3) (b := w.heap.size) (i := 0) (cs := #[.int .i64 x.o.R, .int .i64 x.o.N]) (fun j v hv => (cell_of_row _ _ _ _ _ _ (hS.at_ 0 rfl)).trans (OpV.pId j v hv)))
  have cH := grown_calls (w := w3) (fun W' hb => Has_any s.v x.o.R x.o.N W' HK.out.v)
  rw [hh] at cH
  refine wp_region_quiet_below (by kernel_rfl) (by kernel_rfl) ?_
  repeat (first | go_big_quiet_skip | (refine BigFrame.wpQuiet_want rfl (fun K hK => ?_); refine quiet_load_cells 33 (.tmp 13) rfl _ _ rfl (vcells s.v) _ (dv.out) Tryz.underlying33 rfl (vec_info _ HK.out.v) ?_; refine hK _ ?_; clear hK K) | (refine BigFrame.wpQuiet_want rfl (fun K hK => ?_); refine quiet_load_cells 31 (.tmp 15) rfl _ _ rfl _ _ di.out Tryz.underlying31 rfl (id_info _ _) ?_; refine hK _ ?_; clear hK K) | (quiet_step (with_reducible exact cH _ _)))
  refine wpQuiet_nil ?_; rintro w4 ⟨⟨dq, osq⟩, rfl⟩; have hbn := below_regrown w3 dq osq; generalize Go.Sort.grow (redrawn w3 dq) osq = w4 at *
  have hS1 := hS.step hbn; clear hS hbn; have hS := hS1; clear hS1
  clear dv di cH
  go_upto_region 5 with go_skip
  have dv := Lib.hid (cells_regrown (w := w4) (b := B.d) (i := 0) (cs := vcells s.v) (fun j v hv => doc_cell (HD.out.move hS.below) (docC_vec HK.out.v s.t B.po B.pj j v hv)))
  have ds := Lib.hid (cells_regrown (w := w4) (b := w.heap.size) (i := 3) (cs := vcells x.o.seen) (fun j v hv => (cell_of_row _ _ _ _ _ _ (hS.at_ 0 rfl)).trans (OpV.pSeen hxs j v hv)))
  have cC := grown_calls (w := w4) (fun W' hb => Covers_any s.v x.o.seen W' HK.out.v hxs)
  rw [hc] at cC
  refine wp_region_quiet_below (by kernel_rfl) (by kernel_rfl) ?_
  repeat (first | go_big_quiet_skip | (refine BigFrame.wpQuiet_want rfl (fun K hK => ?_); refine quiet_load_cells 33 (.tmp 21) rfl _ _ rfl (vcells s.v) _ (dv.out) Tryz.underlying33 rfl (vec_info _ HK.out.v) ?_; refine hK _ ?_; clear hK K) | (refine BigFrame.wpQuiet_want rfl (fun K hK => ?_); refine quiet_load_cells 33 (.tmp 23) rfl _ _ rfl (vcells x.o.seen) _ (ds.out) Tryz.underlying33 rfl (vec_info _ hxs) ?_; refine hK _ ?_; clear hK K) | (quiet_step (with_reducible exact cC _ _)))
  refine wpQuiet_nil ?_; rintro w5 ⟨⟨dq, osq⟩, rfl⟩; have hbn := below_regrown w4 dq osq; generalize Go.Sort.grow (redrawn w4 dq) osq = w5 at *
  have hS1 := hS.step hbn; clear hS hbn; have hS := hS1; clear hS1
  clear dv ds cC
  go_wp2_with (first | go_skip | ((with_reducible refine gate_op (op := .load 40 (.tmp 3)) rfl ?_); refine wpList_load_row' rfl 40 (.tmp 3) rfl _ rfl 40 _ (0, 0) _ (hS.at_ 0 rfl) Tryz.underlying40 rfl (op_info _ hxs) ?_) | (go_at_call 44; (with_reducible (refine (dMay_any B s x _ (HD.out.move hS.below) HK.out HO.out HG.out).mono ?_)); rintro e wn ⟨rfl, hbn⟩; rw [HM.out]; have hS1 := hS.step hbn; clear hS hbn; have hS := hS1; clear hS1))
  go_ret
  exact ⟨by rw [HE.out]; rfl, hS.below⟩
end
end Go.Proofs.YtffcpmohanhihaaGreatDoor
