/-
  Doc.may of a document that has the root alone, walked. Condition: the operation may be.
-/
import Derived.Test.YtffcpmohanhihaaGreatDoorJ8
namespace Go.Proofs.YtffcpmohanhihaaGreatDoor
open Go.RowKit Go.Sort
set_option linter.unusedVariables false
set_option linter.unusedSimpArgs false
set_option linter.unusedSectionVars false
def mayB (s : DocS) (x : OT) : Bool := decide (sawT s.l x.o.seen < x.o.T) && decide (x.o.T < 4611686018427387904) && decide (objkey x = zID)
theorem obj_zero (W : World) : (zeroValue 68).run Tryz.prog W = .ok (.pointer none) W := by kernel_rfl
theorem root_keys (x : Nat) : KeysIn IdOk [(zID, x)] := KeysIn.nil.put zID_ok x
theorem obj_cell {B : DB} {s : DocS} {W : World} (h : DocAt B s W) {j : Nat} {u : Value} (hu : (#[.int .i64 1, ptrn (some B.m), ptrn none] : Array Value)[j]? = some u) : W.cell? ⟨B.x, j, none⟩ = some u := by
  rw [cell_of_row _ _ _ _ _ _ h.x]; exact hu
section
variable (B : DB) (s : DocS) (x : OT) (w : World) (hd : DocAt B s w) (hs : DocOk s) (hx : OT.Ok x) (hg : x.good = true)
include hd hs hx hg
set_option maxRecDepth 100000 in
set_option maxHeartbeats 2000000 in
theorem may_late (h1 : x.o.T ≤ sawT s.l x.o.seen) : Calls Tryz.prog 44 #[.pointer (some ⟨B.d, 0, none⟩), opv x.o] w fun e w' => e = .returned (.bool (mayB s x)) ∧ Below w.heap.size w w' := by
  have h1b : decide (x.o.T ≤ sawT s.l x.o.seen) = true := by simpa using h1
  have HM : Hid (mayB s x = false) := Lib.hid (by unfold mayB; rw [decide_eq_false (show ¬ sawT s.l x.o.seen < x.o.T by omega)]; rfl)
  clear h1
  have HD := Lib.hid hd
  have HK := Lib.hid hs
  have HXO := Lib.hid hx
  have HG := Lib.hid hg
  have HXS := Lib.hid (good_seen hg)
  have HO := Lib.hid (good_objkey hg)
  have hxs := hx.seen
  have hS : Boxes w (w.alloc (Obj.cells x.o.c 40)) [(w.heap.size, Obj.cells x.o.c 40)] := (Boxes.start w).alloc _
  clear hd hs hx hg
  obtain ⟨u, hu⟩ : ∃ u, lookV false ptrv (.pointer none) (assoc [(zID, B.x)] (objkey x)) = u := ⟨_, rfl⟩
  go_enter Tryz.func44, Tryz.ntmps44
  go_wp2_with go_skip
  generalize (w.alloc (Obj.cells x.o.c 40)) = w1 at *
  have q66 := cell_regrown (doc_cell (HD.out.move hS.below) (docC_66 HK.out.v s.t B.po B.pj))
  have oj := Lib.hid (cells_regrown (w := w1) (b := w.heap.size) (i := 68) (cs := #[.int .i64 x.o.OR, .int .i64 x.o.ON]) (fun j v hv => (cell_of_row _ _ _ _ _ _ (hS.at_ 0 rfl)).trans (OpV.pObj hxs j v hv)))
  have pj := (HD.out.move hS.below).pj
  refine wp_region_quiet_below (by kernel_rfl) (by kernel_rfl) ?_
  repeat (first | go_big_quiet_skip | (refine BigFrame.wpQuiet_want rfl (fun K hK => ?_); refine quiet_load_cells 31 (.tmp 11) rfl _ _ rfl _ _ oj.out Tryz.underlying31 rfl (id_info _ _) ?_; refine hK _ ?_; clear hK K) | (refine BigFrame.wpQuiet_want rfl (fun K hK => ?_); refine quiet_look (kf := idv) (vf := ptrv) (k := objkey x) (.tmp 10) (.tmp 12) false rfl id_key mapd_under (root_keys B.x) HO.out rfl rfl (obj_regrown pj) obj_zero hu ?_; refine hK _ ?_; clear hK K) | (quiet_step (fail)))
  refine wpQuiet_nil ?_; rintro wz ⟨⟨dq, osq⟩, rfl⟩; have hbn := below_regrown w1 dq osq; generalize Go.Sort.grow (redrawn w1 dq) osq = wz at *
  have hS1 := hS.step hbn; clear hS hbn; have hS := hS1; clear hS1
  clear q66 oj pj
  go_wp2_with go_skip
  have q2 := cell_regrown ((cell_of_row _ _ 2 _ _ _ (hS.at_ 0 rfl)).trans OpV.g2)
  have r3 := hS.at_ 0 rfl
  have cS := grown_calls (w := wz) (fun W' hb => dSeen_any B s x W' (HD.out.move (hS.below.trans (hb.mono hS.below.size))) HK.out HXO.out HXS.out)
  refine wp_region_quiet_below (by kernel_rfl) (by kernel_rfl) ?_
  repeat (first | go_big_quiet_skip | (refine BigFrame.wpQuiet_want rfl (fun K hK => ?_); refine quiet_load_row 40 (.tmp 3) rfl _ rfl 40 _ (0, 0) _ (row_regrown r3) Tryz.underlying40 rfl (op_info _ hxs) ?_; refine hK _ ?_; clear hK K) | (quiet_step (with_reducible exact cS _ _)))
  refine wpQuiet_nil ?_; rintro wy ⟨⟨dq, osq⟩, rfl⟩; have hbn := below_regrown wz dq osq; generalize Go.Sort.grow (redrawn wz dq) osq = wy at *
  have hS1 := hS.step hbn; clear hS hbn; have hS := hS1; clear hS1
  clear q2 r3 cS
  go_wp2_with go_skip
  go_ret
  exact ⟨by rw [HM.out]; rfl, hS.below⟩
set_option maxRecDepth 100000 in
set_option maxHeartbeats 2000000 in
theorem may_big (h1 : ¬ x.o.T ≤ sawT s.l x.o.seen) (h2 : 4611686018427387904 ≤ x.o.T) : Calls Tryz.prog 44 #[.pointer (some ⟨B.d, 0, none⟩), opv x.o] w fun e w' => e = .returned (.bool (mayB s x)) ∧ Below w.heap.size w w' := by
  have h1b : decide (x.o.T ≤ sawT s.l x.o.seen) = false := by simpa using h1
  have h2b : decide (4611686018427387904 ≤ x.o.T) = true := by simpa using h2
  have HM : Hid (mayB s x = false) := Lib.hid (by unfold mayB; rw [decide_eq_false (show ¬ x.o.T < 4611686018427387904 by omega)]; simp)
  clear h1 h2
  have HD := Lib.hid hd
  have HK := Lib.hid hs
  have HXO := Lib.hid hx
  have HG := Lib.hid hg
  have HXS := Lib.hid (good_seen hg)
  have HO := Lib.hid (good_objkey hg)
  have hxs := hx.seen
  have hS : Boxes w (w.alloc (Obj.cells x.o.c 40)) [(w.heap.size, Obj.cells x.o.c 40)] := (Boxes.start w).alloc _
  clear hd hs hx hg
  obtain ⟨u, hu⟩ : ∃ u, lookV false ptrv (.pointer none) (assoc [(zID, B.x)] (objkey x)) = u := ⟨_, rfl⟩
  go_enter Tryz.func44, Tryz.ntmps44
  go_wp2_with go_skip
  generalize (w.alloc (Obj.cells x.o.c 40)) = w1 at *
  have q66 := cell_regrown (doc_cell (HD.out.move hS.below) (docC_66 HK.out.v s.t B.po B.pj))
  have oj := Lib.hid (cells_regrown (w := w1) (b := w.heap.size) (i := 68) (cs := #[.int .i64 x.o.OR, .int .i64 x.o.ON]) (fun j v hv => (cell_of_row _ _ _ _ _ _ (hS.at_ 0 rfl)).trans (OpV.pObj hxs j v hv)))
  have pj := (HD.out.move hS.below).pj
  refine wp_region_quiet_below (by kernel_rfl) (by kernel_rfl) ?_
  repeat (first | go_big_quiet_skip | (refine BigFrame.wpQuiet_want rfl (fun K hK => ?_); refine quiet_load_cells 31 (.tmp 11) rfl _ _ rfl _ _ oj.out Tryz.underlying31 rfl (id_info _ _) ?_; refine hK _ ?_; clear hK K) | (refine BigFrame.wpQuiet_want rfl (fun K hK => ?_); refine quiet_look (kf := idv) (vf := ptrv) (k := objkey x) (.tmp 10) (.tmp 12) false rfl id_key mapd_under (root_keys B.x) HO.out rfl rfl (obj_regrown pj) obj_zero hu ?_; refine hK _ ?_; clear hK K) | (quiet_step (fail)))
  refine wpQuiet_nil ?_; rintro wz ⟨⟨dq, osq⟩, rfl⟩; have hbn := below_regrown w1 dq osq; generalize Go.Sort.grow (redrawn w1 dq) osq = wz at *
  have hS1 := hS.step hbn; clear hS hbn; have hS := hS1; clear hS1
  clear q66 oj pj
  go_wp2_with go_skip
  have q2 := cell_regrown ((cell_of_row _ _ 2 _ _ _ (hS.at_ 0 rfl)).trans OpV.g2)
  have r3 := hS.at_ 0 rfl
  have cS := grown_calls (w := wz) (fun W' hb => dSeen_any B s x W' (HD.out.move (hS.below.trans (hb.mono hS.below.size))) HK.out HXO.out HXS.out)
  refine wp_region_quiet_below (by kernel_rfl) (by kernel_rfl) ?_
  repeat (first | go_big_quiet_skip | (refine BigFrame.wpQuiet_want rfl (fun K hK => ?_); refine quiet_load_row 40 (.tmp 3) rfl _ rfl 40 _ (0, 0) _ (row_regrown r3) Tryz.underlying40 rfl (op_info _ hxs) ?_; refine hK _ ?_; clear hK K) | (quiet_step (with_reducible exact cS _ _)))
  refine wpQuiet_nil ?_; rintro wy ⟨⟨dq, osq⟩, rfl⟩; have hbn := below_regrown wz dq osq; generalize Go.Sort.grow (redrawn wz dq) osq = wy at *
  have hS1 := hS.step hbn; clear hS hbn; have hS := hS1; clear hS1
  clear q2 r3 cS
  go_wp2_with go_skip
  go_ret
  exact ⟨by rw [HM.out]; rfl, hS.below⟩
set_option maxRecDepth 100000 in
set_option maxHeartbeats 2000000 in
theorem may_none (h1 : ¬ x.o.T ≤ sawT s.l x.o.seen) (h2 : ¬ 4611686018427387904 ≤ x.o.T) (h3 : objkey x ≠ zID) : Calls Tryz.prog 44 #[.pointer (some ⟨B.d, 0, none⟩), opv x.o] w fun e w' => e = .returned (.bool (mayB s x)) ∧ Below w.heap.size w w' := by
  have h1b : decide (x.o.T ≤ sawT s.l x.o.seen) = false := by simpa using h1
  have h2b : decide (4611686018427387904 ≤ x.o.T) = false := by simpa using h2
  have HM : Hid (mayB s x = false) := Lib.hid (by unfold mayB; rw [decide_eq_false h3]; simp)
  have H3 := Lib.hid h3
  clear h1 h2 h3
  have HD := Lib.hid hd
  have HK := Lib.hid hs
  have HXO := Lib.hid hx
  have HG := Lib.hid hg
  have HXS := Lib.hid (good_seen hg)
  have HO := Lib.hid (good_objkey hg)
  have hxs := hx.seen
  have hS : Boxes w (w.alloc (Obj.cells x.o.c 40)) [(w.heap.size, Obj.cells x.o.c 40)] := (Boxes.start w).alloc _
  clear hd hs hx hg
  obtain ⟨u, hu⟩ : ∃ u, lookV false ptrv (.pointer none) (assoc [(zID, B.x)] (objkey x)) = u := ⟨_, rfl⟩
  obtain rfl : u = .pointer none := by rw [← hu, show assoc [(zID, B.x)] (objkey x) = none from by simp only [assoc]; rw [if_neg (fun e => H3.out e.symm)]]; rfl
  go_enter Tryz.func44, Tryz.ntmps44
  go_wp2_with go_skip
  generalize (w.alloc (Obj.cells x.o.c 40)) = w1 at *
  have q66 := cell_regrown (doc_cell (HD.out.move hS.below) (docC_66 HK.out.v s.t B.po B.pj))
  have oj := Lib.hid (cells_regrown (w := w1) (b := w.heap.size) (i := 68) (cs := #[.int .i64 x.o.OR, .int .i64 x.o.ON]) (fun j v hv => (cell_of_row _ _ _ _ _ _ (hS.at_ 0 rfl)).trans (OpV.pObj hxs j v hv)))
  have pj := (HD.out.move hS.below).pj
  refine wp_region_quiet_below (by kernel_rfl) (by kernel_rfl) ?_
  repeat (first | go_big_quiet_skip | (refine BigFrame.wpQuiet_want rfl (fun K hK => ?_); refine quiet_load_cells 31 (.tmp 11) rfl _ _ rfl _ _ oj.out Tryz.underlying31 rfl (id_info _ _) ?_; refine hK _ ?_; clear hK K) | (refine BigFrame.wpQuiet_want rfl (fun K hK => ?_); refine quiet_look (kf := idv) (vf := ptrv) (k := objkey x) (.tmp 10) (.tmp 12) false rfl id_key mapd_under (root_keys B.x) HO.out rfl rfl (obj_regrown pj) obj_zero hu ?_; refine hK _ ?_; clear hK K) | (quiet_step (fail)))
  refine wpQuiet_nil ?_; rintro wz ⟨⟨dq, osq⟩, rfl⟩; have hbn := below_regrown w1 dq osq; generalize Go.Sort.grow (redrawn w1 dq) osq = wz at *
  have hS1 := hS.step hbn; clear hS hbn; have hS := hS1; clear hS1
  clear q66 oj pj
  go_wp2_with go_skip
  have q2 := cell_regrown ((cell_of_row _ _ 2 _ _ _ (hS.at_ 0 rfl)).trans OpV.g2)
  have r3 := hS.at_ 0 rfl
  have cS := grown_calls (w := wz) (fun W' hb => dSeen_any B s x W' (HD.out.move (hS.below.trans (hb.mono hS.below.size))) HK.out HXO.out HXS.out)
  refine wp_region_quiet_below (by kernel_rfl) (by kernel_rfl) ?_
  repeat (first | go_big_quiet_skip | (refine BigFrame.wpQuiet_want rfl (fun K hK => ?_); refine quiet_load_row 40 (.tmp 3) rfl _ rfl 40 _ (0, 0) _ (row_regrown r3) Tryz.underlying40 rfl (op_info _ hxs) ?_; refine hK _ ?_; clear hK K) | (quiet_step (with_reducible exact cS _ _)))
  refine wpQuiet_nil ?_; rintro wy ⟨⟨dq, osq⟩, rfl⟩; have hbn := below_regrown wz dq osq; generalize Go.Sort.grow (redrawn wz dq) osq = wy at *
  have hS1 := hS.step hbn; clear hS hbn; have hS := hS1; clear hS1
  clear q2 r3 cS
  go_wp2_with go_skip
  go_ret
  exact ⟨by rw [HM.out]; rfl, hS.below⟩
set_option maxRecDepth 100000 in
  set_option maxHeartbeats 2000000 in
  theorem may_yes1 (h1 : ¬ x.o.T ≤ sawT s.l x.o.seen) (h2 : ¬ 4611686018427387904 ≤ x.o.T) (h3 : objkey x = zID) (hk : x.o.K = 1) : Calls Tryz.prog 44 #[.pointer (some ⟨B.d, 0, none⟩), opv x.o] w fun e w' => e = .returned (.bool (mayB s x)) ∧ Below w.heap.size w w' := by
    have h1b : decide (x.o.T ≤ sawT s.l x.o.seen) = false := by simpa using h1
    have h2b : decide (4611686018427387904 ≤ x.o.T) = false := by simpa using h2
    have HM : Hid (mayB s x = true) := Lib.hid (by unfold mayB; rw [decide_eq_true h3, decide_eq_true (show sawT s.l x.o.seen < x.o.T by omega), decide_eq_true (show x.o.T < 4611686018427387904 by omega)]; rfl)
    have H3 := Lib.hid h3
    have H0 := Lib.hid (good_at0 hg (by rw [hk]; rfl))
    clear h1 h2 h3
    have HD := Lib.hid hd
    have HK := Lib.hid hs
    have HXO := Lib.hid hx
    have HG := Lib.hid hg
    have HXS := Lib.hid (good_seen hg)
    have HO := Lib.hid (good_objkey hg)
    have hxs := hx.seen
    have hS : Boxes w (w.alloc (Obj.cells x.o.c 40)) [(w.heap.size, Obj.cells x.o.c 40)] := (Boxes.start w).alloc _
    clear hd hs hx hg
    obtain ⟨u, hu⟩ : ∃ u, lookV false ptrv (.pointer none) (assoc [(zID, B.x)] (objkey x)) = u := ⟨_, rfl⟩
    obtain rfl : u = .pointer (some ⟨B.x, 0, none⟩) := by rw [← hu, H3.out]; rfl
    go_enter Tryz.func44, Tryz.ntmps44
    go_wp2_with go_skip
    generalize (w.alloc (Obj.cells x.o.c 40)) = w1 at *
    have q66 := cell_regrown (doc_cell (HD.out.move hS.below) (docC_66 HK.out.v s.t B.po B.pj))
    have oj := Lib.hid (cells_regrown (w := w1) (b := w.heap.size) (i := 68) (cs := #[.int .i64 x.o.OR, .int .i64 x.o.ON]) (fun j v hv => (cell_of_row _ _ _ _ _ _ (hS.at_ 0 rfl)).trans (OpV.pObj hxs j v hv)))
    have pj := (HD.out.move hS.below).pj
    refine wp_region_quiet_below (by kernel_rfl) (by kernel_rfl) ?_
    repeat (first | go_big_quiet_skip | (refine BigFrame.wpQuiet_want rfl (fun K hK => ?_); refine quiet_load_cells 31 (.tmp 11) rfl _ _ rfl _ _ oj.out Tryz.underlying31 rfl (id_info _ _) ?_; refine hK _ ?_; clear hK K) | (refine BigFrame.wpQuiet_want rfl (fun K hK => ?_); refine quiet_look (kf := idv) (vf := ptrv) (k := objkey x) (.tmp 10) (.tmp 12) false rfl id_key mapd_under (root_keys B.x) HO.out rfl rfl (obj_regrown pj) obj_zero hu ?_; refine hK _ ?_; clear hK K) | (quiet_step (fail)))
    refine wpQuiet_nil ?_; rintro wz ⟨⟨dq, osq⟩, rfl⟩; have hbn := below_regrown w1 dq osq; generalize Go.Sort.grow (redrawn w1 dq) osq = wz at *
    have hS1 := hS.step hbn; clear hS hbn; have hS := hS1; clear hS1
    clear q66 oj pj
    go_wp2_with go_skip
    have q2 := cell_regrown ((cell_of_row _ _ 2 _ _ _ (hS.at_ 0 rfl)).trans OpV.g2)
    have r3 := hS.at_ 0 rfl
    have cS := grown_calls (w := wz) (fun W' hb => dSeen_any B s x W' (HD.out.move (hS.below.trans (hb.mono hS.below.size))) HK.out HXO.out HXS.out)
    refine wp_region_quiet_below (by kernel_rfl) (by kernel_rfl) ?_
    repeat (first | go_big_quiet_skip | (refine BigFrame.wpQuiet_want rfl (fun K hK => ?_); refine quiet_load_row 40 (.tmp 3) rfl _ rfl 40 _ (0, 0) _ (row_regrown r3) Tryz.underlying40 rfl (op_info _ hxs) ?_; refine hK _ ?_; clear hK K) | (quiet_step (with_reducible exact cS _ _)))
    refine wpQuiet_nil ?_; rintro wy ⟨⟨dq, osq⟩, rfl⟩; have hbn := below_regrown wz dq osq; generalize Go.Sort.grow (redrawn wz dq) osq = wy at *
    have hS1 := hS.step hbn; clear hS hbn; have hS := hS1; clear hS1
    clear q2 r3 cS
    have x67 := (cell_of_row _ _ 67 _ _ _ (hS.at_ 0 rfl)).trans (OpV.g67 hxs)
    have o1 : wy.cell? ⟨B.x, 1, none⟩ = some (.pointer (some ⟨B.m, 0, none⟩)) := obj_cell (HD.out.move hS.below) (j := 1) rfl
    rw [hk] at x67
    go_upto_region 7 with go_skip
    have aj := Lib.hid (cells_regrown (w := wy) (b := w.heap.size) (i := 71) (cs := #[.int .i64 0, .int .i64 0]) (fun j v hv => (cell_of_row _ _ _ _ _ _ (hS.at_ 0 rfl)).trans (OpV.pAt hxs j v (by rw [H0.out.1, H0.out.2]; exact hv))))
    refine wp_region_quiet_below (by kernel_rfl) (by kernel_rfl) ?_
    repeat (first | go_big_quiet_skip | (refine BigFrame.wpQuiet_want rfl (fun K hK => ?_); refine quiet_load_cells 31 (.tmp 44) rfl _ _ rfl _ _ aj.out Tryz.underlying31 rfl (id_info _ _) ?_; refine hK _ ?_; clear hK K) | (quiet_step (fail)))
    refine wpQuiet_nil ?_; rintro wv ⟨⟨dq, osq⟩, rfl⟩; have hbn := below_regrown wy dq osq; generalize Go.Sort.grow (redrawn wy dq) osq = wv at *
    have hS1 := hS.step hbn; clear hS hbn; have hS := hS1; clear hS1
    clear aj x67 o1
    have x67 := (cell_of_row _ _ 67 _ _ _ (hS.at_ 0 rfl)).trans (OpV.g67 hxs)
    have o0 : wv.cell? ⟨B.x, 0, none⟩ = some (.int .i64 1) := obj_cell (HD.out.move hS.below) (j := 0) rfl
    rw [hk] at x67
    go_wp2_with go_skip
    go_ret
    exact ⟨by rw [HM.out]; rfl, hS.below⟩
set_option maxRecDepth 100000 in
set_option maxHeartbeats 2000000 in
theorem may_yes2 (h1 : ¬ x.o.T ≤ sawT s.l x.o.seen) (h2 : ¬ 4611686018427387904 ≤ x.o.T) (h3 : objkey x = zID) (hk : x.o.K = 2) : Calls Tryz.prog 44 #[.pointer (some ⟨B.d, 0, none⟩), opv x.o] w fun e w' => e = .returned (.bool (mayB s x)) ∧ Below w.heap.size w w' := by
  have h1b : decide (x.o.T ≤ sawT s.l x.o.seen) = false := by simpa using h1
  have h2b : decide (4611686018427387904 ≤ x.o.T) = false := by simpa using h2
  have HM : Hid (mayB s x = true) := Lib.hid (by unfold mayB; rw [decide_eq_true h3, decide_eq_true (show sawT s.l x.o.seen < x.o.T by omega), decide_eq_true (show x.o.T < 4611686018427387904 by omega)]; rfl)
  have H3 := Lib.hid h3
  have H0 := Lib.hid (good_at0 hg (by rw [hk]; rfl))
  clear h1 h2 h3
  have HD := Lib.hid hd
  have HK := Lib.hid hs
  have HXO := Lib.hid hx
  have HG := Lib.hid hg
  have HXS := Lib.hid (good_seen hg)
  have HO := Lib.hid (good_objkey hg)
  have hxs := hx.seen
  have hS : Boxes w (w.alloc (Obj.cells x.o.c 40)) [(w.heap.size, Obj.cells x.o.c 40)] := (Boxes.start w).alloc _
  clear hd hs hx hg
  obtain ⟨u, hu⟩ : ∃ u, lookV false ptrv (.pointer none) (assoc [(zID, B.x)] (objkey x)) = u := ⟨_, rfl⟩
  obtain rfl : u = .pointer (some ⟨B.x, 0, none⟩) := by rw [← hu, H3.out]; rfl
  go_enter Tryz.func44, Tryz.ntmps44
  go_wp2_with go_skip
  generalize (w.alloc (Obj.cells x.o.c 40)) = w1 at *
  have q66 := cell_regrown (doc_cell (HD.out.move hS.below) (docC_66 HK.out.v s.t B.po B.pj))
  have oj := Lib.hid (cells_regrown (w := w1) (b := w.heap.size) (i := 68) (cs := #[.int .i64 x.o.OR, .int .i64 x.o.ON]) (fun j v hv => (cell_of_row _ _ _ _ _ _ (hS.at_ 0 rfl)).trans (OpV.pObj hxs j v hv)))
  have pj := (HD.out.move hS.below).pj
  refine wp_region_quiet_below (by kernel_rfl) (by kernel_rfl) ?_
  repeat (first | go_big_quiet_skip | (refine BigFrame.wpQuiet_want rfl (fun K hK => ?_); refine quiet_load_cells 31 (.tmp 11) rfl _ _ rfl _ _ oj.out Tryz.underlying31 rfl (id_info _ _) ?_; refine hK _ ?_; clear hK K) | (refine BigFrame.wpQuiet_want rfl (fun K hK => ?_); refine quiet_look (kf := idv) (vf := ptrv) (k := objkey x) (.tmp 10) (.tmp 12) false rfl id_key mapd_under (root_keys B.x) HO.out rfl rfl (obj_regrown pj) obj_zero hu ?_; refine hK _ ?_; clear hK K) | (quiet_step (fail)))
  refine wpQuiet_nil ?_; rintro wz ⟨⟨dq, osq⟩, rfl⟩; have hbn := below_regrown w1 dq osq; generalize Go.Sort.grow (redrawn w1 dq) osq = wz at *
  have hS1 := hS.step hbn; clear hS hbn; have hS := hS1; clear hS1
  clear q66 oj pj
  go_wp2_with go_skip
  have q2 := cell_regrown ((cell_of_row _ _ 2 _ _ _ (hS.at_ 0 rfl)).trans OpV.g2)
  have r3 := hS.at_ 0 rfl
  have cS := grown_calls (w := wz) (fun W' hb => dSeen_any B s x W' (HD.out.move (hS.below.trans (hb.mono hS.below.size))) HK.out HXO.out HXS.out)
  refine wp_region_quiet_below (by kernel_rfl) (by kernel_rfl) ?_
  repeat (first | go_big_quiet_skip | (refine BigFrame.wpQuiet_want rfl (fun K hK => ?_); refine quiet_load_row 40 (.tmp 3) rfl _ rfl 40 _ (0, 0) _ (row_regrown r3) Tryz.underlying40 rfl (op_info _ hxs) ?_; refine hK _ ?_; clear hK K) | (quiet_step (with_reducible exact cS _ _)))
  refine wpQuiet_nil ?_; rintro wy ⟨⟨dq, osq⟩, rfl⟩; have hbn := below_regrown wz dq osq; generalize Go.Sort.grow (redrawn wz dq) osq = wy at *
  have hS1 := hS.step hbn; clear hS hbn; have hS := hS1; clear hS1
  clear q2 r3 cS
  have x67 := (cell_of_row _ _ 67 _ _ _ (hS.at_ 0 rfl)).trans (OpV.g67 hxs)
  have o1 : wy.cell? ⟨B.x, 1, none⟩ = some (.pointer (some ⟨B.m, 0, none⟩)) := obj_cell (HD.out.move hS.below) (j := 1) rfl
  rw [hk] at x67
  go_upto_region 7 with go_skip
  have aj := Lib.hid (cells_regrown (w := wy) (b := w.heap.size) (i := 71) (cs := #[.int .i64 0, .int .i64 0]) (fun j v hv => (cell_of_row _ _ _ _ _ _ (hS.at_ 0 rfl)).trans (OpV.pAt hxs j v (by rw [H0.out.1, H0.out.2]; exact hv))))
  refine wp_region_quiet_below (by kernel_rfl) (by kernel_rfl) ?_
  repeat (first | go_big_quiet_skip | (refine BigFrame.wpQuiet_want rfl (fun K hK => ?_); refine quiet_load_cells 31 (.tmp 44) rfl _ _ rfl _ _ aj.out Tryz.underlying31 rfl (id_info _ _) ?_; refine hK _ ?_; clear hK K) | (quiet_step (fail)))
  refine wpQuiet_nil ?_; rintro wv ⟨⟨dq, osq⟩, rfl⟩; have hbn := below_regrown wy dq osq; generalize Go.Sort.grow (redrawn wy dq) osq = wv at *
  have hS1 := hS.step hbn; clear hS hbn; have hS := hS1; clear hS1
  clear aj x67 o1
  have x67 := (cell_of_row _ _ 67 _ _ _ (hS.at_ 0 rfl)).trans (OpV.g67 hxs)
  have o0 : wv.cell? ⟨B.x, 0, none⟩ = some (.int .i64 1) := obj_cell (HD.out.move hS.below) (j := 0) rfl
  rw [hk] at x67
  go_wp2_with go_skip
  go_ret
  exact ⟨by rw [HM.out]; rfl, hS.below⟩
theorem dMay_any : Calls Tryz.prog 44 #[.pointer (some ⟨B.d, 0, none⟩), opv x.o] w fun e w' => e = .returned (.bool (mayB s x)) ∧ Below w.heap.size w w' := by
  by_cases h1 : x.o.T ≤ sawT s.l x.o.seen
  · exact may_late B s x w hd hs hx hg h1
  by_cases h2 : 4611686018427387904 ≤ x.o.T
  · exact may_big B s x w hd hs hx hg h1 h2
  by_cases h3 : objkey x = zID
  · cases hk : (x.o.K == 1 || x.o.K == 2) with
    | false => exact absurd h3 (good_obj3 hg hk)
    | true =>
      simp only [Bool.or_eq_true, beq_iff_eq] at hk
      rcases hk with hk | hk
      · exact may_yes1 B s x w hd hs hx hg h1 h2 h3 hk
      · exact may_yes2 B s x w hd hs hx hg h1 h2 h3 hk
  · exact may_none B s x w hd hs hx hg h1 h2 h3
end
end Go.Proofs.YtffcpmohanhihaaGreatDoor
