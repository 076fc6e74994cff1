/-
  ValueLikes, walked: true for all values. Condition: the library's variables as it lays them.
-/
import Derived.Test.YtcpmehppfccihaaGreatDoorV4AJ
import Derived.Test.YtcpmehppfccihaaGreatDoorJ12
import Derived.Test.YtcpmehppfccihaaGreatDoorRSteepJ
namespace Go.Proofs.YtcpmehppfccihaaGreatDoor
open Go.RowKit
set_option linter.unusedVariables false
set_option linter.unusedSimpArgs false
set_option linter.unusedSectionVars false
section
variable (a b c : VT) (w : World) (hw : Vars w) (ha : VT.In w.heap.size w a) (hb : VT.In w.heap.size w b) (hc : VT.In w.heap.size w c)
include hw ha hb hc
set_option maxRecDepth 100000 in
set_option maxHeartbeats 1000000 in
theorem likes_a (h1 : heavyB a 150 40 = true) : Calls Tryz.prog 8 #[.agg a.c, .agg b.c, .agg c.c] w fun e w' => e = .returned (.bool true) ∧ Below w.heap.size w w' := by
  have HV := Lib.hid hw
  clear hw
  have hS : Boxes w (((w.alloc (Obj.cells a.c 27)).alloc (Obj.cells b.c 27)).alloc (Obj.cells c.c 27)) [(w.heap.size, Obj.cells a.c 27), (w.heap.size + 1, Obj.cells b.c 27), (w.heap.size + 1 + 1, Obj.cells c.c 27)] := by
    have := (((Boxes.start w).alloc (Obj.cells a.c 27)).alloc (Obj.cells b.c 27)).alloc (Obj.cells c.c 27)
    simpa using this
  have cA := fun W (hW : Below w.heap.size w W) => heavy_any a 150 40 W (by omega) (by omega) (by omega) (by omega) ((ha.move hW).up hW.size)
  have cB := fun W (hW : Below w.heap.size w W) => heavy_any b 150 40 W (by omega) (by omega) (by omega) (by omega) ((hb.move hW).up hW.size)
  have cC := fun W (hW : Below w.heap.size w W) => heavy_any c 150 40 W (by omega) (by omega) (by omega) (by omega) ((hc.move hW).up hW.size)
  rw [h1] at cA
  clear h1
  have CA := Lib.hid cA
  have CB := Lib.hid cB
  have CC := Lib.hid cC
  clear cA cB cC
  go_enter Tryz.func8, Tryz.ntmps8
  go_wp2_with (first | go_skip | (go_at_call 9; (with_reducible (refine (awake4_any _ (HV.out.step hS.below)).mono ?_)); rintro e wn ⟨rfl, hbn⟩; have hS1 := hS.step hbn; clear hS hbn; have hS := hS1; clear hS1) | ((with_reducible refine gate_op (op := .load 27 (.tmp 3)) rfl ?_); refine wpList_load_row' rfl 27 (.tmp 3) rfl _ rfl 27 _ (0, 0) _ (hS.at_ 0 rfl) Tryz.underlying27 rfl (VT.val_info a) ?_) | ((with_reducible refine gate_op (op := .load 27 (.tmp 4)) rfl ?_); refine wpList_load_row' rfl 27 (.tmp 4) rfl _ rfl 27 _ (0, 0) _ (hS.at_ 1 rfl) Tryz.underlying27 rfl (VT.val_info b) ?_) | ((with_reducible refine gate_op (op := .load 27 (.tmp 5)) rfl ?_); refine wpList_load_row' rfl 27 (.tmp 5) rfl _ rfl 27 _ (0, 0) _ (hS.at_ 2 rfl) Tryz.underlying27 rfl (VT.val_info c) ?_) | (go_at_call 27; (with_reducible (refine (CA.out _ hS.below).mono ?_)); rintro e wn ⟨rfl, hbn⟩; have hS1 := hS.step hbn; clear hS hbn; have hS := hS1; clear hS1) | (go_at_call 27; (with_reducible (refine (CB.out _ hS.below).mono ?_)); rintro e wn ⟨rfl, hbn⟩; have hS1 := hS.step hbn; clear hS hbn; have hS := hS1; clear hS1) | (go_at_call 27; (with_reducible (refine (CC.out _ hS.below).mono ?_)); rintro e wn ⟨rfl, hbn⟩; have hS1 := hS.step hbn; clear hS hbn; have hS := hS1; clear hS1))
  go_ret
  exact ⟨rfl, hS.below⟩
set_option maxRecDepth 100000 in
set_option maxHeartbeats 1000000 in
theorem likes_b (h1 : heavyB a 150 40 = false) (h2 : heavyB b 150 40 = true) : Calls Tryz.prog 8 #[.agg a.c, .agg b.c, .agg c.c] w fun e w' => e = .returned (.bool true) ∧ Below w.heap.size w w' := by
  have HV := Lib.hid hw
  clear hw
  have hS : Boxes w (((w.alloc (Obj.cells a.c 27)).alloc (Obj.cells b.c 27)).alloc (Obj.cells c.c 27)) [(w.heap.size, Obj.cells a.c 27), (w.heap.size + 1, Obj.cells b.c 27), (w.heap.size + 1 + 1, Obj.cells c.c 27)] := by
    have := (((Boxes.start w).alloc (Obj.cells a.c 27)).alloc (Obj.cells b.c 27)).alloc (Obj.cells c.c 27)
    simpa using this
  have cA := fun W (hW : Below w.heap.size w W) => heavy_any a 150 40 W (by omega) (by omega) (by omega) (by omega) ((ha.move hW).up hW.size)
  have cB := fun W (hW : Below w.heap.size w W) => heavy_any b 150 40 W (by omega) (by omega) (by omega) (by omega) ((hb.move hW).up hW.size)
  have cC := fun W (hW : Below w.heap.size w W) => heavy_any c 150 40 W (by omega) (by omega) (by omega) (by omega) ((hc.move hW).up hW.size)
  rw [h1] at cA
  rw [h2] at cB
  clear h1 h2
  have CA := Lib.hid cA
  have CB := Lib.hid cB
  have CC := Lib.hid cC
  clear cA cB cC
  go_enter Tryz.func8, Tryz.ntmps8
  go_wp2_with (first | go_skip | (go_at_call 9; (with_reducible (refine (awake4_any _ (HV.out.step hS.below)).mono ?_)); rintro e wn ⟨rfl, hbn⟩; have hS1 := hS.step hbn; clear hS hbn; have hS := hS1; clear hS1) | ((with_reducible refine gate_op (op := .load 27 (.tmp 3)) rfl ?_); refine wpList_load_row' rfl 27 (.tmp 3) rfl _ rfl 27 _ (0, 0) _ (hS.at_ 0 rfl) Tryz.underlying27 rfl (VT.val_info a) ?_) | ((with_reducible refine gate_op (op := .load 27 (.tmp 4)) rfl ?_); refine wpList_load_row' rfl 27 (.tmp 4) rfl _ rfl 27 _ (0, 0) _ (hS.at_ 1 rfl) Tryz.underlying27 rfl (VT.val_info b) ?_) | ((with_reducible refine gate_op (op := .load 27 (.tmp 5)) rfl ?_); refine wpList_load_row' rfl 27 (.tmp 5) rfl _ rfl 27 _ (0, 0) _ (hS.at_ 2 rfl) Tryz.underlying27 rfl (VT.val_info c) ?_) | (go_at_call 27; (with_reducible (refine (CA.out _ hS.below).mono ?_)); rintro e wn ⟨rfl, hbn⟩; have hS1 := hS.step hbn; clear hS hbn; have hS := hS1; clear hS1) | (go_at_call 27; (with_reducible (refine (CB.out _ hS.below).mono ?_)); rintro e wn ⟨rfl, hbn⟩; have hS1 := hS.step hbn; clear hS hbn; have hS := hS1; clear hS1) | (go_at_call 27; (with_reducible (refine (CC.out _ hS.below).mono ?_)); rintro e wn ⟨rfl, hbn⟩; have hS1 := hS.step hbn; clear hS hbn; have hS := hS1; clear hS1))
  go_ret
  exact ⟨rfl, hS.below⟩
set_option maxRecDepth 100000 in
set_option maxHeartbeats 1000000 in
theorem likes_c (h1 : heavyB a 150 40 = false) (h2 : heavyB b 150 40 = false) (h3 : heavyB c 150 40 = true) : Calls Tryz.prog 8 #[.agg a.c, .agg b.c, .agg c.c] w fun e w' => e = .returned (.bool true) ∧ Below w.heap.size w w' := by
  have HV := Lib.hid hw
  clear hw
  have hS : Boxes w (((w.alloc (Obj.cells a.c 27)).alloc (Obj.cells b.c 27)).alloc (Obj.cells c.c 27)) [(w.heap.size, Obj.cells a.c 27), (w.heap.size + 1, Obj.cells b.c 27), (w.heap.size + 1 + 1, Obj.cells c.c 27)] := by
    have := (((Boxes.start w).alloc (Obj.cells a.c 27)).alloc (Obj.cells b.c 27)).alloc (Obj.cells c.c 27)
    simpa using this
  have cA := fun W (hW : Below w.heap.size w W) => heavy_any a 150 40 W (by omega) (by omega) (by omega) (by omega) ((ha.move hW).up hW.size)
  have cB := fun W (hW : Below w.heap.size w W) => heavy_any b 150 40 W (by omega) (by omega) (by omega) (by omega) ((hb.move hW).up hW.size)
  have cC := fun W (hW : Below w.heap.size w W) => heavy_any c 150 40 W (by omega) (by omega) (by omega) (by omega) ((hc.move hW).up hW.size)
  rw [h1] at cA
  rw [h2] at cB
  rw [h3] at cC
  clear h1 h2 h3
  have CA := Lib.hid cA
  have CB := Lib.hid cB
  have CC := Lib.hid cC
  clear cA cB cC
  go_enter Tryz.func8, Tryz.ntmps8
  go_wp2_with (first | go_skip | (go_at_call 9; (with_reducible (refine (awake4_any _ (HV.out.step hS.below)).mono ?_)); rintro e wn ⟨rfl, hbn⟩; have hS1 := hS.step hbn; clear hS hbn; have hS := hS1; clear hS1) | ((with_reducible refine gate_op (op := .load 27 (.tmp 3)) rfl ?_); refine wpList_load_row' rfl 27 (.tmp 3) rfl _ rfl 27 _ (0, 0) _ (hS.at_ 0 rfl) Tryz.underlying27 rfl (VT.val_info a) ?_) | ((with_reducible refine gate_op (op := .load 27 (.tmp 4)) rfl ?_); refine wpList_load_row' rfl 27 (.tmp 4) rfl _ rfl 27 _ (0, 0) _ (hS.at_ 1 rfl) Tryz.underlying27 rfl (VT.val_info b) ?_) | ((with_reducible refine gate_op (op := .load 27 (.tmp 5)) rfl ?_); refine wpList_load_row' rfl 27 (.tmp 5) rfl _ rfl 27 _ (0, 0) _ (hS.at_ 2 rfl) Tryz.underlying27 rfl (VT.val_info c) ?_) | (go_at_call 27; (with_reducible (refine (CA.out _ hS.below).mono ?_)); rintro e wn ⟨rfl, hbn⟩; have hS1 := hS.step hbn; clear hS hbn; have hS := hS1; clear hS1) | (go_at_call 27; (with_reducible (refine (CB.out _ hS.below).mono ?_)); rintro e wn ⟨rfl, hbn⟩; have hS1 := hS.step hbn; clear hS hbn; have hS := hS1; clear hS1) | (go_at_call 27; (with_reducible (refine (CC.out _ hS.below).mono ?_)); rintro e wn ⟨rfl, hbn⟩; have hS1 := hS.step hbn; clear hS hbn; have hS := hS1; clear hS1))
  go_ret
  exact ⟨rfl, hS.below⟩
set_option maxRecDepth 100000 in
  set_option maxHeartbeats 2000000 in
  theorem likes_d (h1 : heavyB a 150 40 = false) (h2 : heavyB b 150 40 = false) (h3 : heavyB c 150 40 = false) (hs : sameV a b = true) (he : equalV a b = true) (h4 : equalV b c = true) (h5 : equalV a c = true) : Calls Tryz.prog 8 #[.agg a.c, .agg b.c, .agg c.c] w fun e w' => e = .returned (.bool true) ∧ Below w.heap.size w w' := by
    have HV := Lib.hid hw
    clear hw
    have hS : Boxes w (((w.alloc (Obj.cells a.c 27)).alloc (Obj.cells b.c 27)).alloc (Obj.cells c.c 27)) [(w.heap.size, Obj.cells a.c 27), (w.heap.size + 1, Obj.cells b.c 27), (w.heap.size + 1 + 1, Obj.cells c.c 27)] := by
      have := (((Boxes.start w).alloc (Obj.cells a.c 27)).alloc (Obj.cells b.c 27)).alloc (Obj.cells c.c 27)
      simpa using this
    have cA := fun W (hW : Below w.heap.size w W) => heavy_any a 150 40 W (by omega) (by omega) (by omega) (by omega) ((ha.move hW).up hW.size)
    have cB := fun W (hW : Below w.heap.size w W) => heavy_any b 150 40 W (by omega) (by omega) (by omega) (by omega) ((hb.move hW).up hW.size)
    have cC := fun W (hW : Below w.heap.size w W) => heavy_any c 150 40 W (by omega) (by omega) (by omega) (by omega) ((hc.move hW).up hW.size)
    rw [h1] at cA
    rw [h2] at cB
    rw [h3] at cC
    clear h1 h2 h3
    have HE := Lib.hid he
    have HS := Lib.hid hs
    clear he hs
    have H4 := Lib.hid h4; have H5 := Lib.hid h5; clear h4 h5
    have CA := Lib.hid cA
    have CB := Lib.hid cB
    have CC := Lib.hid cC
    clear cA cB cC
    go_enter Tryz.func8, Tryz.ntmps8
    go_wp2_with (first | go_skip | (go_at_call 9; (with_reducible (refine (awake4_any _ (HV.out.step hS.below)).mono ?_)); rintro e wn ⟨rfl, hbn⟩; have hS1 := hS.step hbn; clear hS hbn; have hS := hS1; clear hS1) | ((with_reducible refine gate_op (op := .load 27 (.tmp 3)) rfl ?_); refine wpList_load_row' rfl 27 (.tmp 3) rfl _ rfl 27 _ (0, 0) _ (hS.at_ 0 rfl) Tryz.underlying27 rfl (VT.val_info a) ?_) | ((with_reducible refine gate_op (op := .load 27 (.tmp 4)) rfl ?_); refine wpList_load_row' rfl 27 (.tmp 4) rfl _ rfl 27 _ (0, 0) _ (hS.at_ 1 rfl) Tryz.underlying27 rfl (VT.val_info b) ?_) | ((with_reducible refine gate_op (op := .load 27 (.tmp 5)) rfl ?_); refine wpList_load_row' rfl 27 (.tmp 5) rfl _ rfl 27 _ (0, 0) _ (hS.at_ 2 rfl) Tryz.underlying27 rfl (VT.val_info c) ?_) | (go_at_call 27; (with_reducible (refine (CA.out _ hS.below).mono ?_)); rintro e wn ⟨rfl, hbn⟩; have hS1 := hS.step hbn; clear hS hbn; have hS := hS1; clear hS1) | (go_at_call 27; (with_reducible (refine (CB.out _ hS.below).mono ?_)); rintro e wn ⟨rfl, hbn⟩; have hS1 := hS.step hbn; clear hS hbn; have hS := hS1; clear hS1) | (go_at_call 27; (with_reducible (refine (CC.out _ hS.below).mono ?_)); rintro e wn ⟨rfl, hbn⟩; have hS1 := hS.step hbn; clear hS hbn; have hS := hS1; clear hS1))
    have hBw := hS.below
    have k0 := hS.at_ 0 rfl
    have k1 := hS.at_ 1 rfl
    have k2 := hS.at_ 2 rfl
    have d1 := grown_calls (w := wn) (fun W hW => by have hB := hBw.trans (hW.mono hBw.size); have h := vSame_any a b W ((ha.move hB).up hB.size) ((hb.move hB).up hB.size); rw [HS.out] at h; exact h)
    have d2 := grown_calls (w := wn) (fun W hW => by have hB := hBw.trans (hW.mono hBw.size); have h := vSame_any b a W ((hb.move hB).up hB.size) ((ha.move hB).up hB.size); rw [(sameV_comm b a).trans HS.out] at h; exact h)
    have d3 := grown_calls (w := wn) (fun W hW => by have hB := hBw.trans (hW.mono hBw.size); have h := vSame_any a a W ((ha.move hB).up hB.size) ((ha.move hB).up hB.size); rw [sameV_self a] at h; exact h)
    have d4 := grown_calls (w := wn) (fun W hW => by have hB := hBw.trans (hW.mono hBw.size); have h := vEqual_any a b W ((ha.move hB).up hB.size) ((hb.move hB).up hB.size); rw [HE.out] at h; exact h)
    have d5 := grown_calls (w := wn) (fun W hW => by have hB := hBw.trans (hW.mono hBw.size); have h := vEqual_any b a W ((hb.move hB).up hB.size) ((ha.move hB).up hB.size); rw [(equalV_comm b a).trans HE.out] at h; exact h)
    have d6 := grown_calls (w := wn) (fun W hW => by have hB := hBw.trans (hW.mono hBw.size); have h := vEqual_any b c W ((hb.move hB).up hB.size) ((hc.move hB).up hB.size); rw [H4.out] at h; exact h)
    have d7 := grown_calls (w := wn) (fun W hW => by have hB := hBw.trans (hW.mono hBw.size); have h := vEqual_any a c W ((ha.move hB).up hB.size) ((hc.move hB).up hB.size); rw [H5.out] at h; exact h)
    clear hBw
    refine wp_region_quiet_below (by kernel_rfl) (by kernel_rfl) ?_
    repeat (first | go_big_quiet_skip | (refine BigFrame.wpQuiet_want rfl (fun K hK => ?_); refine quiet_load_row 27 (.tmp 3) rfl _ rfl 27 _ (0, 0) _ (row_regrown k0) Tryz.underlying27 rfl (VT.val_info a) ?_; refine hK _ ?_; clear hK K) | (refine BigFrame.wpQuiet_want rfl (fun K hK => ?_); refine quiet_load_row 27 (.tmp 4) rfl _ rfl 27 _ (0, 0) _ (row_regrown k1) Tryz.underlying27 rfl (VT.val_info b) ?_; refine hK _ ?_; clear hK K) | (refine BigFrame.wpQuiet_want rfl (fun K hK => ?_); refine quiet_load_row 27 (.tmp 5) rfl _ rfl 27 _ (0, 0) _ (row_regrown k2) Tryz.underlying27 rfl (VT.val_info c) ?_; refine hK _ ?_; clear hK K) | (quiet_step (first | with_reducible exact d1 _ _ | with_reducible exact d2 _ _ | with_reducible exact d3 _ _ | with_reducible exact d4 _ _ | with_reducible exact d5 _ _ | with_reducible exact d6 _ _ | with_reducible exact d7 _ _)))
    refine wpQuiet_nil ?_; rintro wq ⟨⟨dq, osq⟩, rfl⟩; have hbq := below_regrown wn dq osq; generalize Go.Sort.grow (redrawn wn dq) osq = wq at *
    have hS1 := hS.step hbq
    clear hS hbq k0 k1 k2
    have hS := hS1
    clear hS1
    go_wp2_with go_skip
    go_ret
    exact ⟨rfl, hS.below⟩
set_option maxRecDepth 100000 in
set_option maxHeartbeats 2000000 in
theorem likes_e (h1 : heavyB a 150 40 = false) (h2 : heavyB b 150 40 = false) (h3 : heavyB c 150 40 = false) (hs : sameV a b = true) (he : equalV a b = true) (h4 : equalV b c = false) : Calls Tryz.prog 8 #[.agg a.c, .agg b.c, .agg c.c] w fun e w' => e = .returned (.bool true) ∧ Below w.heap.size w w' := by
  have HV := Lib.hid hw
  clear hw
  have hS : Boxes w (((w.alloc (Obj.cells a.c 27)).alloc (Obj.cells b.c 27)).alloc (Obj.cells c.c 27)) [(w.heap.size, Obj.cells a.c 27), (w.heap.size + 1, Obj.cells b.c 27), (w.heap.size + 1 + 1, Obj.cells c.c 27)] := by
    have := (((Boxes.start w).alloc (Obj.cells a.c 27)).alloc (Obj.cells b.c 27)).alloc (Obj.cells c.c 27)
    simpa using this
  have cA := fun W (hW : Below w.heap.size w W) => heavy_any a 150 40 W (by omega) (by omega) (by omega) (by omega) ((ha.move hW).up hW.size)
  have cB := fun W (hW : Below w.heap.size w W) => heavy_any b 150 40 W (by omega) (by omega) (by omega) (by omega) ((hb.move hW).up hW.size)
  have cC := fun W (hW : Below w.heap.size w W) => heavy_any c 150 40 W (by omega) (by omega) (by omega) (by omega) ((hc.move hW).up hW.size)
  rw [h1] at cA
  rw [h2] at cB
  rw [h3] at cC
  clear h1 h2 h3
  have HE := Lib.hid he
  have HS := Lib.hid hs
  clear he hs
  have H4 := Lib.hid h4; clear h4
  have CA := Lib.hid cA
  have CB := Lib.hid cB
  have CC := Lib.hid cC
  clear cA cB cC
  go_enter Tryz.func8, Tryz.ntmps8
  go_wp2_with (first | go_skip | (go_at_call 9; (with_reducible (refine (awake4_any _ (HV.out.step hS.below)).mono ?_)); rintro e wn ⟨rfl, hbn⟩; have hS1 := hS.step hbn; clear hS hbn; have hS := hS1; clear hS1) | ((with_reducible refine gate_op (op := .load 27 (.tmp 3)) rfl ?_); refine wpList_load_row' rfl 27 (.tmp 3) rfl _ rfl 27 _ (0, 0) _ (hS.at_ 0 rfl) Tryz.underlying27 rfl (VT.val_info a) ?_) | ((with_reducible refine gate_op (op := .load 27 (.tmp 4)) rfl ?_); refine wpList_load_row' rfl 27 (.tmp 4) rfl _ rfl 27 _ (0, 0) _ (hS.at_ 1 rfl) Tryz.underlying27 rfl (VT.val_info b) ?_) | ((with_reducible refine gate_op (op := .load 27 (.tmp 5)) rfl ?_); refine wpList_load_row' rfl 27 (.tmp 5) rfl _ rfl 27 _ (0, 0) _ (hS.at_ 2 rfl) Tryz.underlying27 rfl (VT.val_info c) ?_) | (go_at_call 27; (with_reducible (refine (CA.out _ hS.below).mono ?_)); rintro e wn ⟨rfl, hbn⟩; have hS1 := hS.step hbn; clear hS hbn; have hS := hS1; clear hS1) | (go_at_call 27; (with_reducible (refine (CB.out _ hS.below).mono ?_)); rintro e wn ⟨rfl, hbn⟩; have hS1 := hS.step hbn; clear hS hbn; have hS := hS1; clear hS1) | (go_at_call 27; (with_reducible (refine (CC.out _ hS.below).mono ?_)); rintro e wn ⟨rfl, hbn⟩; have hS1 := hS.step hbn; clear hS hbn; have hS := hS1; clear hS1))
  have hBw := hS.below
  have k0 := hS.at_ 0 rfl
  have k1 := hS.at_ 1 rfl
  have k2 := hS.at_ 2 rfl
  have d1 := grown_calls (w := wn) (fun W hW => by have hB := hBw.trans (hW.mono hBw.size); have h := vSame_any a b W ((ha.move hB).up hB.size) ((hb.move hB).up hB.size); rw [HS.out] at h; exact h)
  have d2 := grown_calls (w := wn) (fun W hW => by have hB := hBw.trans (hW.mono hBw.size); have h := vSame_any b a W ((hb.move hB).up hB.size) ((ha.move hB).up hB.size); rw [(sameV_comm b a).trans HS.out] at h; exact h)
  have d3 := grown_calls (w := wn) (fun W hW => by have hB := hBw.trans (hW.mono hBw.size); have h := vSame_any a a W ((ha.move hB).up hB.size) ((ha.move hB).up hB.size); rw [sameV_self a] at h; exact h)
  have d4 := grown_calls (w := wn) (fun W hW => by have hB := hBw.trans (hW.mono hBw.size); have h := vEqual_any a b W ((ha.move hB).up hB.size) ((hb.move hB).up hB.size); rw [HE.out] at h; exact h)
  have d5 := grown_calls (w := wn) (fun W hW => by have hB := hBw.trans (hW.mono hBw.size); have h := vEqual_any b a W ((hb.move hB).up hB.size) ((ha.move hB).up hB.size); rw [(equalV_comm b a).trans HE.out] at h; exact h)
  have d6 := grown_calls (w := wn) (fun W hW => by have hB := hBw.trans (hW.mono hBw.size); have h := vEqual_any b c W ((hb.move hB).up hB.size) ((hc.move hB).up hB.size); rw [H4.out] at h; exact h)
  skip
  clear hBw
  refine wp_region_quiet_below (by kernel_rfl) (by kernel_rfl) ?_
  repeat (first | go_big_quiet_skip | (refine BigFrame.wpQuiet_want rfl (fun K hK => ?_); refine quiet_load_row 27 (.tmp 3) rfl _ rfl 27 _ (0, 0) _ (row_regrown k0) Tryz.underlying27 rfl (VT.val_info a) ?_; refine hK _ ?_; clear hK K) | (refine BigFrame.wpQuiet_want rfl (fun K hK => ?_); refine quiet_load_row 27 (.tmp 4) rfl _ rfl 27 _ (0, 0) _ (row_regrown k1) Tryz.underlying27 rfl (VT.val_info b) ?_; refine hK _ ?_; clear hK K) | (refine BigFrame.wpQuiet_want rfl (fun K hK => ?_); refine quiet_load_row 27 (.tmp 5) rfl _ rfl 27 _ (0, 0) _ (row_regrown k2) Tryz.underlying27 rfl (VT.val_info c) ?_; refine hK _ ?_; clear hK K) | (quiet_step (first | with_reducible exact d1 _ _ | with_reducible exact d2 _ _ | with_reducible exact d3 _ _ | with_reducible exact d4 _ _ | with_reducible exact d5 _ _ | with_reducible exact d6 _ _)))
  refine wpQuiet_nil ?_; rintro wq ⟨⟨dq, osq⟩, rfl⟩; have hbq := below_regrown wn dq osq; generalize Go.Sort.grow (redrawn wn dq) osq = wq at *
  have hS1 := hS.step hbq
  clear hS hbq k0 k1 k2
  have hS := hS1
  clear hS1
  go_wp2_with go_skip
  go_ret
  exact ⟨rfl, hS.below⟩
set_option maxRecDepth 100000 in
set_option maxHeartbeats 2000000 in
theorem likes_f (h1 : heavyB a 150 40 = false) (h2 : heavyB b 150 40 = false) (h3 : heavyB c 150 40 = false) (hs : sameV a b = false) (he : equalV a b = true) (h4 : equalV b c = true) (h5 : equalV a c = true) : Calls Tryz.prog 8 #[.agg a.c, .agg b.c, .agg c.c] w fun e w' => e = .returned (.bool true) ∧ Below w.heap.size w w' := by
  have HV := Lib.hid hw
  clear hw
  have hS : Boxes w (((w.alloc (Obj.cells a.c 27)).alloc (Obj.cells b.c 27)).alloc (Obj.cells c.c 27)) [(w.heap.size, Obj.cells a.c 27), (w.heap.size + 1, Obj.cells b.c 27), (w.heap.size + 1 + 1, Obj.cells c.c 27)] := by
    have := (((Boxes.start w).alloc (Obj.cells a.c 27)).alloc (Obj.cells b.c 27)).alloc (Obj.cells c.c 27)
    simpa using this
  have cA := fun W (hW : Below w.heap.size w W) => heavy_any a 150 40 W (by omega) (by omega) (by omega) (by omega) ((ha.move hW).up hW.size)
  have cB := fun W (hW : Below w.heap.size w W) => heavy_any b 150 40 W (by omega) (by omega) (by omega) (by omega) ((hb.move hW).up hW.size)
  have cC := fun W (hW : Below w.heap.size w W) => heavy_any c 150 40 W (by omega) (by omega) (by omega) (by omega) ((hc.move hW).up hW.size)
  rw [h1] at cA
  rw [h2] at cB
  rw [h3] at cC
  clear h1 h2 h3
  have HE := Lib.hid he
  have HS := Lib.hid hs
  clear he hs
  have H4 := Lib.hid h4; have H5 := Lib.hid h5; clear h4 h5
  have CA := Lib.hid cA
  have CB := Lib.hid cB
  have CC := Lib.hid cC
  clear cA cB cC
  go_enter Tryz.func8, Tryz.ntmps8
  go_wp2_with (first | go_skip | (go_at_call 9; (with_reducible (refine (awake4_any _ (HV.out.step hS.below)).mono ?_)); rintro e wn ⟨rfl, hbn⟩; have hS1 := hS.step hbn; clear hS hbn; have hS := hS1; clear hS1) | ((with_reducible refine gate_op (op := .load 27 (.tmp 3)) rfl ?_); refine wpList_load_row' rfl 27 (.tmp 3) rfl _ rfl 27 _ (0, 0) _ (hS.at_ 0 rfl) Tryz.underlying27 rfl (VT.val_info a) ?_) | ((with_reducible refine gate_op (op := .load 27 (.tmp 4)) rfl ?_); refine wpList_load_row' rfl 27 (.tmp 4) rfl _ rfl 27 _ (0, 0) _ (hS.at_ 1 rfl) Tryz.underlying27 rfl (VT.val_info b) ?_) | ((with_reducible refine gate_op (op := .load 27 (.tmp 5)) rfl ?_); refine wpList_load_row' rfl 27 (.tmp 5) rfl _ rfl 27 _ (0, 0) _ (hS.at_ 2 rfl) Tryz.underlying27 rfl (VT.val_info c) ?_) | (go_at_call 27; (with_reducible (refine (CA.out _ hS.below).mono ?_)); rintro e wn ⟨rfl, hbn⟩; have hS1 := hS.step hbn; clear hS hbn; have hS := hS1; clear hS1) | (go_at_call 27; (with_reducible (refine (CB.out _ hS.below).mono ?_)); rintro e wn ⟨rfl, hbn⟩; have hS1 := hS.step hbn; clear hS hbn; have hS := hS1; clear hS1) | (go_at_call 27; (with_reducible (refine (CC.out _ hS.below).mono ?_)); rintro e wn ⟨rfl, hbn⟩; have hS1 := hS.step hbn; clear hS hbn; have hS := hS1; clear hS1))
  have hBw := hS.below
  have k0 := hS.at_ 0 rfl
  have k1 := hS.at_ 1 rfl
  have k2 := hS.at_ 2 rfl
  have d1 := grown_calls (w := wn) (fun W hW => by have hB := hBw.trans (hW.mono hBw.size); have h := vSame_any a b W ((ha.move hB).up hB.size) ((hb.move hB).up hB.size); rw [HS.out] at h; exact h)
  have d2 := grown_calls (w := wn) (fun W hW => by have hB := hBw.trans (hW.mono hBw.size); have h := vSame_any b a W ((hb.move hB).up hB.size) ((ha.move hB).up hB.size); rw [(sameV_comm b a).trans HS.out] at h; exact h)
  have d3 := grown_calls (w := wn) (fun W hW => by have hB := hBw.trans (hW.mono hBw.size); have h := vSame_any a a W ((ha.move hB).up hB.size) ((ha.move hB).up hB.size); rw [sameV_self a] at h; exact h)
  have d4 := grown_calls (w := wn) (fun W hW => by have hB := hBw.trans (hW.mono hBw.size); have h := vEqual_any a b W ((ha.move hB).up hB.size) ((hb.move hB).up hB.size); rw [HE.out] at h; exact h)
  have d5 := grown_calls (w := wn) (fun W hW => by have hB := hBw.trans (hW.mono hBw.size); have h := vEqual_any b a W ((hb.move hB).up hB.size) ((ha.move hB).up hB.size); rw [(equalV_comm b a).trans HE.out] at h; exact h)
  have d6 := grown_calls (w := wn) (fun W hW => by have hB := hBw.trans (hW.mono hBw.size); have h := vEqual_any b c W ((hb.move hB).up hB.size) ((hc.move hB).up hB.size); rw [H4.out] at h; exact h)
  have d7 := grown_calls (w := wn) (fun W hW => by have hB := hBw.trans (hW.mono hBw.size); have h := vEqual_any a c W ((ha.move hB).up hB.size) ((hc.move hB).up hB.size); rw [H5.out] at h; exact h)
  clear hBw
  refine wp_region_quiet_below (by kernel_rfl) (by kernel_rfl) ?_
  repeat (first | go_big_quiet_skip | (refine BigFrame.wpQuiet_want rfl (fun K hK => ?_); refine quiet_load_row 27 (.tmp 3) rfl _ rfl 27 _ (0, 0) _ (row_regrown k0) Tryz.underlying27 rfl (VT.val_info a) ?_; refine hK _ ?_; clear hK K) | (refine BigFrame.wpQuiet_want rfl (fun K hK => ?_); refine quiet_load_row 27 (.tmp 4) rfl _ rfl 27 _ (0, 0) _ (row_regrown k1) Tryz.underlying27 rfl (VT.val_info b) ?_; refine hK _ ?_; clear hK K) | (refine BigFrame.wpQuiet_want rfl (fun K hK => ?_); refine quiet_load_row 27 (.tmp 5) rfl _ rfl 27 _ (0, 0) _ (row_regrown k2) Tryz.underlying27 rfl (VT.val_info c) ?_; refine hK _ ?_; clear hK K) | (quiet_step (first | with_reducible exact d1 _ _ | with_reducible exact d2 _ _ | with_reducible exact d3 _ _ | with_reducible exact d4 _ _ | with_reducible exact d5 _ _ | with_reducible exact d6 _ _ | with_reducible exact d7 _ _)))
  refine wpQuiet_nil ?_; rintro wq ⟨⟨dq, osq⟩, rfl⟩; have hbq := below_regrown wn dq osq; generalize Go.Sort.grow (redrawn wn dq) osq = wq at *
  have hS1 := hS.step hbq
  clear hS hbq k0 k1 k2
  have hS := hS1
  clear hS1
  go_wp2_with go_skip
  go_ret
  exact ⟨rfl, hS.below⟩
set_option maxRecDepth 100000 in
set_option maxHeartbeats 2000000 in
theorem likes_g (h1 : heavyB a 150 40 = false) (h2 : heavyB b 150 40 = false) (h3 : heavyB c 150 40 = false) (hs : sameV a b = false) (he : equalV a b = true) (h4 : equalV b c = false) : Calls Tryz.prog 8 #[.agg a.c, .agg b.c, .agg c.c] w fun e w' => e = .returned (.bool true) ∧ Below w.heap.size w w' := by
  have HV := Lib.hid hw
  clear hw
  have hS : Boxes w (((w.alloc (Obj.cells a.c 27)).alloc (Obj.cells b.c 27)).alloc (Obj.cells c.c 27)) [(w.heap.size, Obj.cells a.c 27), (w.heap.size + 1, Obj.cells b.c 27), (w.heap.size + 1 + 1, Obj.cells c.c 27)] := by
    have := (((Boxes.start w).alloc (Obj.cells a.c 27)).alloc (Obj.cells b.c 27)).alloc (Obj.cells c.c 27)
    simpa using this
  have cA := fun W (hW : Below w.heap.size w W) => heavy_any a 150 40 W (by omega) (by omega) (by omega) (by omega) ((ha.move hW).up hW.size)
  have cB := fun W (hW : Below w.heap.size w W) => heavy_any b 150 40 W (by omega) (by omega) (by omega) (by omega) ((hb.move hW).up hW.size)
  have cC := fun W (hW : Below w.heap.size w W) => heavy_any c 150 40 W (by omega) (by omega) (by omega) (by omega) ((hc.move hW).up hW.size)
  rw [h1] at cA
  rw [h2] at cB
  rw [h3] at cC
  clear h1 h2 h3
  have HE := Lib.hid he
  have HS := Lib.hid hs
  clear he hs
  have H4 := Lib.hid h4; clear h4
  have CA := Lib.hid cA
  have CB := Lib.hid cB
  have CC := Lib.hid cC
  clear cA cB cC
  go_enter Tryz.func8, Tryz.ntmps8
  go_wp2_with (first | go_skip | (go_at_call 9; (with_reducible (refine (awake4_any _ (HV.out.step hS.below)).mono ?_)); rintro e wn ⟨rfl, hbn⟩; have hS1 := hS.step hbn; clear hS hbn; have hS := hS1; clear hS1) | ((with_reducible refine gate_op (op := .load 27 (.tmp 3)) rfl ?_); refine wpList_load_row' rfl 27 (.tmp 3) rfl _ rfl 27 _ (0, 0) _ (hS.at_ 0 rfl) Tryz.underlying27 rfl (VT.val_info a) ?_) | ((with_reducible refine gate_op (op := .load 27 (.tmp 4)) rfl ?_); refine wpList_load_row' rfl 27 (.tmp 4) rfl _ rfl 27 _ (0, 0) _ (hS.at_ 1 rfl) Tryz.underlying27 rfl (VT.val_info b) ?_) | ((with_reducible refine gate_op (op := .load 27 (.tmp 5)) rfl ?_); refine wpList_load_row' rfl 27 (.tmp 5) rfl _ rfl 27 _ (0, 0) _ (hS.at_ 2 rfl) Tryz.underlying27 rfl (VT.val_info c) ?_) | (go_at_call 27; (with_reducible (refine (CA.out _ hS.below).mono ?_)); rintro e wn ⟨rfl, hbn⟩; have hS1 := hS.step hbn; clear hS hbn; have hS := hS1; clear hS1) | (go_at_call 27; (with_reducible (refine (CB.out _ hS.below).mono ?_)); rintro e wn ⟨rfl, hbn⟩; have hS1 := hS.step hbn; clear hS hbn; have hS := hS1; clear hS1) | (go_at_call 27; (with_reducible (refine (CC.out _ hS.below).mono ?_)); rintro e wn ⟨rfl, hbn⟩; have hS1 := hS.step hbn; clear hS hbn; have hS := hS1; clear hS1))
  have hBw := hS.below
  have k0 := hS.at_ 0 rfl
  have k1 := hS.at_ 1 rfl
  have k2 := hS.at_ 2 rfl
  have d1 := grown_calls (w := wn) (fun W hW => by have hB := hBw.trans (hW.mono hBw.size); have h := vSame_any a b W ((ha.move hB).up hB.size) ((hb.move hB).up hB.size); rw [HS.out] at h; exact h)
  have d2 := grown_calls (w := wn) (fun W hW => by have hB := hBw.trans (hW.mono hBw.size); have h := vSame_any b a W ((hb.move hB).up hB.size) ((ha.move hB).up hB.size); rw [(sameV_comm b a).trans HS.out] at h; exact h)
  have d3 := grown_calls (w := wn) (fun W hW => by have hB := hBw.trans (hW.mono hBw.size); have h := vSame_any a a W ((ha.move hB).up hB.size) ((ha.move hB).up hB.size); rw [sameV_self a] at h; exact h)
  have d4 := grown_calls (w := wn) (fun W hW => by have hB := hBw.trans (hW.mono hBw.size); have h := vEqual_any a b W ((ha.move hB).up hB.size) ((hb.move hB).up hB.size); rw [HE.out] at h; exact h)
  have d5 := grown_calls (w := wn) (fun W hW => by have hB := hBw.trans (hW.mono hBw.size); have h := vEqual_any b a W ((hb.move hB).up hB.size) ((ha.move hB).up hB.size); rw [(equalV_comm b a).trans HE.out] at h; exact h)
  have d6 := grown_calls (w := wn) (fun W hW => by have hB := hBw.trans (hW.mono hBw.size); have h := vEqual_any b c W ((hb.move hB).up hB.size) ((hc.move hB).up hB.size); rw [H4.out] at h; exact h)
  skip
  clear hBw
  refine wp_region_quiet_below (by kernel_rfl) (by kernel_rfl) ?_
  repeat (first | go_big_quiet_skip | (refine BigFrame.wpQuiet_want rfl (fun K hK => ?_); refine quiet_load_row 27 (.tmp 3) rfl _ rfl 27 _ (0, 0) _ (row_regrown k0) Tryz.underlying27 rfl (VT.val_info a) ?_; refine hK _ ?_; clear hK K) | (refine BigFrame.wpQuiet_want rfl (fun K hK => ?_); refine quiet_load_row 27 (.tmp 4) rfl _ rfl 27 _ (0, 0) _ (row_regrown k1) Tryz.underlying27 rfl (VT.val_info b) ?_; refine hK _ ?_; clear hK K) | (refine BigFrame.wpQuiet_want rfl (fun K hK => ?_); refine quiet_load_row 27 (.tmp 5) rfl _ rfl 27 _ (0, 0) _ (row_regrown k2) Tryz.underlying27 rfl (VT.val_info c) ?_; refine hK _ ?_; clear hK K) | (quiet_step (first | with_reducible exact d1 _ _ | with_reducible exact d2 _ _ | with_reducible exact d3 _ _ | with_reducible exact d4 _ _ | with_reducible exact d5 _ _ | with_reducible exact d6 _ _)))
  refine wpQuiet_nil ?_; rintro wq ⟨⟨dq, osq⟩, rfl⟩; have hbq := below_regrown wn dq osq; generalize Go.Sort.grow (redrawn wn dq) osq = wq at *
  have hS1 := hS.step hbq
  clear hS hbq k0 k1 k2
  have hS := hS1
  clear hS1
  go_wp2_with go_skip
  go_ret
  exact ⟨rfl, hS.below⟩
set_option maxRecDepth 100000 in
set_option maxHeartbeats 2000000 in
theorem likes_h (h1 : heavyB a 150 40 = false) (h2 : heavyB b 150 40 = false) (h3 : heavyB c 150 40 = false) (hs : sameV a b = false) (he : equalV a b = false)  : Calls Tryz.prog 8 #[.agg a.c, .agg b.c, .agg c.c] w fun e w' => e = .returned (.bool true) ∧ Below w.heap.size w w' := by
  have HV := Lib.hid hw
  clear hw
  have hS : Boxes w (((w.alloc (Obj.cells a.c 27)).alloc (Obj.cells b.c 27)).alloc (Obj.cells c.c 27)) [(w.heap.size, Obj.cells a.c 27), (w.heap.size + 1, Obj.cells b.c 27), (w.heap.size + 1 + 1, Obj.cells c.c 27)] := by
    have := (((Boxes.start w).alloc (Obj.cells a.c 27)).alloc (Obj.cells b.c 27)).alloc (Obj.cells c.c 27)
    simpa using this
  have cA := fun W (hW : Below w.heap.size w W) => heavy_any a 150 40 W (by omega) (by omega) (by omega) (by omega) ((ha.move hW).up hW.size)
  have cB := fun W (hW : Below w.heap.size w W) => heavy_any b 150 40 W (by omega) (by omega) (by omega) (by omega) ((hb.move hW).up hW.size)
  have cC := fun W (hW : Below w.heap.size w W) => heavy_any c 150 40 W (by omega) (by omega) (by omega) (by omega) ((hc.move hW).up hW.size)
  rw [h1] at cA
  rw [h2] at cB
  rw [h3] at cC
  clear h1 h2 h3
  have HE := Lib.hid he
  have HS := Lib.hid hs
  clear he hs
  skip
  have CA := Lib.hid cA
  have CB := Lib.hid cB
  have CC := Lib.hid cC
  clear cA cB cC
  go_enter Tryz.func8, Tryz.ntmps8
  go_wp2_with (first | go_skip | (go_at_call 9; (with_reducible (refine (awake4_any _ (HV.out.step hS.below)).mono ?_)); rintro e wn ⟨rfl, hbn⟩; have hS1 := hS.step hbn; clear hS hbn; have hS := hS1; clear hS1) | ((with_reducible refine gate_op (op := .load 27 (.tmp 3)) rfl ?_); refine wpList_load_row' rfl 27 (.tmp 3) rfl _ rfl 27 _ (0, 0) _ (hS.at_ 0 rfl) Tryz.underlying27 rfl (VT.val_info a) ?_) | ((with_reducible refine gate_op (op := .load 27 (.tmp 4)) rfl ?_); refine wpList_load_row' rfl 27 (.tmp 4) rfl _ rfl 27 _ (0, 0) _ (hS.at_ 1 rfl) Tryz.underlying27 rfl (VT.val_info b) ?_) | ((with_reducible refine gate_op (op := .load 27 (.tmp 5)) rfl ?_); refine wpList_load_row' rfl 27 (.tmp 5) rfl _ rfl 27 _ (0, 0) _ (hS.at_ 2 rfl) Tryz.underlying27 rfl (VT.val_info c) ?_) | (go_at_call 27; (with_reducible (refine (CA.out _ hS.below).mono ?_)); rintro e wn ⟨rfl, hbn⟩; have hS1 := hS.step hbn; clear hS hbn; have hS := hS1; clear hS1) | (go_at_call 27; (with_reducible (refine (CB.out _ hS.below).mono ?_)); rintro e wn ⟨rfl, hbn⟩; have hS1 := hS.step hbn; clear hS hbn; have hS := hS1; clear hS1) | (go_at_call 27; (with_reducible (refine (CC.out _ hS.below).mono ?_)); rintro e wn ⟨rfl, hbn⟩; have hS1 := hS.step hbn; clear hS hbn; have hS := hS1; clear hS1))
  have hBw := hS.below
  have k0 := hS.at_ 0 rfl
  have k1 := hS.at_ 1 rfl
  have k2 := hS.at_ 2 rfl
  have d1 := grown_calls (w := wn) (fun W hW => by have hB := hBw.trans (hW.mono hBw.size); have h := vSame_any a b W ((ha.move hB).up hB.size) ((hb.move hB).up hB.size); rw [HS.out] at h; exact h)
  have d2 := grown_calls (w := wn) (fun W hW => by have hB := hBw.trans (hW.mono hBw.size); have h := vSame_any b a W ((hb.move hB).up hB.size) ((ha.move hB).up hB.size); rw [(sameV_comm b a).trans HS.out] at h; exact h)
  have d3 := grown_calls (w := wn) (fun W hW => by have hB := hBw.trans (hW.mono hBw.size); have h := vSame_any a a W ((ha.move hB).up hB.size) ((ha.move hB).up hB.size); rw [sameV_self a] at h; exact h)
  have d4 := grown_calls (w := wn) (fun W hW => by have hB := hBw.trans (hW.mono hBw.size); have h := vEqual_any a b W ((ha.move hB).up hB.size) ((hb.move hB).up hB.size); rw [HE.out] at h; exact h)
  have d5 := grown_calls (w := wn) (fun W hW => by have hB := hBw.trans (hW.mono hBw.size); have h := vEqual_any b a W ((hb.move hB).up hB.size) ((ha.move hB).up hB.size); rw [(equalV_comm b a).trans HE.out] at h; exact h)
  skip
  skip
  clear hBw
  refine wp_region_quiet_below (by kernel_rfl) (by kernel_rfl) ?_
  repeat (first | go_big_quiet_skip | (refine BigFrame.wpQuiet_want rfl (fun K hK => ?_); refine quiet_load_row 27 (.tmp 3) rfl _ rfl 27 _ (0, 0) _ (row_regrown k0) Tryz.underlying27 rfl (VT.val_info a) ?_; refine hK _ ?_; clear hK K) | (refine BigFrame.wpQuiet_want rfl (fun K hK => ?_); refine quiet_load_row 27 (.tmp 4) rfl _ rfl 27 _ (0, 0) _ (row_regrown k1) Tryz.underlying27 rfl (VT.val_info b) ?_; refine hK _ ?_; clear hK K) | (refine BigFrame.wpQuiet_want rfl (fun K hK => ?_); refine quiet_load_row 27 (.tmp 5) rfl _ rfl 27 _ (0, 0) _ (row_regrown k2) Tryz.underlying27 rfl (VT.val_info c) ?_; refine hK _ ?_; clear hK K) | (quiet_step (first | with_reducible exact d1 _ _ | with_reducible exact d2 _ _ | with_reducible exact d3 _ _ | with_reducible exact d4 _ _ | with_reducible exact d5 _ _ )))
  refine wpQuiet_nil ?_; rintro wq ⟨⟨dq, osq⟩, rfl⟩; have hbq := below_regrown wn dq osq; generalize Go.Sort.grow (redrawn wn dq) osq = wq at *
  have hS1 := hS.step hbq
  clear hS hbq k0 k1 k2
  have hS := hS1
  clear hS1
  go_wp2_with go_skip
  go_ret
  exact ⟨rfl, hS.below⟩
theorem valueLikes_walk0 : Calls Tryz.prog 8 #[.agg a.c, .agg b.c, .agg c.c] w fun e w' => e = .returned (.bool true) ∧ Below w.heap.size w w' := by
  cases h1 : heavyB a 150 40
  · cases h2 : heavyB b 150 40
    · cases h3 : heavyB c 150 40
      · cases he : equalV a b
        · cases hs : sameV a b
          · exact likes_h a b c w hw ha hb hc h1 h2 h3 hs he
          · have := sameB_of (num := eqv) hs
            rw [show sameB eqv a b = false from he] at this
            cases this
        · cases h4 : equalV b c
          · cases hs : sameV a b
            · exact likes_g a b c w hw ha hb hc h1 h2 h3 hs he h4
            · exact likes_e a b c w hw ha hb hc h1 h2 h3 hs he h4
          · have h5 := equalV_trans he h4
            cases hs : sameV a b
            · exact likes_f a b c w hw ha hb hc h1 h2 h3 hs he h4 h5
            · exact likes_d a b c w hw ha hb hc h1 h2 h3 hs he h4 h5
      · exact likes_c a b c w hw ha hb hc h1 h2 h3
    · exact likes_b a b c w hw ha hb hc h1 h2
  · exact likes_a a b c w hw ha hb hc h1
end
theorem valueLikes_walk (a b c : VT) (w : World) (hw : Vars w) (ha : VT.In w.heap.size w a) (hb : VT.In w.heap.size w b) (hc : VT.In w.heap.size w c) : Calls Tryz.prog 8 #[.agg a.c, .agg b.c, .agg c.c] w fun e w' => e = .returned (.bool true) ∧ Below w.heap.size w w' := valueLikes_walk0 a b c w hw ha hb hc
end Go.Proofs.YtcpmehppfccihaaGreatDoor
