/-
  OpsSays, walked: true for all operations. Condition: the library's variables as it lays them.
-/
import Derived.Test.YtjjiiaclgacfiaaGreatDoorOpAwakeJ
import Derived.Test.YtjjiiaclgacfiaaGreatDoorJ5
import Derived.Test.YtjjiiaclgacfiaaGreatDoorJ11
import Derived.Test.YtjjiiaclgacfiaaGreatDoorROpSameJ
import Derived.Test.YtjjiiaclgacfiaaGreatDoorJ7
import Derived.Test.YtjjiiaclgacfiaaGreatDoorOpSameJ
namespace Go.Proofs.YtjjiiaclgacfiaaGreatDoor
open Go.RowKit
set_option linter.unusedVariables false
set_option linter.unusedSimpArgs false
set_option linter.unusedSectionVars false
theorem sameV_self (t : VT) : sameV t t = true := by
  induction t with
  | no => unfold sameV; rw [sameB_eq]; simp [allTo_iff]; exact ⟨fun i hi => absurd hi (Nat.not_lt_zero i), fun i hi => absurd hi (Nat.not_lt_zero i)⟩
  | mk k n s lA lb lo ln lc lt mA mb mo mn mc key mt ihl ihm =>
    unfold sameV at *
    rw [sameB_eq]
    simp only [beq_self_eq_true, Bool.true_or, Bool.and_self, Bool.true_and, Bool.and_eq_true, allTo_iff]
    exact ⟨fun i hi => ihl i, fun i hi => ihm i⟩
theorem sameO_self (a : OpV) (t : VT) : sameO a a t t = true := by
  unfold sameO
  simp [sameV_self]
section
variable (a b : OpV) (ta tb : VT) (w : World) (hw : Vars w) (ha : OpIn w a ta) (hb : OpIn w b tb)
include hw ha hb
set_option maxRecDepth 100000 in
set_option maxHeartbeats 2000000 in
theorem says_a (h1 : heavyB ta 40 40 = true) : Calls Tryz.prog 3 #[opv a, opv b] w fun e w' => e = .returned (.bool true) ∧ Below w.heap.size w w' := by
  have HV := Lib.hid hw
  clear hw
  have hS : Boxes w ((w.alloc (Obj.cells a.c 32)).alloc (Obj.cells b.c 32)) [(w.heap.size, Obj.cells a.c 32), (w.heap.size + 1, Obj.cells b.c 32)] := by
    have := ((Boxes.start w).alloc (Obj.cells a.c 32)).alloc (Obj.cells b.c 32)
    simpa using this
  have cA := fun W (hW : Below w.heap.size w W) => ha.vc ▸ heavy_any ta 40 40 W (by omega) (by omega) (by omega) (by omega) ((ha.tin.move hW).up hW.size)
  have cB := fun W (hW : Below w.heap.size w W) => hb.vc ▸ heavy_any tb 40 40 W (by omega) (by omega) (by omega) (by omega) ((hb.tin.move hW).up hW.size)
  rw [h1] at cA
  have CA := Lib.hid cA
  have CB := Lib.hid cB
  clear cA cB h1
  go_enter Tryz.func3, Tryz.ntmps3
  go_wp2_with (first | go_skip | (go_at_call 4; refine (awake21_any _ (HV.out.step hS.below)).mono ?_; rintro e wn ⟨rfl, hbn⟩; have hS1 := hS.step hbn; clear hS hbn; have hS := hS1; clear hS1; (try clear x70 y70); have x70 := (cell_of_row _ _ 70 _ _ _ (hS.at_ 0 rfl)).trans (OpV.g70 ha.seen); have y70 := (cell_of_row _ _ 70 _ _ _ (hS.at_ 1 rfl)).trans (OpV.g70 hb.seen)) | ((with_reducible refine gate_op (op := .load 30 (.tmp 7)) rfl ?_); refine load_part rfl 30 (.tmp 7) rfl _ 74 rfl _ _ (0, 0) _ _ (hS.at_ 0 rfl) (OpV.pV ha.seen) Tryz.underlying30 rfl (val_info _) ?_) | ((with_reducible refine gate_op (op := .load 30 (.tmp 11)) rfl ?_); refine load_part rfl 30 (.tmp 11) rfl _ 74 rfl _ _ (0, 0) _ _ (hS.at_ 1 rfl) (OpV.pV hb.seen) Tryz.underlying30 rfl (val_info _) ?_) | (go_at_call 5; with_reducible (refine (CA.out _ hS.below).mono ?_); rintro e wn ⟨rfl, hbn⟩; have hS1 := hS.step hbn; clear hS hbn; have hS := hS1; clear hS1; (try clear x70 y70); have x70 := (cell_of_row _ _ 70 _ _ _ (hS.at_ 0 rfl)).trans (OpV.g70 ha.seen); have y70 := (cell_of_row _ _ 70 _ _ _ (hS.at_ 1 rfl)).trans (OpV.g70 hb.seen)) | (go_at_call 5; with_reducible (refine (CB.out _ hS.below).mono ?_); rintro e wn ⟨rfl, hbn⟩; have hS1 := hS.step hbn; clear hS hbn; have hS := hS1; clear hS1; (try clear x70 y70); have x70 := (cell_of_row _ _ 70 _ _ _ (hS.at_ 0 rfl)).trans (OpV.g70 ha.seen); have y70 := (cell_of_row _ _ 70 _ _ _ (hS.at_ 1 rfl)).trans (OpV.g70 hb.seen)))
  go_ret
  exact ⟨rfl, hS.below⟩
set_option maxRecDepth 100000 in
set_option maxHeartbeats 2000000 in
theorem says_b (h1 : heavyB ta 40 40 = false) (h2 : heavyB tb 40 40 = true) : Calls Tryz.prog 3 #[opv a, opv b] w fun e w' => e = .returned (.bool true) ∧ Below w.heap.size w w' := by
  have HV := Lib.hid hw
  clear hw
  have hS : Boxes w ((w.alloc (Obj.cells a.c 32)).alloc (Obj.cells b.c 32)) [(w.heap.size, Obj.cells a.c 32), (w.heap.size + 1, Obj.cells b.c 32)] := by
    have := ((Boxes.start w).alloc (Obj.cells a.c 32)).alloc (Obj.cells b.c 32)
    simpa using this
  have cA := fun W (hW : Below w.heap.size w W) => ha.vc ▸ heavy_any ta 40 40 W (by omega) (by omega) (by omega) (by omega) ((ha.tin.move hW).up hW.size)
  have cB := fun W (hW : Below w.heap.size w W) => hb.vc ▸ heavy_any tb 40 40 W (by omega) (by omega) (by omega) (by omega) ((hb.tin.move hW).up hW.size)
  rw [h1] at cA
  rw [h2] at cB
  have CA := Lib.hid cA
  have CB := Lib.hid cB
  clear cA cB h1 h2
  go_enter Tryz.func3, Tryz.ntmps3
  go_wp2_with (first | go_skip | (go_at_call 4; refine (awake21_any _ (HV.out.step hS.below)).mono ?_; rintro e wn ⟨rfl, hbn⟩; have hS1 := hS.step hbn; clear hS hbn; have hS := hS1; clear hS1; (try clear x70 y70); have x70 := (cell_of_row _ _ 70 _ _ _ (hS.at_ 0 rfl)).trans (OpV.g70 ha.seen); have y70 := (cell_of_row _ _ 70 _ _ _ (hS.at_ 1 rfl)).trans (OpV.g70 hb.seen)) | ((with_reducible refine gate_op (op := .load 30 (.tmp 7)) rfl ?_); refine load_part rfl 30 (.tmp 7) rfl _ 74 rfl _ _ (0, 0) _ _ (hS.at_ 0 rfl) (OpV.pV ha.seen) Tryz.underlying30 rfl (val_info _) ?_) | ((with_reducible refine gate_op (op := .load 30 (.tmp 11)) rfl ?_); refine load_part rfl 30 (.tmp 11) rfl _ 74 rfl _ _ (0, 0) _ _ (hS.at_ 1 rfl) (OpV.pV hb.seen) Tryz.underlying30 rfl (val_info _) ?_) | (go_at_call 5; with_reducible (refine (CA.out _ hS.below).mono ?_); rintro e wn ⟨rfl, hbn⟩; have hS1 := hS.step hbn; clear hS hbn; have hS := hS1; clear hS1; (try clear x70 y70); have x70 := (cell_of_row _ _ 70 _ _ _ (hS.at_ 0 rfl)).trans (OpV.g70 ha.seen); have y70 := (cell_of_row _ _ 70 _ _ _ (hS.at_ 1 rfl)).trans (OpV.g70 hb.seen)) | (go_at_call 5; with_reducible (refine (CB.out _ hS.below).mono ?_); rintro e wn ⟨rfl, hbn⟩; have hS1 := hS.step hbn; clear hS hbn; have hS := hS1; clear hS1; (try clear x70 y70); have x70 := (cell_of_row _ _ 70 _ _ _ (hS.at_ 0 rfl)).trans (OpV.g70 ha.seen); have y70 := (cell_of_row _ _ 70 _ _ _ (hS.at_ 1 rfl)).trans (OpV.g70 hb.seen)))
  go_ret
  exact ⟨rfl, hS.below⟩
set_option maxRecDepth 100000 in
set_option maxHeartbeats 2000000 in
theorem says_c (h1 : heavyB ta 40 40 = false) (h2 : heavyB tb 40 40 = false) (h3 : decide ((5000 : Int) < a.key.size) = true) : Calls Tryz.prog 3 #[opv a, opv b] w fun e w' => e = .returned (.bool true) ∧ Below w.heap.size w w' := by
  have HV := Lib.hid hw
  clear hw
  have hS : Boxes w ((w.alloc (Obj.cells a.c 32)).alloc (Obj.cells b.c 32)) [(w.heap.size, Obj.cells a.c 32), (w.heap.size + 1, Obj.cells b.c 32)] := by
    have := ((Boxes.start w).alloc (Obj.cells a.c 32)).alloc (Obj.cells b.c 32)
    simpa using this
  have cA := fun W (hW : Below w.heap.size w W) => ha.vc ▸ heavy_any ta 40 40 W (by omega) (by omega) (by omega) (by omega) ((ha.tin.move hW).up hW.size)
  have cB := fun W (hW : Below w.heap.size w W) => hb.vc ▸ heavy_any tb 40 40 W (by omega) (by omega) (by omega) (by omega) ((hb.tin.move hW).up hW.size)
  rw [h1] at cA
  rw [h2] at cB
  have CA := Lib.hid cA
  have CB := Lib.hid cB
  clear cA cB h1 h2
  go_enter Tryz.func3, Tryz.ntmps3
  go_wp2_with (first | go_skip | (go_at_call 4; refine (awake21_any _ (HV.out.step hS.below)).mono ?_; rintro e wn ⟨rfl, hbn⟩; have hS1 := hS.step hbn; clear hS hbn; have hS := hS1; clear hS1; (try clear x70 y70); have x70 := (cell_of_row _ _ 70 _ _ _ (hS.at_ 0 rfl)).trans (OpV.g70 ha.seen); have y70 := (cell_of_row _ _ 70 _ _ _ (hS.at_ 1 rfl)).trans (OpV.g70 hb.seen)) | ((with_reducible refine gate_op (op := .load 30 (.tmp 7)) rfl ?_); refine load_part rfl 30 (.tmp 7) rfl _ 74 rfl _ _ (0, 0) _ _ (hS.at_ 0 rfl) (OpV.pV ha.seen) Tryz.underlying30 rfl (val_info _) ?_) | ((with_reducible refine gate_op (op := .load 30 (.tmp 11)) rfl ?_); refine load_part rfl 30 (.tmp 11) rfl _ 74 rfl _ _ (0, 0) _ _ (hS.at_ 1 rfl) (OpV.pV hb.seen) Tryz.underlying30 rfl (val_info _) ?_) | (go_at_call 5; with_reducible (refine (CA.out _ hS.below).mono ?_); rintro e wn ⟨rfl, hbn⟩; have hS1 := hS.step hbn; clear hS hbn; have hS := hS1; clear hS1; (try clear x70 y70); have x70 := (cell_of_row _ _ 70 _ _ _ (hS.at_ 0 rfl)).trans (OpV.g70 ha.seen); have y70 := (cell_of_row _ _ 70 _ _ _ (hS.at_ 1 rfl)).trans (OpV.g70 hb.seen)) | (go_at_call 5; with_reducible (refine (CB.out _ hS.below).mono ?_); rintro e wn ⟨rfl, hbn⟩; have hS1 := hS.step hbn; clear hS hbn; have hS := hS1; clear hS1; (try clear x70 y70); have x70 := (cell_of_row _ _ 70 _ _ _ (hS.at_ 0 rfl)).trans (OpV.g70 ha.seen); have y70 := (cell_of_row _ _ 70 _ _ _ (hS.at_ 1 rfl)).trans (OpV.g70 hb.seen)))
  go_ret
  exact ⟨rfl, hS.below⟩
set_option maxRecDepth 100000 in
set_option maxHeartbeats 2000000 in
theorem says_d (h1 : heavyB ta 40 40 = false) (h2 : heavyB tb 40 40 = false) (h3 : decide ((5000 : Int) < a.key.size) = false) (h4 : decide ((5000 : Int) < b.key.size) = true) : Calls Tryz.prog 3 #[opv a, opv b] w fun e w' => e = .returned (.bool true) ∧ Below w.heap.size w w' := by
  have HV := Lib.hid hw
  clear hw
  have hS : Boxes w ((w.alloc (Obj.cells a.c 32)).alloc (Obj.cells b.c 32)) [(w.heap.size, Obj.cells a.c 32), (w.heap.size + 1, Obj.cells b.c 32)] := by
    have := ((Boxes.start w).alloc (Obj.cells a.c 32)).alloc (Obj.cells b.c 32)
    simpa using this
  have cA := fun W (hW : Below w.heap.size w W) => ha.vc ▸ heavy_any ta 40 40 W (by omega) (by omega) (by omega) (by omega) ((ha.tin.move hW).up hW.size)
  have cB := fun W (hW : Below w.heap.size w W) => hb.vc ▸ heavy_any tb 40 40 W (by omega) (by omega) (by omega) (by omega) ((hb.tin.move hW).up hW.size)
  rw [h1] at cA
  rw [h2] at cB
  have CA := Lib.hid cA
  have CB := Lib.hid cB
  clear cA cB h1 h2
  go_enter Tryz.func3, Tryz.ntmps3
  go_wp2_with (first | go_skip | (go_at_call 4; refine (awake21_any _ (HV.out.step hS.below)).mono ?_; rintro e wn ⟨rfl, hbn⟩; have hS1 := hS.step hbn; clear hS hbn; have hS := hS1; clear hS1; (try clear x70 y70); have x70 := (cell_of_row _ _ 70 _ _ _ (hS.at_ 0 rfl)).trans (OpV.g70 ha.seen); have y70 := (cell_of_row _ _ 70 _ _ _ (hS.at_ 1 rfl)).trans (OpV.g70 hb.seen)) | ((with_reducible refine gate_op (op := .load 30 (.tmp 7)) rfl ?_); refine load_part rfl 30 (.tmp 7) rfl _ 74 rfl _ _ (0, 0) _ _ (hS.at_ 0 rfl) (OpV.pV ha.seen) Tryz.underlying30 rfl (val_info _) ?_) | ((with_reducible refine gate_op (op := .load 30 (.tmp 11)) rfl ?_); refine load_part rfl 30 (.tmp 11) rfl _ 74 rfl _ _ (0, 0) _ _ (hS.at_ 1 rfl) (OpV.pV hb.seen) Tryz.underlying30 rfl (val_info _) ?_) | (go_at_call 5; with_reducible (refine (CA.out _ hS.below).mono ?_); rintro e wn ⟨rfl, hbn⟩; have hS1 := hS.step hbn; clear hS hbn; have hS := hS1; clear hS1; (try clear x70 y70); have x70 := (cell_of_row _ _ 70 _ _ _ (hS.at_ 0 rfl)).trans (OpV.g70 ha.seen); have y70 := (cell_of_row _ _ 70 _ _ _ (hS.at_ 1 rfl)).trans (OpV.g70 hb.seen)) | (go_at_call 5; with_reducible (refine (CB.out _ hS.below).mono ?_); rintro e wn ⟨rfl, hbn⟩; have hS1 := hS.step hbn; clear hS hbn; have hS := hS1; clear hS1; (try clear x70 y70); have x70 := (cell_of_row _ _ 70 _ _ _ (hS.at_ 0 rfl)).trans (OpV.g70 ha.seen); have y70 := (cell_of_row _ _ 70 _ _ _ (hS.at_ 1 rfl)).trans (OpV.g70 hb.seen)))
  go_ret
  exact ⟨rfl, hS.below⟩
set_option maxRecDepth 100000 in
set_option maxHeartbeats 4000000 in
theorem says_e (h1 : heavyB ta 40 40 = false) (h2 : heavyB tb 40 40 = false) (h3 : decide ((5000 : Int) < a.key.size) = false) (h4 : decide ((5000 : Int) < b.key.size) = false) : Calls Tryz.prog 3 #[opv a, opv b] w fun e w' => e = .returned (.bool true) ∧ Below w.heap.size w w' := by
  have HV := Lib.hid hw
  clear hw
  have hS : Boxes w ((w.alloc (Obj.cells a.c 32)).alloc (Obj.cells b.c 32)) [(w.heap.size, Obj.cells a.c 32), (w.heap.size + 1, Obj.cells b.c 32)] := by
    have := ((Boxes.start w).alloc (Obj.cells a.c 32)).alloc (Obj.cells b.c 32)
    simpa using this
  have cA := fun W (hW : Below w.heap.size w W) => ha.vc ▸ heavy_any ta 40 40 W (by omega) (by omega) (by omega) (by omega) ((ha.tin.move hW).up hW.size)
  have cB := fun W (hW : Below w.heap.size w W) => hb.vc ▸ heavy_any tb 40 40 W (by omega) (by omega) (by omega) (by omega) ((hb.tin.move hW).up hW.size)
  rw [h1] at cA
  rw [h2] at cB
  have CA := Lib.hid cA
  have CB := Lib.hid cB
  clear cA cB h1 h2
  go_enter Tryz.func3, Tryz.ntmps3
  go_wp2_with (first | go_skip | (go_at_call 4; refine (awake21_any _ (HV.out.step hS.below)).mono ?_; rintro e wn ⟨rfl, hbn⟩; have hS1 := hS.step hbn; clear hS hbn; have hS := hS1; clear hS1; (try clear x70 y70); have x70 := (cell_of_row _ _ 70 _ _ _ (hS.at_ 0 rfl)).trans (OpV.g70 ha.seen); have y70 := (cell_of_row _ _ 70 _ _ _ (hS.at_ 1 rfl)).trans (OpV.g70 hb.seen)) | ((with_reducible refine gate_op (op := .load 30 (.tmp 7)) rfl ?_); refine load_part rfl 30 (.tmp 7) rfl _ 74 rfl _ _ (0, 0) _ _ (hS.at_ 0 rfl) (OpV.pV ha.seen) Tryz.underlying30 rfl (val_info _) ?_) | ((with_reducible refine gate_op (op := .load 30 (.tmp 11)) rfl ?_); refine load_part rfl 30 (.tmp 11) rfl _ 74 rfl _ _ (0, 0) _ _ (hS.at_ 1 rfl) (OpV.pV hb.seen) Tryz.underlying30 rfl (val_info _) ?_) | (go_at_call 5; with_reducible (refine (CA.out _ hS.below).mono ?_); rintro e wn ⟨rfl, hbn⟩; have hS1 := hS.step hbn; clear hS hbn; have hS := hS1; clear hS1; (try clear x70 y70); have x70 := (cell_of_row _ _ 70 _ _ _ (hS.at_ 0 rfl)).trans (OpV.g70 ha.seen); have y70 := (cell_of_row _ _ 70 _ _ _ (hS.at_ 1 rfl)).trans (OpV.g70 hb.seen)) | (go_at_call 5; with_reducible (refine (CB.out _ hS.below).mono ?_); rintro e wn ⟨rfl, hbn⟩; have hS1 := hS.step hbn; clear hS hbn; have hS := hS1; clear hS1; (try clear x70 y70); have x70 := (cell_of_row _ _ 70 _ _ _ (hS.at_ 0 rfl)).trans (OpV.g70 ha.seen); have y70 := (cell_of_row _ _ 70 _ _ _ (hS.at_ 1 rfl)).trans (OpV.g70 hb.seen)))
  have hBw := hS.below
  have e1 : ∀ W, Below wn.heap.size wn W → Calls Tryz.prog 6 #[opv a] W fun e w' => e = .returned (.bool (opB a (goodT ta) (sameV ta .no) (validS a.key).2)) ∧ Below W.heap.size W w' := fun W hW =>
    have hB := hBw.trans (hW.mono hBw.size)
    good_v a ta W (HV.out.step hB) ha.seen ha.vc ((ha.tin.move hB).up hB.size) ha.key
  have e2 : ∀ W, Below wn.heap.size wn W → Calls Tryz.prog 6 #[opv b] W fun e w' => e = .returned (.bool (opB b (goodT tb) (sameV tb .no) (validS b.key).2)) ∧ Below W.heap.size W w' := fun W hW =>
    have hB := hBw.trans (hW.mono hBw.size)
    good_v b tb W (HV.out.step hB) hb.seen hb.vc ((hb.tin.move hB).up hB.size) hb.key
  have e3 : ∀ W, Below wn.heap.size wn W → Calls Tryz.prog 7 #[opv a] W fun e w' => e = .returned (.bool (opB a (goodT ta) (sameV ta .no) (validS a.key).2)) ∧ Below W.heap.size W w' := fun W hW =>
    have hB := hBw.trans (hW.mono hBw.size)
    rop_any a ta W ha.seen ha.vc ((ha.tin.move hB).up hB.size)
  have e4 : ∀ W, Below wn.heap.size wn W → Calls Tryz.prog 7 #[opv b] W fun e w' => e = .returned (.bool (opB b (goodT tb) (sameV tb .no) (validS b.key).2)) ∧ Below W.heap.size W w' := fun W hW =>
    have hB := hBw.trans (hW.mono hBw.size)
    rop_any b tb W hb.seen hb.vc ((hb.tin.move hB).up hB.size)
  have e5 : ∀ W, Below wn.heap.size wn W → Calls Tryz.prog 8 #[opv a, opv b] W fun e w' => e = .returned (.bool (sameO a b ta tb)) ∧ Below W.heap.size W w' := fun W hW =>
    have hB := hBw.trans (hW.mono hBw.size)
    oSame_any a b ta tb W ha.seen hb.seen ha.vc hb.vc ((ha.tin.move hB).up hB.size) ((hb.tin.move hB).up hB.size)
  have e6 : ∀ W, Below wn.heap.size wn W → Calls Tryz.prog 9 #[opv a, opv b] W fun e w' => e = .returned (.bool (sameO a b ta tb)) ∧ Below W.heap.size W w' := fun W hW =>
    have hB := hBw.trans (hW.mono hBw.size)
    roSame_any a b ta tb W ha.seen hb.seen ha.vc hb.vc ((ha.tin.move hB).up hB.size) ((hb.tin.move hB).up hB.size)
  have e7 : ∀ W, Below wn.heap.size wn W → Calls Tryz.prog 8 #[opv a, opv a] W fun e w' => e = .returned (.bool true) ∧ Below W.heap.size W w' := fun W hW => by
    have hB := hBw.trans (hW.mono hBw.size)
    have h := oSame_any a a ta ta W ha.seen ha.seen ha.vc ha.vc ((ha.tin.move hB).up hB.size) ((ha.tin.move hB).up hB.size)
    rw [sameO_self] at h
    exact h
  have e8 : ∀ W, Below wn.heap.size wn W → Calls Tryz.prog 10 #[opv a, opv b] W fun e w' => e = .returned (.bool (afterB a b)) ∧ Below W.heap.size W w' := fun W hW => After_any a b W
  have e9 : ∀ W, Below wn.heap.size wn W → Calls Tryz.prog 11 #[opv a, opv b] W fun e w' => e = .returned (.bool (afterB a b)) ∧ Below W.heap.size W w' := fun W hW => rAfter_any a b W
  clear hBw
  generalize opB a (goodT ta) (sameV ta .no) (validS a.key).2 = g1 at e1 e3
  generalize opB b (goodT tb) (sameV tb .no) (validS b.key).2 = g2 at e2 e4
  generalize sameO a b ta tb = g3 at e5 e6
  generalize afterB a b = g4 at e8 e9
  have k0 := hS.at_ 0 rfl
  have k1 := hS.at_ 1 rfl
  have d1 := grown_calls e1
  have d2 := grown_calls e2
  have d3 := grown_calls e3
  have d4 := grown_calls e4
  have d5 := grown_calls e5
  have d6 := grown_calls e6
  have d7 := grown_calls e7
  have d8 := grown_calls e8
  have d9 := grown_calls e9
  clear e1 e2 e3 e4 e5 e6 e7 e8 e9
  refine wp_region_quiet_below (by kernel_rfl) (by kernel_rfl) ?_
  repeat (first | go_big_quiet_skip | (refine BigFrame.wpQuiet_want rfl (fun K hK => ?_); refine quiet_load_row 32 (.tmp 2) rfl _ rfl 32 _ (0, 0) _ (row_regrown k0) Tryz.underlying32 rfl (op_info _ ha.seen) ?_; refine hK _ ?_; clear hK K) | (refine BigFrame.wpQuiet_want rfl (fun K hK => ?_); refine quiet_load_row 32 (.tmp 3) rfl _ rfl 32 _ (0, 0) _ (row_regrown k1) Tryz.underlying32 rfl (op_info _ hb.seen) ?_; refine hK _ ?_; clear hK K) | (quiet_step (first | with_reducible exact d1 _ _ | with_reducible exact d2 _ _ | with_reducible exact d3 _ _ | with_reducible exact d4 _ _ | with_reducible exact d5 _ _ | with_reducible exact d6 _ _ | with_reducible exact d7 _ _ | with_reducible exact d8 _ _ | with_reducible exact d9 _ _)))
  refine wpQuiet_nil ?_; rintro wq ⟨⟨dq, osq⟩, rfl⟩; have hbq := below_regrown wn dq osq; generalize Go.Sort.grow (redrawn wn dq) osq = wq at *
  have hS1 := hS.step hbq
  clear hS hbq k0 k1 d1 d2 d3 d4 d5 d6 d7 d8 d9
  have hS := hS1
  clear hS1
  go_wp2_with go_skip
  go_ret
  exact ⟨rfl, hS.below⟩
theorem opsSays_walk : Calls Tryz.prog 3 #[opv a, opv b] w fun e w' => e = .returned (.bool true) ∧ Below w.heap.size w w' := by
  cases h1 : heavyB ta 40 40
  case true => exact says_a a b ta tb w hw ha hb h1
  cases h2 : heavyB tb 40 40
  case true => exact says_b a b ta tb w hw ha hb h1 h2
  cases h3 : decide ((5000 : Int) < a.key.size)
  case true => exact says_c a b ta tb w hw ha hb h1 h2 h3
  cases h4 : decide ((5000 : Int) < b.key.size)
  case true => exact says_d a b ta tb w hw ha hb h1 h2 h3 h4
  case false => exact says_e a b ta tb w hw ha hb h1 h2 h3 h4
end
theorem opsSays_card (a : OpV) (ta : VT) (b : OpV) (tb : VT) (w : World) (hw : Vars w) (ha : OpIn w a ta) (hb : OpIn w b tb) : Calls Tryz.prog 3 #[opv a, opv b] w fun e w' => e = .returned (.bool true) ∧ Below w.heap.size w w' :=
  opsSays_walk a b ta tb w hw ha hb
end Go.Proofs.YtjjiiaclgacfiaaGreatDoor
