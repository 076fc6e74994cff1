/-
  CellBack, walked: true for all values. Condition: the library's variables as it lays them.
-/
import Derived.Test.YtnapebgkcjnnbaaGreatDoorCellKJ
import Derived.Test.YtnapebgkcjnnbaaGreatDoorCellInJ
import Derived.Test.YtnapebgkcjnnbaaGreatDoorSameE
import Derived.Test.YtnapebgkcjnnbaaGreatDoorRSame
import Derived.Test.YtnapebgkcjnnbaaGreatDoorRSteep
import Derived.Test.YtnapebgkcjnnbaaGreatDoorCellBJ
namespace Go.Proofs.YtnapebgkcjnnbaaGreatDoor
open Go.RowKit
set_option linter.unusedVariables false
set_option linter.unusedSimpArgs false
set_option linter.unusedSectionVars false
/-- A value's cell, of kind, number, text alone. -/
def flatX (k n : Int) (s : ByteArray) : ByteArray × Bool :=
  if k = 0 then (⟨#[110, 117, 108, 108]⟩, true)
  else if k = 1 then (if n = 1 then (⟨#[116, 114, 117, 101]⟩, true) else (⟨#[102, 97, 108, 115, 101]⟩, true))
  else if k = 2 then (⟨(Lib.itoa n).toArray⟩, true)
  else if k = 3 then (s, true)
  else if k = 7 then (atS s, true)
  else if k = 5 then (⟨#[91, 93]⟩, true)
  else if k = 6 then (⟨#[123, 125]⟩, true)
  else (textS s, true)
theorem text_cond {t : VT} {A : ByteArray} (h : textV t = (A, true)) : (decide (t.ln + t.mn > 0) || !goodT t) = false := by
  cases hc : (decide (t.ln + t.mn > 0) || !goodT t)
  · rfl
  · unfold textV at h
    rw [if_pos hc] at h
    cases (Prod.mk.inj h).2
theorem flat_of {t : VT} {A : ByteArray} (h : textV t = (A, true)) : t.ln = 0 ∧ t.mn = 0 ∧ goodT t = true := by
  have hc := text_cond h
  simp only [Bool.or_eq_false_iff, decide_eq_false_iff_not, Bool.not_eq_false'] at hc
  exact ⟨by omega, by omega, hc.2⟩
theorem flat_text {t : VT} {A : ByteArray} (h : textV t = (A, true)) : flatX t.k t.n t.s = (A, true) := by
  have hc := text_cond h
  unfold textV at h
  rw [if_neg (by rw [hc]; simp)] at h
  exact h
theorem text_same {t u : VT} {A B : ByteArray} (h1 : textV t = (A, true)) (h2 : textV u = (B, true)) (n0 : -9223372036854775808 ≤ t.n) (n1 : t.n ≤ 9223372036854775807) (m0 : -9223372036854775808 ≤ u.n) (m1 : u.n ≤ 9223372036854775807) : sameV t u = (A.toList == B.toList) := by
  have b1 := cell_back t n0 n1 (by rw [h1])
  have b2 := cell_back u m0 m1 (by rw [h2])
  rw [h1] at b1
  rw [h2] at b2
  rw [Bool.eq_iff_iff, beq_iff_eq]
  constructor
  · intro h
    have e := (sameV_iff t u).1 h
    have f1 : t.ln = 0 ∧ t.mn = 0 ∧ goodT t = true := flat_of h1
    have f2 : u.ln = 0 ∧ u.mn = 0 ∧ goodT u = true := flat_of h2
    have hs : t.s = u.s := ba_ext (by rw [← Lib.toList_data, ← Lib.toList_data]; exact e.2.2.2.2.1)
    have h3 := flat_text h1
    have h4 := flat_text h2
    rw [e.1, e.2.1, hs] at h3
    have := h3.symm.trans h4
    rw [(Prod.mk.inj this).1]
  · intro h
    have hAB : A = B := ba_ext (by rw [← Lib.toList_data, ← Lib.toList_data]; exact h)
    subst hAB
    exact sameV_trans (sameV_symm b1.2) b2.2
section
variable (t u : VT) (w : World) (hw : Vars w) (ht : VT.In w.heap.size w t) (hu : VT.In w.heap.size w u)
include hw ht hu
set_option maxRecDepth 100000 in
set_option maxHeartbeats 1000000 in
theorem back15_h (hh : heavyB t 50 40 = true) : Calls Tryz.prog 4 #[.agg t.c, .agg u.c] w fun e w' => e = .returned (.bool true) ∧ Below w.heap.size w w' := by
  have HV := Lib.hid hw
  have cH := fun (W : World) (hW : Below w.heap.size w W) => heavy_any t 50 40 W (by omega) (by omega) (by omega) (by omega) ((ht.move hW).up hW.size)
  have cI := fun (W : World) (hW : Below w.heap.size w W) => heavy_any u 50 40 W (by omega) (by omega) (by omega) (by omega) ((hu.move hW).up hW.size)
  have hS : Boxes w ((w.alloc (Obj.cells t.c 26)).alloc (Obj.cells u.c 26)) [(w.heap.size, Obj.cells t.c 26), (w.heap.size + 1, Obj.cells u.c 26)] := by
    have := ((Boxes.start w).alloc (Obj.cells t.c 26)).alloc (Obj.cells u.c 26)
    simpa using this
  rw [hh] at cH
  clear hh
  have CH := Lib.hid cH
  have CI := Lib.hid cI
  clear cH cI
  clear hw ht hu
  go_enter Tryz.func4, Tryz.ntmps4
  go_wp2_with (first | go_skip | (go_at_call 5; (with_reducible (refine (awake15_any _ (HV.out.step hS.below)).mono ?_)); rintro e wn ⟨rfl, hbn⟩; have hS1 := hS.step hbn; clear hS hbn; have hS := hS1; clear hS1) | ((with_reducible refine gate_op (op := .load 26 (.tmp 2)) rfl ?_); refine wpList_load_row' rfl 26 (.tmp 2) rfl _ rfl 26 _ (0, 0) _ (hS.at_ 0 rfl) Tryz.underlying26 rfl (VT.val_info _) ?_) | ((with_reducible refine gate_op (op := .load 26 (.tmp 3)) rfl ?_); refine wpList_load_row' rfl 26 (.tmp 3) rfl _ rfl 26 _ (0, 0) _ (hS.at_ 1 rfl) Tryz.underlying26 rfl (VT.val_info _) ?_) | (go_at_call 6; (with_reducible (refine (CH.out _ hS.below).mono ?_)); rintro e wn ⟨rfl, hbn⟩; have hS1 := hS.step hbn; clear hS hbn; have hS := hS1; clear hS1) | (go_at_call 6; (with_reducible (refine (CI.out _ hS.below).mono ?_)); rintro e wn ⟨rfl, hbn⟩; have hS1 := hS.step hbn; clear hS hbn; have hS := hS1; clear hS1))
  go_ret
  exact ⟨rfl, hS.below⟩
set_option maxRecDepth 100000 in
set_option maxHeartbeats 1000000 in
theorem back15_i (hh : heavyB t 50 40 = false) (hi : heavyB u 50 40 = true) : Calls Tryz.prog 4 #[.agg t.c, .agg u.c] w fun e w' => e = .returned (.bool true) ∧ Below w.heap.size w w' := by
  have HV := Lib.hid hw
  have cH := fun (W : World) (hW : Below w.heap.size w W) => heavy_any t 50 40 W (by omega) (by omega) (by omega) (by omega) ((ht.move hW).up hW.size)
  have cI := fun (W : World) (hW : Below w.heap.size w W) => heavy_any u 50 40 W (by omega) (by omega) (by omega) (by omega) ((hu.move hW).up hW.size)
  have hS : Boxes w ((w.alloc (Obj.cells t.c 26)).alloc (Obj.cells u.c 26)) [(w.heap.size, Obj.cells t.c 26), (w.heap.size + 1, Obj.cells u.c 26)] := by
    have := ((Boxes.start w).alloc (Obj.cells t.c 26)).alloc (Obj.cells u.c 26)
    simpa using this
  rw [hh] at cH
  rw [hi] at cI
  clear hh hi
  have CH := Lib.hid cH
  have CI := Lib.hid cI
  clear cH cI
  clear hw ht hu
  go_enter Tryz.func4, Tryz.ntmps4
  go_wp2_with (first | go_skip | (go_at_call 5; (with_reducible (refine (awake15_any _ (HV.out.step hS.below)).mono ?_)); rintro e wn ⟨rfl, hbn⟩; have hS1 := hS.step hbn; clear hS hbn; have hS := hS1; clear hS1) | ((with_reducible refine gate_op (op := .load 26 (.tmp 2)) rfl ?_); refine wpList_load_row' rfl 26 (.tmp 2) rfl _ rfl 26 _ (0, 0) _ (hS.at_ 0 rfl) Tryz.underlying26 rfl (VT.val_info _) ?_) | ((with_reducible refine gate_op (op := .load 26 (.tmp 3)) rfl ?_); refine wpList_load_row' rfl 26 (.tmp 3) rfl _ rfl 26 _ (0, 0) _ (hS.at_ 1 rfl) Tryz.underlying26 rfl (VT.val_info _) ?_) | (go_at_call 6; (with_reducible (refine (CH.out _ hS.below).mono ?_)); rintro e wn ⟨rfl, hbn⟩; have hS1 := hS.step hbn; clear hS hbn; have hS := hS1; clear hS1) | (go_at_call 6; (with_reducible (refine (CI.out _ hS.below).mono ?_)); rintro e wn ⟨rfl, hbn⟩; have hS1 := hS.step hbn; clear hS hbn; have hS := hS1; clear hS1))
  go_ret
  exact ⟨rfl, hS.below⟩
set_option maxRecDepth 100000 in
set_option maxHeartbeats 1000000 in
theorem back15_x (hh : heavyB t 50 40 = false) (hi : heavyB u 50 40 = false) (A B : ByteArray) (ok2 : Bool) (h1 : textV t = (A, false)) (h2 : textV u = (B, ok2)) : Calls Tryz.prog 4 #[.agg t.c, .agg u.c] w fun e w' => e = .returned (.bool true) ∧ Below w.heap.size w w' := by
  have HV := Lib.hid hw
  have cH := fun (W : World) (hW : Below w.heap.size w W) => heavy_any t 50 40 W (by omega) (by omega) (by omega) (by omega) ((ht.move hW).up hW.size)
  have cI := fun (W : World) (hW : Below w.heap.size w W) => heavy_any u 50 40 W (by omega) (by omega) (by omega) (by omega) ((hu.move hW).up hW.size)
  have hS : Boxes w ((w.alloc (Obj.cells t.c 26)).alloc (Obj.cells u.c 26)) [(w.heap.size, Obj.cells t.c 26), (w.heap.size + 1, Obj.cells u.c 26)] := by
    have := ((Boxes.start w).alloc (Obj.cells t.c 26)).alloc (Obj.cells u.c 26)
    simpa using this
  rw [hh] at cH
  rw [hi] at cI
  clear hh hi
  have C1 := Lib.hid (fun (W : World) (hW : Below w.heap.size w W) => h1 ▸ cText_any t W (hw.step hW) ((ht.move hW).up hW.size))
  have C2 := Lib.hid (fun (W : World) (hW : Below w.heap.size w W) => h2 ▸ cText_any u W (hw.step hW) ((hu.move hW).up hW.size))
  clear h1 h2
  have CH := Lib.hid cH
  have CI := Lib.hid cI
  clear cH cI
  clear hw ht hu
  go_enter Tryz.func4, Tryz.ntmps4
  go_wp2_with (first | go_skip | (go_at_call 5; (with_reducible (refine (awake15_any _ (HV.out.step hS.below)).mono ?_)); rintro e wn ⟨rfl, hbn⟩; have hS1 := hS.step hbn; clear hS hbn; have hS := hS1; clear hS1) | ((with_reducible refine gate_op (op := .load 26 (.tmp 2)) rfl ?_); refine wpList_load_row' rfl 26 (.tmp 2) rfl _ rfl 26 _ (0, 0) _ (hS.at_ 0 rfl) Tryz.underlying26 rfl (VT.val_info _) ?_) | ((with_reducible refine gate_op (op := .load 26 (.tmp 3)) rfl ?_); refine wpList_load_row' rfl 26 (.tmp 3) rfl _ rfl 26 _ (0, 0) _ (hS.at_ 1 rfl) Tryz.underlying26 rfl (VT.val_info _) ?_) | (go_at_call 6; (with_reducible (refine (CH.out _ hS.below).mono ?_)); rintro e wn ⟨rfl, hbn⟩; have hS1 := hS.step hbn; clear hS hbn; have hS := hS1; clear hS1) | (go_at_call 6; (with_reducible (refine (CI.out _ hS.below).mono ?_)); rintro e wn ⟨rfl, hbn⟩; have hS1 := hS.step hbn; clear hS hbn; have hS := hS1; clear hS1) | (go_at_call 7; (with_reducible (refine (C1.out _ hS.below).mono ?_)); rintro e wn ⟨rfl, hbn⟩; have hS1 := hS.step hbn; clear hS hbn; have hS := hS1; clear hS1) | (go_at_call 7; (with_reducible (refine (C2.out _ hS.below).mono ?_)); rintro e wn ⟨rfl, hbn⟩; have hS1 := hS.step hbn; clear hS hbn; have hS := hS1; clear hS1))
  go_ret
  exact ⟨rfl, hS.below⟩
set_option maxRecDepth 100000 in
set_option maxHeartbeats 1000000 in
theorem back15_y (hh : heavyB t 50 40 = false) (hi : heavyB u 50 40 = false) (A B : ByteArray) (h1 : textV t = (A, true)) (h2 : textV u = (B, false)) : Calls Tryz.prog 4 #[.agg t.c, .agg u.c] w fun e w' => e = .returned (.bool true) ∧ Below w.heap.size w w' := by
  have HV := Lib.hid hw
  have cH := fun (W : World) (hW : Below w.heap.size w W) => heavy_any t 50 40 W (by omega) (by omega) (by omega) (by omega) ((ht.move hW).up hW.size)
  have cI := fun (W : World) (hW : Below w.heap.size w W) => heavy_any u 50 40 W (by omega) (by omega) (by omega) (by omega) ((hu.move hW).up hW.size)
  have hS : Boxes w ((w.alloc (Obj.cells t.c 26)).alloc (Obj.cells u.c 26)) [(w.heap.size, Obj.cells t.c 26), (w.heap.size + 1, Obj.cells u.c 26)] := by
    have := ((Boxes.start w).alloc (Obj.cells t.c 26)).alloc (Obj.cells u.c 26)
    simpa using this
  rw [hh] at cH
  rw [hi] at cI
  clear hh hi
  have C1 := Lib.hid (fun (W : World) (hW : Below w.heap.size w W) => h1 ▸ cText_any t W (hw.step hW) ((ht.move hW).up hW.size))
  have C2 := Lib.hid (fun (W : World) (hW : Below w.heap.size w W) => h2 ▸ cText_any u W (hw.step hW) ((hu.move hW).up hW.size))
  clear h1 h2
  have CH := Lib.hid cH
  have CI := Lib.hid cI
  clear cH cI
  clear hw ht hu
  go_enter Tryz.func4, Tryz.ntmps4
  go_wp2_with (first | go_skip | (go_at_call 5; (with_reducible (refine (awake15_any _ (HV.out.step hS.below)).mono ?_)); rintro e wn ⟨rfl, hbn⟩; have hS1 := hS.step hbn; clear hS hbn; have hS := hS1; clear hS1) | ((with_reducible refine gate_op (op := .load 26 (.tmp 2)) rfl ?_); refine wpList_load_row' rfl 26 (.tmp 2) rfl _ rfl 26 _ (0, 0) _ (hS.at_ 0 rfl) Tryz.underlying26 rfl (VT.val_info _) ?_) | ((with_reducible refine gate_op (op := .load 26 (.tmp 3)) rfl ?_); refine wpList_load_row' rfl 26 (.tmp 3) rfl _ rfl 26 _ (0, 0) _ (hS.at_ 1 rfl) Tryz.underlying26 rfl (VT.val_info _) ?_) | (go_at_call 6; (with_reducible (refine (CH.out _ hS.below).mono ?_)); rintro e wn ⟨rfl, hbn⟩; have hS1 := hS.step hbn; clear hS hbn; have hS := hS1; clear hS1) | (go_at_call 6; (with_reducible (refine (CI.out _ hS.below).mono ?_)); rintro e wn ⟨rfl, hbn⟩; have hS1 := hS.step hbn; clear hS hbn; have hS := hS1; clear hS1) | (go_at_call 7; (with_reducible (refine (C1.out _ hS.below).mono ?_)); rintro e wn ⟨rfl, hbn⟩; have hS1 := hS.step hbn; clear hS hbn; have hS := hS1; clear hS1) | (go_at_call 7; (with_reducible (refine (C2.out _ hS.below).mono ?_)); rintro e wn ⟨rfl, hbn⟩; have hS1 := hS.step hbn; clear hS hbn; have hS := hS1; clear hS1))
  go_ret
  exact ⟨rfl, hS.below⟩
set_option maxRecDepth 100000 in
set_option maxHeartbeats 1000000 in
theorem back15_z (hh : heavyB t 50 40 = false) (hi : heavyB u 50 40 = false) (A B : ByteArray) (h1 : textV t = (A, true)) (h2 : textV u = (B, true)) (hl : 4096 < (A.size : Int)) : Calls Tryz.prog 4 #[.agg t.c, .agg u.c] w fun e w' => e = .returned (.bool true) ∧ Below w.heap.size w w' := by
  have HV := Lib.hid hw
  have cH := fun (W : World) (hW : Below w.heap.size w W) => heavy_any t 50 40 W (by omega) (by omega) (by omega) (by omega) ((ht.move hW).up hW.size)
  have cI := fun (W : World) (hW : Below w.heap.size w W) => heavy_any u 50 40 W (by omega) (by omega) (by omega) (by omega) ((hu.move hW).up hW.size)
  have hS : Boxes w ((w.alloc (Obj.cells t.c 26)).alloc (Obj.cells u.c 26)) [(w.heap.size, Obj.cells t.c 26), (w.heap.size + 1, Obj.cells u.c 26)] := by
    have := ((Boxes.start w).alloc (Obj.cells t.c 26)).alloc (Obj.cells u.c 26)
    simpa using this
  rw [hh] at cH
  rw [hi] at cI
  clear hh hi
  have C1 := Lib.hid (fun (W : World) (hW : Below w.heap.size w W) => h1 ▸ cText_any t W (hw.step hW) ((ht.move hW).up hW.size))
  have C2 := Lib.hid (fun (W : World) (hW : Below w.heap.size w W) => h2 ▸ cText_any u W (hw.step hW) ((hu.move hW).up hW.size))
  clear h1 h2
  have CH := Lib.hid cH
  have CI := Lib.hid cI
  clear cH cI
  clear hw ht hu
  go_enter Tryz.func4, Tryz.ntmps4
  go_wp2_with (first | go_skip | (go_at_call 5; (with_reducible (refine (awake15_any _ (HV.out.step hS.below)).mono ?_)); rintro e wn ⟨rfl, hbn⟩; have hS1 := hS.step hbn; clear hS hbn; have hS := hS1; clear hS1) | ((with_reducible refine gate_op (op := .load 26 (.tmp 2)) rfl ?_); refine wpList_load_row' rfl 26 (.tmp 2) rfl _ rfl 26 _ (0, 0) _ (hS.at_ 0 rfl) Tryz.underlying26 rfl (VT.val_info _) ?_) | ((with_reducible refine gate_op (op := .load 26 (.tmp 3)) rfl ?_); refine wpList_load_row' rfl 26 (.tmp 3) rfl _ rfl 26 _ (0, 0) _ (hS.at_ 1 rfl) Tryz.underlying26 rfl (VT.val_info _) ?_) | (go_at_call 6; (with_reducible (refine (CH.out _ hS.below).mono ?_)); rintro e wn ⟨rfl, hbn⟩; have hS1 := hS.step hbn; clear hS hbn; have hS := hS1; clear hS1) | (go_at_call 6; (with_reducible (refine (CI.out _ hS.below).mono ?_)); rintro e wn ⟨rfl, hbn⟩; have hS1 := hS.step hbn; clear hS hbn; have hS := hS1; clear hS1) | (go_at_call 7; (with_reducible (refine (C1.out _ hS.below).mono ?_)); rintro e wn ⟨rfl, hbn⟩; have hS1 := hS.step hbn; clear hS hbn; have hS := hS1; clear hS1) | (go_at_call 7; (with_reducible (refine (C2.out _ hS.below).mono ?_)); rintro e wn ⟨rfl, hbn⟩; have hS1 := hS.step hbn; clear hS hbn; have hS := hS1; clear hS1))
  go_ret
  exact ⟨rfl, hS.below⟩
set_option maxRecDepth 100000 in
set_option maxHeartbeats 1000000 in
theorem back15_m (hh : heavyB t 50 40 = false) (hi : heavyB u 50 40 = false) (A B : ByteArray) (h1 : textV t = (A, true)) (h2 : textV u = (B, true)) (hl : ¬ 4096 < (A.size : Int)) (x : VT) (hx : cellV A = (x, 0)) (hxt : sameV x t = true) (hab : sameV t u = (A.toList == B.toList)) : Calls Tryz.prog 4 #[.agg t.c, .agg u.c] w fun e w' => e = .returned (.bool true) ∧ Below w.heap.size w w' := by
  have HV := Lib.hid hw
  have cH := fun (W : World) (hW : Below w.heap.size w W) => heavy_any t 50 40 W (by omega) (by omega) (by omega) (by omega) ((ht.move hW).up hW.size)
  have cI := fun (W : World) (hW : Below w.heap.size w W) => heavy_any u 50 40 W (by omega) (by omega) (by omega) (by omega) ((hu.move hW).up hW.size)
  have hS : Boxes w ((w.alloc (Obj.cells t.c 26)).alloc (Obj.cells u.c 26)) [(w.heap.size, Obj.cells t.c 26), (w.heap.size + 1, Obj.cells u.c 26)] := by
    have := ((Boxes.start w).alloc (Obj.cells t.c 26)).alloc (Obj.cells u.c 26)
    simpa using this
  rw [hh] at cH
  rw [hi] at cI
  clear hh hi
  have C1 := Lib.hid (fun (W : World) (hW : Below w.heap.size w W) => h1 ▸ cText_any t W (hw.step hW) ((ht.move hW).up hW.size))
  have C2 := Lib.hid (fun (W : World) (hW : Below w.heap.size w W) => h2 ▸ cText_any u W (hw.step hW) ((hu.move hW).up hW.size))
  clear h1 h2
  have hAs : A.size ≤ 9223372036854775807 := by omega
  have C3 : Hid (∀ W, Below w.heap.size w W → Calls Tryz.prog 9 #[.string A] W fun e w' => e = .returned (.tuple #[.agg x.c, .int .i64 0]) ∧ Below W.heap.size W w') := fun W hW => by
    have h := cval_any A W (hw.step hW) hAs
    rw [hx] at h
    exact h
  have hxi : ∀ B0 W, VT.In B0 W x := fun B0 W => by have h := cell_in B0 W A hAs; rw [hx] at h; exact h
  have C4 : Hid (∀ W, Below w.heap.size w W → Calls Tryz.prog 11 #[.agg x.c, .agg t.c, .bool false] W fun e w' => e = .returned (.bool true) ∧ Below W.heap.size W w') := fun W hW => hxt ▸ rsame_v x t W (hxi _ _) ((ht.move hW).up hW.size)
  have C5 : Hid (∀ W, Below w.heap.size w W → Calls Tryz.prog 11 #[.agg t.c, .agg u.c, .bool false] W fun e w' => e = .returned (.bool (A.toList == B.toList)) ∧ Below W.heap.size W w') := fun W hW => hab ▸ rsame_v t u W ((ht.move hW).up hW.size) ((hu.move hW).up hW.size)
  clear hx hxi hxt hab
  have CH := Lib.hid cH
  have CI := Lib.hid cI
  clear cH cI
  clear hw ht hu
  go_enter Tryz.func4, Tryz.ntmps4
  go_wp2_with (first | go_skip | (go_at_call 5; (with_reducible (refine (awake15_any _ (HV.out.step hS.below)).mono ?_)); rintro e wn ⟨rfl, hbn⟩; have hS1 := hS.step hbn; clear hS hbn; have hS := hS1; clear hS1) | ((with_reducible refine gate_op (op := .load 26 (.tmp 2)) rfl ?_); refine wpList_load_row' rfl 26 (.tmp 2) rfl _ rfl 26 _ (0, 0) _ (hS.at_ 0 rfl) Tryz.underlying26 rfl (VT.val_info _) ?_) | ((with_reducible refine gate_op (op := .load 26 (.tmp 3)) rfl ?_); refine wpList_load_row' rfl 26 (.tmp 3) rfl _ rfl 26 _ (0, 0) _ (hS.at_ 1 rfl) Tryz.underlying26 rfl (VT.val_info _) ?_) | (go_at_call 6; (with_reducible (refine (CH.out _ hS.below).mono ?_)); rintro e wn ⟨rfl, hbn⟩; have hS1 := hS.step hbn; clear hS hbn; have hS := hS1; clear hS1) | (go_at_call 6; (with_reducible (refine (CI.out _ hS.below).mono ?_)); rintro e wn ⟨rfl, hbn⟩; have hS1 := hS.step hbn; clear hS hbn; have hS := hS1; clear hS1) | (go_at_call 7; (with_reducible (refine (C1.out _ hS.below).mono ?_)); rintro e wn ⟨rfl, hbn⟩; have hS1 := hS.step hbn; clear hS hbn; have hS := hS1; clear hS1) | (go_at_call 7; (with_reducible (refine (C2.out _ hS.below).mono ?_)); rintro e wn ⟨rfl, hbn⟩; have hS1 := hS.step hbn; clear hS hbn; have hS := hS1; clear hS1) | (go_at_call 9; (with_reducible (refine (C3.out _ hS.below).mono ?_)); rintro e wn ⟨rfl, hbn⟩; have hS1 := hS.step hbn; clear hS hbn; have hS := hS1; clear hS1) | ((with_reducible refine gate_op (op := .alloc 26) rfl ?_); refine alloc_arm rfl 26 rfl (val_alloc _) ?_; intro wn hbn hgn; have hS1 := hS.new hbn hgn; clear hS hbn hgn; have hS := hS1; clear hS1) | ((with_reducible refine gate_op (op := .store 26 (.tmp 9) (.tmp 43)) rfl ?_); refine wpList_store_row rfl 26 (.tmp 9) (.tmp 43) rfl _ (VT.c x) rfl rfl 26 _ (hS.at_ 2 rfl) (VT.val_info _) rfl (VT.c_one _) ?_; intro wn hbn hgn hon hsn; have hS1 := hS.put 2 rfl hon hbn hgn; clear hS hbn hgn hon hsn; have hS := hS1; clear hS1) | ((with_reducible refine gate_op (op := .load 26 (.tmp 9)) rfl ?_); refine wpList_load_row' rfl 26 (.tmp 9) rfl _ rfl 26 _ (0, 0) _ (hS.at_ 2 rfl) Tryz.underlying26 rfl (VT.val_info _) ?_) | (go_at_call 11; (with_reducible (refine (C4.out _ hS.below).mono ?_)); rintro e wn ⟨rfl, hbn⟩; have hS1 := hS.step hbn; clear hS hbn; have hS := hS1; clear hS1) | (go_at_call 11; (with_reducible (refine (C5.out _ hS.below).mono ?_)); rintro e wn ⟨rfl, hbn⟩; have hS1 := hS.step hbn; clear hS hbn; have hS := hS1; clear hS1))
  go_ret
  exact ⟨rfl, hS.below⟩
theorem cellBack_walk : Calls Tryz.prog 4 #[.agg t.c, .agg u.c] w fun e w' => e = .returned (.bool true) ∧ Below w.heap.size w w' := by
  cases hh : heavyB t 50 40
  case true => exact back15_h t u w hw ht hu hh
  cases hi : heavyB u 50 40
  case true => exact back15_i t u w hw ht hu hh hi
  obtain ⟨A, ok, h1⟩ : ∃ A ok, textV t = (A, ok) := ⟨_, _, rfl⟩
  obtain ⟨B, ok2, h2⟩ : ∃ B ok, textV u = (B, ok) := ⟨_, _, rfl⟩
  cases ok
  · exact back15_x t u w hw ht hu hh hi A B ok2 h1 h2
  cases ok2
  · exact back15_y t u w hw ht hu hh hi A B h1 h2
  by_cases hl : 4096 < (A.size : Int)
  · exact back15_z t u w hw ht hu hh hi A B h1 h2 hl
  have b1 := cell_back t ht.here.n0 ht.here.n1 (by rw [h1])
  rw [h1] at b1
  exact back15_m t u w hw ht hu hh hi A B h1 h2 hl (cellV A).1 (Prod.ext rfl b1.1) b1.2 (text_same h1 h2 ht.here.n0 ht.here.n1 hu.here.n0 hu.here.n1)
end
theorem cellBack_card (t u : VT) (w : World) (hw : Vars w) (ht : VT.In w.heap.size w t) (hu : VT.In w.heap.size w u) : Calls Tryz.prog 4 #[.agg t.c, .agg u.c] w fun e w' => e = .returned (.bool true) ∧ Below w.heap.size w w' := cellBack_walk t u w hw ht hu
end Go.Proofs.YtnapebgkcjnnbaaGreatDoor
