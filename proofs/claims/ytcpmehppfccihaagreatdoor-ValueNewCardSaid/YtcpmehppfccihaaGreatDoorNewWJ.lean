/-
  ValueNew, walked: true for all values and keys. Condition: the library's variables as it lays them.
-/
import Derived.Test.YtcpmehppfccihaaGreatDoorV4AJ
import Derived.Test.YtcpmehppfccihaaGreatDoorJ18
import Derived.Test.YtcpmehppfccihaaGreatDoorRCopyJ
import Derived.Test.YtcpmehppfccihaaGreatDoorRSameJ
import Derived.Test.YtcpmehppfccihaaGreatDoorJ22
namespace Go.Proofs.YtcpmehppfccihaaGreatDoor
open Go.RowKit
set_option linter.unusedVariables false
set_option linter.unusedSimpArgs false
set_option linter.unusedSectionVars false
theorem one_key (key : ByteArray) (a : VT) : keyS 1 (fun _ => key) (fun _ => a) 0 = key := by
  obtain ⟨j, _, h, _⟩ := sorted_from (n := 1) (fun _ => key) (fun _ => a) (i := 0) (by omega)
  exact h
theorem one_val (key : ByteArray) (a : VT) : valS 1 (fun _ => key) (fun _ => a) 0 = a := by
  obtain ⟨j, _, _, h⟩ := sorted_from (n := 1) (fun _ => key) (fun _ => a) (i := 0) (by omega)
  exact h
theorem row_p1 (key : ByteArray) (t : VT) : ∀ i, i < 1 → ∀ (j : Nat) z, (pcK key t)[j]? = some z → (pcK key t)[i * 6 + j]? = some z := by
  intro i hi j z hz
  obtain rfl : i = 0 := by omega
  rw [Nat.zero_mul, Nat.zero_add]
  exact hz
theorem map_1 (key : ByteArray) (a : VT) (b : Nat) (W : World) (hk : letC key = 0) (hks : key.size ≤ 9223372036854775807) (ha : VT.In W.heap.size W a) (hs : VT.Sm a) (hb : W.heap[b]? = some (.cells (pcK key a) 34 (0, 0))) :
    Calls Tryz.prog 13 #[.slice (some ⟨b, 0, none⟩) 1 1] W fun e w' => ∃ (y x : VT), e = .returned (.tuple #[.agg y.c, .int .i64 0]) ∧ Cop W.heap.size x y w' ∧ Below W.heap.size W w' := by
  have hi : VT.In W.heap.size W (mapT (some ⟨b, 0, none⟩) b 0 1 1 (fun _ => key) (fun _ => a)) := map_in hb (row_p1 key a) (by decide) (fun _ _ => hks) (fun _ _ => ha)
  refine (vMap_ok _ _ _ _ _ _ _ W hi (by decide) (fun i h0 h1 => by omega) (fun i h1 => ?_) (fun i h1 => ?_) (fun i h1 => ?_)).mono fun e w' ⟨y, A', g', c', he, hy, hb⟩ => ⟨y, _, he, hy, hb⟩
  all_goals obtain rfl : i = 0 := by omega
  · rw [one_key]; exact hk
  · rw [one_key]; exact hks
  · rw [one_val]; exact ⟨ha, hs⟩
section
variable (a : VT) (key : ByteArray) (w : World) (hw : Vars w) (ha : VT.In w.heap.size w a) (hk : key.size ≤ 140737488351232)
include hw ha hk
set_option maxRecDepth 100000 in
set_option maxHeartbeats 1000000 in
theorem new_a (h1 : heavyB a 300 40 = true) : Calls Tryz.prog 5 #[.agg a.c, .string key] w fun e w' => e = .returned (.bool true) ∧ Below w.heap.size w w' := by
  have HV := Lib.hid hw
  clear hw
  have hS : Boxes w (w.alloc (Obj.cells a.c 27)) [(w.heap.size, Obj.cells a.c 27)] := (Boxes.start w).alloc (Obj.cells a.c 27)
  have cA := fun W (hW : Below w.heap.size w W) => heavy_any a 300 40 W (by omega) (by omega) (by omega) (by omega) ((ha.move hW).up hW.size)
  rw [h1] at cA
  have CA := Lib.hid cA
  clear cA h1
  go_enter Tryz.func5, Tryz.ntmps5
  go_wp2_with (first | go_skip | (go_at_call 9; (with_reducible (refine (awake4_any _ (HV.out.step hS.below)).mono ?_)); rintro e wn ⟨rfl, hbn⟩; have hS1 := hS.step hbn; clear hS hbn; have hS := hS1; clear hS1) | ((with_reducible refine gate_op (op := .load 27 (.tmp 2)) rfl ?_); refine wpList_load_row' rfl 27 (.tmp 2) rfl _ rfl 27 _ (0, 0) _ (hS.at_ 0 rfl) Tryz.underlying27 rfl (VT.val_info a) ?_) | (go_at_call 27; (with_reducible (refine (CA.out _ hS.below).mono ?_)); rintro e wn ⟨rfl, hbn⟩; have hS1 := hS.step hbn; clear hS hbn; have hS := hS1; clear hS1))
  go_ret
  exact ⟨rfl, hS.below⟩
set_option maxRecDepth 100000 in
set_option maxHeartbeats 1000000 in
theorem new_b (h1 : heavyB a 300 40 = false) (h2 : (letC key == 0) = false) : Calls Tryz.prog 5 #[.agg a.c, .string key] w fun e w' => e = .returned (.bool true) ∧ Below w.heap.size w w' := by
  have HV := Lib.hid hw
  clear hw
  have hS : Boxes w (w.alloc (Obj.cells a.c 27)) [(w.heap.size, Obj.cells a.c 27)] := (Boxes.start w).alloc (Obj.cells a.c 27)
  have cA := fun W (hW : Below w.heap.size w W) => heavy_any a 300 40 W (by omega) (by omega) (by omega) (by omega) ((ha.move hW).up hW.size)
  rw [h1] at cA
  have CA := Lib.hid cA
  have cK := fun W => rstr_any key W
  rw [h2] at cK
  have CK := Lib.hid cK
  clear cA h1 cK h2
  go_enter Tryz.func5, Tryz.ntmps5
  go_wp2_with (first | go_skip | (go_at_call 9; (with_reducible (refine (awake4_any _ (HV.out.step hS.below)).mono ?_)); rintro e wn ⟨rfl, hbn⟩; have hS1 := hS.step hbn; clear hS hbn; have hS := hS1; clear hS1) | ((with_reducible refine gate_op (op := .load 27 (.tmp 2)) rfl ?_); refine wpList_load_row' rfl 27 (.tmp 2) rfl _ rfl 27 _ (0, 0) _ (hS.at_ 0 rfl) Tryz.underlying27 rfl (VT.val_info a) ?_) | (go_at_call 27; (with_reducible (refine (CA.out _ hS.below).mono ?_)); rintro e wn ⟨rfl, hbn⟩; have hS1 := hS.step hbn; clear hS hbn; have hS := hS1; clear hS1) | (go_at_call 26; (with_reducible (refine (CK.out _).mono ?_)); rintro e wn ⟨rfl, hbn⟩; have hS1 := hS.step hbn; clear hS hbn; have hS := hS1; clear hS1))
  go_ret
  exact ⟨rfl, hS.below⟩
set_option maxRecDepth 100000 in
set_option maxHeartbeats 2000000 in
theorem new_c (h1 : heavyB a 300 40 = false) (h2 : (letC key == 0) = true) : Calls Tryz.prog 5 #[.agg a.c, .string key] w fun e w' => e = .returned (.bool true) ∧ Below w.heap.size w w' := by
  have HV := Lib.hid hw
  clear hw
  have SMA := Lib.hid (heavyB_sm (by omega) h1)
  have hS : Boxes w (w.alloc (Obj.cells a.c 27)) [(w.heap.size, Obj.cells a.c 27)] := (Boxes.start w).alloc (Obj.cells a.c 27)
  have cA := fun W (hW : Below w.heap.size w W) => heavy_any a 300 40 W (by omega) (by omega) (by omega) (by omega) ((ha.move hW).up hW.size)
  rw [h1] at cA
  have CA := Lib.hid cA
  have cK := fun W => rstr_any key W
  rw [h2] at cK
  have CK := Lib.hid cK
  have LK := Lib.hid (show letC key = 0 by simpa using h2)
  have KS := Lib.hid hk
  have HA := Lib.hid ha
  have p1 := Lib.hid build_p
  have p2 := Lib.hid slice_p1
  have p3 := Lib.hid slice_v2
  clear cA h1 cK h2 hk ha
  go_enter Tryz.func5, Tryz.ntmps5
  go_wp2_with (first | go_skip | (go_at_call 9; (with_reducible (refine (awake4_any _ (HV.out.step hS.below)).mono ?_)); rintro e wn ⟨rfl, hbn⟩; have hS1 := hS.step hbn; clear hS hbn; have hS := hS1; clear hS1) | ((with_reducible refine gate_op (op := .load 27 (.tmp 2)) rfl ?_); refine wpList_load_row' rfl 27 (.tmp 2) rfl _ rfl 27 _ (0, 0) _ (hS.at_ 0 rfl) Tryz.underlying27 rfl (VT.val_info a) ?_) | (go_at_call 27; (with_reducible (refine (CA.out _ hS.below).mono ?_)); rintro e wn ⟨rfl, hbn⟩; have hS1 := hS.step hbn; clear hS hbn; have hS := hS1; clear hS1) | (go_at_call 26; (with_reducible (refine (CK.out _).mono ?_)); rintro e wn ⟨rfl, hbn⟩; have hS1 := hS.step hbn; clear hS hbn; have hS := hS1; clear hS1))
  rename World => w0
  refine (rcopy_any a w0 ((HA.out.move hS.below).up hS.below.size) SMA.out).mono ?_
  rintro e wA ⟨yb, rfl, hyb, hbA⟩
  have Q2 := Lib.hid ((hS.step hbA).at_ 0 rfl)
  have S0 := Lib.hid ((hS.step hbA).lt 0 rfl)
  have BA := Lib.hid (hS.step hbA).below
  have YB := Lib.hid hyb.tin
  have SB := Lib.hid (sameV_symm hyb.same)
  clear hS hbA hyb CA CK HV
  have hS := Boxes.start wA
  go_wp2_with (first | go_skip | ((with_reducible refine gate_op (op := .alloc 27) rfl ?_); refine alloc_arm rfl 27 rfl (val_alloc _) ?_; intro wn hbn hgn; have hS1 := hS.new hbn hgn; (try simp only [List.nil_append, List.cons_append, List.set_cons_zero, List.set_cons_succ] at hS1); clear hS hbn hgn; have hS := hS1; clear hS1) | ((with_reducible refine gate_op (op := .store 27 (.tmp 5) (.tmp 20)) rfl ?_); refine wpList_store_row rfl 27 (.tmp 5) (.tmp 20) rfl _ (VT.c yb) rfl rfl 27 _ (hS.at_ 0 rfl) (VT.val_info _) rfl (VT.c_one _) ?_; intro wn hbn hgn hon hsn; have hS1 := hS.put 0 rfl hon hbn hgn; (try simp only [List.nil_append, List.cons_append, List.set_cons_zero, List.set_cons_succ] at hS1); clear hS hbn hgn hon hsn; have hS := hS1; clear hS1) | ((with_reducible refine gate_op (op := .load 27 (.tmp 2)) rfl ?_); refine wpList_load_row' rfl 27 (.tmp 2) rfl _ rfl 27 _ (0, 0) _ ((hS.below.block _ (Array.getElem?_eq_some_iff.1 Q2.out).1).trans Q2.out) Tryz.underlying27 rfl (VT.val_info a) ?_) | ((with_reducible refine gate_op (op := .buildSlice 24 2 #[(0, .tmp 21), (1, .tmp 22)]) rfl ?_); refine slice_arm rfl 24 2 #[(0, .tmp 21), (1, .tmp 22)] rfl #[(0, .agg a.c), (1, .agg a.c)] (by simp only [List.map_toArray, List.map_cons, List.map_nil]; rfl) _ _ (p3.out a a _) ?_; intro wn hbn hgn; have hS1 := hS.new hbn hgn; (try simp only [List.nil_append, List.cons_append, List.set_cons_zero, List.set_cons_succ] at hS1); clear hS hbn hgn; have hS := hS1; clear hS1))
  rename World => w1
  have hB1 := BA.out.trans (hS.below.mono BA.out.size)
  have hA1 := (HA.out.move hB1).up hB1.size
  have hTin : VT.In w1.heap.size w1 (listT _ _ 0 2 2 (two a a)) := list_in (c := 2) (hS.at_ 1 rfl) (row_v2 a a) (by decide) (fun i _ => by unfold two; split <;> exact hA1)
  refine (vList_any _ _ 0 2 2 (two a a) w1 hTin (list_sm (by decide) (fun i _ => by unfold two; split <;> exact SMA.out))).mono ?_
  rintro e w2 ⟨l, rfl, hl, hb2⟩
  have S1 : Hid (wA.heap.size < w1.heap.size) := Lib.hid (hS.lt 0 rfl)
  have hS2 := hS.step hb2
  have Q5 : Hid (w2.heap[wA.heap.size]? = some (Obj.cells yb.c 27)) := Lib.hid (hS2.at_ 0 rfl)
  have Q2' : Hid (w2.heap[w.heap.size]? = some (Obj.cells a.c 27)) := Lib.hid ((hS2.below.block _ S0.out).trans Q2.out)
  have B2 := Lib.hid (BA.out.trans (hS2.below.mono BA.out.size))
  have YB2 := Lib.hid (hS2.below)
  have OL := Lib.hid (own3_of hl)
  have Z2 := Lib.hid hb2.size
  clear hS hS2 hb2 hTin hA1 hB1 hl Q2
  have hS := Boxes.start w2
  go_wp2_with (first | go_skip | ((with_reducible refine gate_op (op := .alloc 27) rfl ?_); refine alloc_arm rfl 27 rfl (val_alloc _) ?_; intro wn hbn hgn; have hS1 := hS.new hbn hgn; (try simp only [List.nil_append, List.cons_append, List.set_cons_zero, List.set_cons_succ] at hS1); clear hS hbn hgn; have hS := hS1; clear hS1) | ((with_reducible refine gate_op (op := .store 27 (.tmp 6) (.tmp 24)) rfl ?_); refine wpList_store_row rfl 27 (.tmp 6) (.tmp 24) rfl _ (VT.c l) rfl rfl 27 _ (hS.at_ 0 rfl) (VT.val_info _) rfl (VT.c_one _) ?_; intro wn hbn hgn hon hsn; have hS1 := hS.put 0 rfl hon hbn hgn; (try simp only [List.nil_append, List.cons_append, List.set_cons_zero, List.set_cons_succ] at hS1); clear hS hbn hgn hon hsn; have hS := hS1; clear hS1) | ((with_reducible refine gate_op (op := .load 27 (.tmp 2)) rfl ?_); refine wpList_load_row' rfl 27 (.tmp 2) rfl _ rfl 27 _ (0, 0) _ ((hS.below.block _ (Array.getElem?_eq_some_iff.1 Q2'.out).1).trans Q2'.out) Tryz.underlying27 rfl (VT.val_info a) ?_) | ((with_reducible refine gate_op (op := .build 34 #[(0, .tmp 26), (1, .tmp 27)]) rfl ?_); refine build_arm rfl 34 #[(0, .tmp 26), (1, .tmp 27)] rfl #[(0, .string key), (1, .agg a.c)] (by simp only [List.map_toArray, List.map_cons, List.map_nil]; rfl) _ (p1.out key a _) ?_) | ((with_reducible refine gate_op (op := .buildSlice 25 1 #[(0, .tmp 28)]) rfl ?_); refine slice_arm rfl 25 1 #[(0, .tmp 28)] rfl #[(0, .agg (pcK key a))] (by simp only [List.map_toArray, List.map_cons, List.map_nil]; rfl) _ _ (p2.out key a _) ?_; intro wn hbn hgn; have hS1 := hS.new hbn hgn; (try simp only [List.nil_append, List.cons_append, List.set_cons_zero, List.set_cons_succ] at hS1); clear hS hbn hgn; have hS := hS1; clear hS1))
  rename World => w3
  have hB3 := B2.out.trans (hS.below.mono B2.out.size)
  refine (map_1 key a _ w3 LK.out (by have := KS.out; omega) ((HA.out.move hB3).up hB3.size) SMA.out (hS.at_ 1 rfl)).mono ?_
  rintro e w4 ⟨m, xm, rfl, hm, hb4⟩
  have S3 : Hid (w2.heap.size < w3.heap.size) := Lib.hid (hS.lt 0 rfl)
  have hS4 := hS.step hb4
  have Q6 : Hid (w4.heap[w2.heap.size]? = some (Obj.cells l.c 27)) := Lib.hid (hS4.at_ 0 rfl)
  have Q5' : Hid (w4.heap[wA.heap.size]? = some (Obj.cells yb.c 27)) := Lib.hid ((hS4.below.block _ (Array.getElem?_eq_some_iff.1 Q5.out).1).trans Q5.out)
  have Q2 : Hid (w4.heap[w.heap.size]? = some (Obj.cells a.c 27)) := Lib.hid ((hS4.below.block _ (Array.getElem?_eq_some_iff.1 Q2'.out).1).trans Q2'.out)
  have B4 := Lib.hid (B2.out.trans (hS4.below.mono B2.out.size))
  have YB4 := Lib.hid (YB2.out.trans (hS4.below.mono YB2.out.size))
  have OL4 := Lib.hid (OL.out.move hS4.below)
  have OM := Lib.hid (own3_of hm)
  have Z4 := Lib.hid hb4.size
  clear hS hS4 hb4 hB3 hm Q2' Q5 OL B2 YB2
  have hS := Boxes.start w4
  go_wp2_with (first | go_skip | ((with_reducible refine gate_op (op := .alloc 27) rfl ?_); refine alloc_arm rfl 27 rfl (val_alloc _) ?_; intro wn hbn hgn; have hS1 := hS.new hbn hgn; (try simp only [List.nil_append, List.cons_append, List.set_cons_zero, List.set_cons_succ] at hS1); clear hS hbn hgn; have hS := hS1; clear hS1) | ((with_reducible refine gate_op (op := .store 27 (.tmp 7) (.tmp 31)) rfl ?_); refine wpList_store_row rfl 27 (.tmp 7) (.tmp 31) rfl _ (VT.c m) rfl rfl 27 _ (hS.at_ 0 rfl) (VT.val_info _) rfl (VT.c_one _) ?_; intro wn hbn hgn hon hsn; have hS1 := hS.put 0 rfl hon hbn hgn; (try simp only [List.nil_append, List.cons_append, List.set_cons_zero, List.set_cons_succ] at hS1); clear hS hbn hgn hon hsn; have hS := hS1; clear hS1) | ((with_reducible refine gate_op (op := .load 27 (.tmp 2)) rfl ?_); refine wpList_load_row' rfl 27 (.tmp 2) rfl _ rfl 27 _ (0, 0) _ ((hS.below.block _ (Array.getElem?_eq_some_iff.1 Q2.out).1).trans Q2.out) Tryz.underlying27 rfl (VT.val_info a) ?_))
  rename World => w5
  have hB5 := B4.out.trans (hS.below.mono B4.out.size)
  refine (vCopy_any a w5 ((HA.out.move hB5).up hB5.size) SMA.out).mono ?_
  rintro e w6 ⟨c, rfl, hc, hb6⟩
  have S5 : Hid (w4.heap.size < w5.heap.size) := Lib.hid (hS.lt 0 rfl)
  have hS6 := hS.step hb6
  have Q7 : Hid (w6.heap[w4.heap.size]? = some (Obj.cells m.c 27)) := Lib.hid (hS6.at_ 0 rfl)
  have Q6' : Hid (w6.heap[w2.heap.size]? = some (Obj.cells l.c 27)) := Lib.hid ((hS6.below.block _ (Array.getElem?_eq_some_iff.1 Q6.out).1).trans Q6.out)
  have Q5 : Hid (w6.heap[wA.heap.size]? = some (Obj.cells yb.c 27)) := Lib.hid ((hS6.below.block _ (Array.getElem?_eq_some_iff.1 Q5'.out).1).trans Q5'.out)
  have Q2' : Hid (w6.heap[w.heap.size]? = some (Obj.cells a.c 27)) := Lib.hid ((hS6.below.block _ (Array.getElem?_eq_some_iff.1 Q2.out).1).trans Q2.out)
  have B6 := Lib.hid (B4.out.trans (hS6.below.mono B4.out.size))
  have YB6 := Lib.hid (YB4.out.trans (hS6.below.mono YB4.out.size))
  have OL6 := Lib.hid (OL4.out.move (hS6.below.mono (by have := Z2.out; have := S3.out; have := Z4.out; omega)))
  have OM6 := Lib.hid (OM.out.move hS6.below)
  have OC := Lib.hid (own3_of hc)
  have Z6 := Lib.hid hb6.size
  clear hS hS6 hb6 hB5 hc Q2 Q5' Q6 OL4 OM B4 YB4
  have hS := Boxes.start w6
  go_wp2_with (first | go_skip | ((with_reducible refine gate_op (op := .alloc 27) rfl ?_); refine alloc_arm rfl 27 rfl (val_alloc _) ?_; intro wn hbn hgn; have hS1 := hS.new hbn hgn; (try simp only [List.nil_append, List.cons_append, List.set_cons_zero, List.set_cons_succ] at hS1); clear hS hbn hgn; have hS := hS1; clear hS1) | ((with_reducible refine gate_op (op := .store 27 (.tmp 9) (.tmp 34)) rfl ?_); refine wpList_store_row rfl 27 (.tmp 9) (.tmp 34) rfl _ (VT.c c) rfl rfl 27 _ (hS.at_ 0 rfl) (VT.val_info _) rfl (VT.c_one _) ?_; intro wn hbn hgn hon hsn; have hS1 := hS.put 0 rfl hon hbn hgn; (try simp only [List.nil_append, List.cons_append, List.set_cons_zero, List.set_cons_succ] at hS1); clear hS hbn hgn hon hsn; have hS := hS1; clear hS1) | ((with_reducible refine gate_op (op := .load 27 (.tmp 6)) rfl ?_); refine wpList_load_row' rfl 27 (.tmp 6) rfl _ rfl 27 _ (0, 0) _ ((hS.below.block _ (Array.getElem?_eq_some_iff.1 Q6'.out).1).trans Q6'.out) Tryz.underlying27 rfl (VT.val_info l) ?_))
  rename World => w7
  have z1 := S0.out
  have z2 := S1.out
  have z3 := Z2.out
  have z4 := S3.out
  have z5 := Z4.out
  have z6 := S5.out
  have z7 := Z6.out
  have z8 : w6.heap.size < w7.heap.size := hS.lt 0 rfl
  have hb7 := hS.below
  have q9 : w7.heap[w6.heap.size]? = some (Obj.cells c.c 27) := hS.at_ 0 rfl
  have q7 := (hb7.block _ (Array.getElem?_eq_some_iff.1 Q7.out).1).trans Q7.out
  have q5 := (hb7.block _ (Array.getElem?_eq_some_iff.1 Q5.out).1).trans Q5.out
  have q2 := (hb7.block _ (Array.getElem?_eq_some_iff.1 Q2'.out).1).trans Q2'.out
  have ol := OL6.out.move (hb7.mono (by omega))
  have om := OM6.out.move (hb7.mono (by omega))
  have oc := OC.out.move hb7
  have b7 := B6.out.trans (hb7.mono B6.out.size)
  have y7 := YB6.out.trans (hb7.mono YB6.out.size)
  refine (spoil_any l w7 ol.tin ol.free).mono ?_
  rintro e w8 ⟨rfl, hsp⟩
  have q9' := spoilt_row ol.at_ hsp (by omega) q9
  have q7' := spoilt_row ol.at_ hsp (by omega) q7
  have q5' := spoilt_row ol.at_ hsp (by omega) q5
  have q2' := spoilt_row ol.at_ hsp (by omega) q2
  have om' := om.spoilt ol.at_ hsp (by omega)
  have oc' := oc.spoilt ol.at_ hsp (by omega)
  have b8 := b7.trans (spoilt_below ol.at_ hsp (by omega) (by omega))
  have y8 := y7.trans (spoilt_below ol.at_ hsp (by omega) (by omega))
  have OM8 := Lib.hid om'
  have OC8 := Lib.hid oc'
  have P9 := Lib.hid q9'
  have P7 := Lib.hid q7'
  have P5 := Lib.hid q5'
  have P2 := Lib.hid q2'
  have B8 := Lib.hid b8
  have Y8 := Lib.hid y8
  have ZZ := Lib.hid (And.intro z1 (And.intro z2 (And.intro z3 (And.intro z4 (And.intro z5 (And.intro z6 (And.intro z7 (And.intro z8 hsp.size))))))))
  clear q9 q7 q5 q2 q9' q7' q5' q2' ol om oc om' oc' b7 b8 y7 y8 z1 z2 z3 z4 z5 z6 z7 z8 hb7 hS hsp
  go_wp2_with (first | go_skip | ((with_reducible refine gate_op (op := .load 27 (.tmp 7)) rfl ?_); refine wpList_load_row' rfl 27 (.tmp 7) rfl _ rfl 27 _ (0, 0) _ (P7.out) Tryz.underlying27 rfl (VT.val_info m) ?_))
  refine (spoil_any m w8 OM8.out.tin OM8.out.free).mono ?_
  rintro e w9 ⟨rfl, hsp⟩
  obtain ⟨z1, z2, z3, z4, z5, z6, z7, z8, z9⟩ := ZZ.out
  have P9' := Lib.hid (spoilt_row OM8.out.at_ hsp (by omega) P9.out)
  have P5' := Lib.hid (spoilt_row OM8.out.at_ hsp (by omega) P5.out)
  have P2' := Lib.hid (spoilt_row OM8.out.at_ hsp (by omega) P2.out)
  have OC9 := Lib.hid (OC8.out.spoilt OM8.out.at_ hsp (by omega))
  have B9 := Lib.hid (B8.out.trans (spoilt_below OM8.out.at_ hsp (by omega) (by omega)))
  have Y9 := Lib.hid (Y8.out.trans (spoilt_below OM8.out.at_ hsp (by omega) (by omega)))
  have Z9 := Lib.hid hsp.size
  clear z1 z2 z3 z4 z5 z6 z7 z8 z9 hsp
  go_wp2_with (first | go_skip | ((with_reducible refine gate_op (op := .load 27 (.tmp 9)) rfl ?_); refine wpList_load_row' rfl 27 (.tmp 9) rfl _ rfl 27 _ (0, 0) _ (P9'.out) Tryz.underlying27 rfl (VT.val_info c) ?_))
  refine (spoil_any c w9 OC9.out.tin OC9.out.free).mono ?_
  rintro e w10 ⟨rfl, hsp⟩
  obtain ⟨z1, z2, z3, z4, z5, z6, z7, z8, z9⟩ := ZZ.out
  have z10 := Z9.out
  have R5 := Lib.hid (spoilt_row OC9.out.at_ hsp (by omega) P5'.out)
  have R2 := Lib.hid (spoilt_row OC9.out.at_ hsp (by omega) P2'.out)
  have BE := B9.out.trans (spoilt_below OC9.out.at_ hsp (by omega) (by omega))
  have YE := Y9.out.trans (spoilt_below OC9.out.at_ hsp (by omega) (by omega))
  have hrs := rsame_v a yb w10 ((HA.out.move BE).up BE.size) ((YB.out.move YE).up YE.size)
  rw [SB.out] at hrs
  have HR := Lib.hid hrs
  have BE2 := Lib.hid BE
  clear z1 z2 z3 z4 z5 z6 z7 z8 z9 z10 hsp BE YE hrs
  go_wp2_with (first | go_skip | ((with_reducible refine gate_op (op := .load 27 (.tmp 2)) rfl ?_); refine wpList_load_row' rfl 27 (.tmp 2) rfl _ rfl 27 _ (0, 0) _ (R2.out) Tryz.underlying27 rfl (VT.val_info a) ?_) | ((with_reducible refine gate_op (op := .load 27 (.tmp 5)) rfl ?_); refine wpList_load_row' rfl 27 (.tmp 5) rfl _ rfl 27 _ (0, 0) _ (R5.out) Tryz.underlying27 rfl (VT.val_info yb) ?_) | (go_at_call 20; (with_reducible (refine HR.out.mono ?_)); rintro e wz ⟨rfl, hbz⟩))
  go_ret
  exact ⟨rfl, BE2.out.trans (hbz.mono BE2.out.size)⟩
theorem new_any : Calls Tryz.prog 5 #[.agg a.c, .string key] w fun e w' => e = .returned (.bool true) ∧ Below w.heap.size w w' := by
  cases h1 : heavyB a 300 40
  · cases h2 : (letC key == 0)
    · exact new_b a key w hw ha hk h1 h2
    · exact new_c a key w hw ha hk h1 h2
  · exact new_a a key w hw ha hk h1
end
theorem valueNew_walk (a : VT) (key : ByteArray) (w : World) (hw : Vars w) (ha : VT.In w.heap.size w a) (hk : key.size ≤ 140737488351232) : Calls Tryz.prog 5 #[.agg a.c, .string key] w fun e w' => e = .returned (.bool true) ∧ Below w.heap.size w w' := new_any a key w hw ha hk
end Go.Proofs.YtcpmehppfccihaaGreatDoor
