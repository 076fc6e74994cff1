/-
  value.Bool, Int, Num, Str, Stamp, walked: the values that they make. Condition: the library's variables as it lays them.
-/
import Derived.Test.YtcpmehppfccihaaGreatDoorJ10
import Derived.Test.YtcpmehppfccihaaGreatDoorJ8
import Derived.Test.YtcpmehppfccihaaGreatDoorJ7
namespace Go.Proofs.YtcpmehppfccihaaGreatDoor
open Go.RowKit
set_option linter.unusedVariables false
set_option linter.unusedSimpArgs false
/-- A value and an error, handed back. -/
def outV (r : VT × Int) : Value := .tuple #[.agg r.1.c, .int .i64 r.2]
theorem val_alloc (W : World) : (Instr.alloc 27 true (.tuple #[])).run Tryz.prog W = .ok (.pointer (some ⟨W.heap.size, 0, none⟩)) (W.alloc (Obj.cells VT.no.c 27)) := by kernel_rfl
theorem build_no (W : World) : (Instr.build 27 #[]).run Tryz.prog W = .ok (.agg VT.no.c) W := by kernel_rfl
theorem build_k (k : Int) (W : World) : (Instr.build 27 #[(0, .int .i64 k)]).run Tryz.prog W = .ok (.agg (VT.leaf k 0 ⟨#[]⟩).c) W := by kernel_rfl
theorem build_ks (k : Int) (s : ByteArray) (W : World) : (Instr.build 27 #[(0, .int .i64 k), (2, .string s)]).run Tryz.prog W = .ok (.agg (VT.leaf k 0 s).c) W := by kernel_rfl
theorem build_kn (k n : Int) (W : World) : (Instr.build 27 #[(0, .int .i64 k), (1, .int .i64 n)]).run Tryz.prog W = .ok (.agg (VT.leaf k n ⟨#[]⟩).c) W := by kernel_rfl
set_option maxHeartbeats 1000000 in
theorem vInt_any (n : Int) (w : World) : Calls Tryz.prog 25 #[.int .i64 n] w fun e w' => e = .returned (.agg (VT.leaf 2 n ⟨#[]⟩).c) ∧ Below w.heap.size w w' := by
  have hS := Boxes.start w
  have b1 := build_kn
  go_enter Tryz.func25, Tryz.ntmps25
  go_wp2_with (first | go_skip | ((with_reducible refine gate_op (op := .alloc 27) rfl ?_); refine alloc_arm rfl 27 rfl (val_alloc _) ?_; intro wn hbn hgn; have hS1 := hS.new hbn hgn; clear hS hbn hgn; have hS := hS1; clear hS1) | ((with_reducible refine gate_op (op := .store 27 (.tmp 2) (.tmp 4)) rfl ?_); refine wpList_store_row rfl 27 (.tmp 2) (.tmp 4) rfl _ (VT.c (VT.leaf 2 n ⟨#[]⟩)) rfl rfl 27 _ (hS.at_ 0 rfl) (VT.val_info _) rfl (VT.c_one _) ?_; intro wn hbn hgn hon hsn; have hS1 := hS.put 0 rfl hon hbn hgn; clear hS hbn hgn hon hsn; have hS := hS1; clear hS1))
  exact bodyPost_ret (v := .agg (VT.leaf 2 n ⟨#[]⟩).c) (results_cell_row rfl _ _ _ _ _ _ _ rfl (hS.at_ 0 rfl) Tryz.underlying27 rfl (VT.val_info _)) rfl ⟨rfl, hS.below⟩
set_option maxHeartbeats 1000000 in
theorem vNum_any (s : ByteArray) (w : World) (hw : Vars w) (hg : goodN s.data.toList = true) : Calls Tryz.prog 10 #[.string s] w fun e w' => e = .returned (outV (numT s, 0)) ∧ Below w.heap.size w w' := by
  have HV := Lib.hid hw
  have hS := Boxes.start w
  have b1 := build_ks
  have Hg := Lib.hid (fun W => good_any s W)
  have hi := fun (W : World) (hW : Below w.heap.size w W) => int_any s W (hw.step hW) good_ascii
  have hh := Lib.hid hg
  rw [hg] at Hg
  clear hw hg
  unfold numT
  generalize (intN s.data.toList).getD 0 = n at *
  cases hx : (intN s.data.toList).isSome
  · rw [hx] at hi
    have HI := Lib.hid hi
    clear hi hx
    go_enter Tryz.func10, Tryz.ntmps10
    go_wp2_with (first | go_skip | ((with_reducible refine gate_op (op := .alloc 27) rfl ?_); refine alloc_arm rfl 27 rfl (val_alloc _) ?_; intro wn hbn hgn; have hS1 := hS.new hbn hgn; clear hS hbn hgn; have hS := hS1; clear hS1) | (go_at_call 37; (with_reducible (refine (Hg.out _).mono ?_)); rintro e wn ⟨rfl, hbn⟩; have hS1 := hS.step hbn; clear hS hbn; have hS := hS1; clear hS1) | (go_at_call 38; (with_reducible (refine (HI.out _ hS.below).mono ?_)); rintro e wn ⟨rfl, hbn⟩; have hS1 := hS.step hbn; clear hS hbn; have hS := hS1; clear hS1) | ((with_reducible refine gate_op (op := .store 27 (.tmp 2) (.tmp 19)) rfl ?_); refine wpList_store_row rfl 27 (.tmp 2) (.tmp 19) rfl _ (VT.c (VT.leaf 3 0 s)) rfl rfl 27 _ (hS.at_ 0 rfl) (VT.val_info _) rfl (VT.c_one _) ?_; intro wn hbn hgn hon hsn; have hS1 := hS.put 0 rfl hon hbn hgn; clear hS hbn hgn hon hsn; have hS := hS1; clear hS1))
    exact bodyPost_ret (v := (outV (VT.leaf 3 0 s, 0))) (results_row_tmp rfl _ _ _ _ _ _ _ _ rfl rfl (hS.at_ 0 rfl) Tryz.underlying27 rfl (VT.val_info _)) rfl ⟨rfl, hS.below⟩
  · rw [hx] at hi
    have HI := Lib.hid hi
    clear hi hx
    go_enter Tryz.func10, Tryz.ntmps10
    go_wp2_with (first | go_skip | ((with_reducible refine gate_op (op := .alloc 27) rfl ?_); refine alloc_arm rfl 27 rfl (val_alloc _) ?_; intro wn hbn hgn; have hS1 := hS.new hbn hgn; clear hS hbn hgn; have hS := hS1; clear hS1) | (go_at_call 37; (with_reducible (refine (Hg.out _).mono ?_)); rintro e wn ⟨rfl, hbn⟩; have hS1 := hS.step hbn; clear hS hbn; have hS := hS1; clear hS1) | (go_at_call 38; (with_reducible (refine (HI.out _ hS.below).mono ?_)); rintro e wn ⟨rfl, hbn⟩; have hS1 := hS.step hbn; clear hS hbn; have hS := hS1; clear hS1) | (go_at_call 25; (with_reducible (refine (vInt_any n _).mono ?_)); rintro e wn ⟨rfl, hbn⟩; have hS1 := hS.step hbn; clear hS hbn; have hS := hS1; clear hS1) | ((with_reducible refine gate_op (op := .store 27 (.tmp 2) (.tmp 17)) rfl ?_); refine wpList_store_row rfl 27 (.tmp 2) (.tmp 17) rfl _ (VT.c (VT.leaf 2 n ⟨#[]⟩)) rfl rfl 27 _ (hS.at_ 0 rfl) (VT.val_info _) rfl (VT.c_one _) ?_; intro wn hbn hgn hon hsn; have hS1 := hS.put 0 rfl hon hbn hgn; clear hS hbn hgn hon hsn; have hS := hS1; clear hS1))
    exact bodyPost_ret (v := (outV (VT.leaf 2 n ⟨#[]⟩, 0))) (results_row_tmp rfl _ _ _ _ _ _ _ _ rfl rfl (hS.at_ 0 rfl) Tryz.underlying27 rfl (VT.val_info _)) rfl ⟨rfl, hS.below⟩
set_option maxHeartbeats 1000000 in
theorem vNum_bad (s : ByteArray) (w : World) (hg : goodN s.data.toList = false) : Calls Tryz.prog 10 #[.string s] w fun e w' => e = .returned (outV (.no, 1)) ∧ Below w.heap.size w w' := by
  have hS := Boxes.start w
  have b1 := build_no
  have Hg := Lib.hid (fun W => good_any s W)
  rw [hg] at Hg
  clear hg
  go_enter Tryz.func10, Tryz.ntmps10
  go_wp2_with (first | go_skip | ((with_reducible refine gate_op (op := .alloc 27) rfl ?_); refine alloc_arm rfl 27 rfl (val_alloc _) ?_; intro wn hbn hgn; have hS1 := hS.new hbn hgn; clear hS hbn hgn; have hS := hS1; clear hS1) | (go_at_call 37; (with_reducible (refine (Hg.out _).mono ?_)); rintro e wn ⟨rfl, hbn⟩; have hS1 := hS.step hbn; clear hS hbn; have hS := hS1; clear hS1) | ((with_reducible refine gate_op (op := .store 27 (.tmp 2) (.tmp 9)) rfl ?_); refine wpList_store_row rfl 27 (.tmp 2) (.tmp 9) rfl _ (VT.c VT.no) rfl rfl 27 _ (hS.at_ 0 rfl) (VT.val_info _) rfl (VT.c_one _) ?_; intro wn hbn hgn hon hsn; have hS1 := hS.put 0 rfl hon hbn hgn; clear hS hbn hgn hon hsn; have hS := hS1; clear hS1))
  exact bodyPost_ret (v := (outV (.no, 1))) (results_row_tmp rfl _ _ _ _ _ _ _ _ rfl rfl (hS.at_ 0 rfl) Tryz.underlying27 rfl (VT.val_info _)) rfl ⟨rfl, hS.below⟩
set_option maxHeartbeats 1000000 in
theorem vStr_any (s : ByteArray) (w : World) (hs : s.size ≤ 9223372036854775807) : Calls Tryz.prog 11 #[.string s] w fun e w' => e = .returned (outV (strR s)) ∧ Below w.heap.size w w' := by
  have hS := Boxes.start w
  have b1 := build_ks
  have b2 := build_no
  have hl := fun W => letters_any s W hs
  unfold strR
  generalize letC s = n at *
  have HL := Lib.hid hl
  clear hl
  cases hx : (n == 0)
  · have hx2 : (n != 0) = true := congrArg (fun b => !b) hx
    go_enter Tryz.func11, Tryz.ntmps11
    go_wp2_with (first | go_skip | ((with_reducible refine gate_op (op := .alloc 27) rfl ?_); refine alloc_arm rfl 27 rfl (val_alloc _) ?_; intro wn hbn hgn; have hS1 := hS.new hbn hgn; clear hS hbn hgn; have hS := hS1; clear hS1) | (go_at_call 39; (with_reducible (refine (HL.out _).mono ?_)); rintro e wn ⟨rfl, hbn⟩; have hS1 := hS.step hbn; clear hS hbn; have hS := hS1; clear hS1) | ((with_reducible refine gate_op (op := .store 27 (.tmp 2) (.tmp 9)) rfl ?_); refine wpList_store_row rfl 27 (.tmp 2) (.tmp 9) rfl _ (VT.c VT.no) rfl rfl 27 _ (hS.at_ 0 rfl) (VT.val_info _) rfl (VT.c_one _) ?_; intro wn hbn hgn hon hsn; have hS1 := hS.put 0 rfl hon hbn hgn; clear hS hbn hgn hon hsn; have hS := hS1; clear hS1))
    exact bodyPost_ret (v := (outV (.no, n))) (results_row_tmp rfl _ _ _ _ _ _ _ _ rfl rfl (hS.at_ 0 rfl) Tryz.underlying27 rfl (VT.val_info _)) rfl ⟨rfl, hS.below⟩
  · have hx2 : (n != 0) = false := congrArg (fun b => !b) hx
    go_enter Tryz.func11, Tryz.ntmps11
    go_wp2_with (first | go_skip | ((with_reducible refine gate_op (op := .alloc 27) rfl ?_); refine alloc_arm rfl 27 rfl (val_alloc _) ?_; intro wn hbn hgn; have hS1 := hS.new hbn hgn; clear hS hbn hgn; have hS := hS1; clear hS1) | (go_at_call 39; (with_reducible (refine (HL.out _).mono ?_)); rintro e wn ⟨rfl, hbn⟩; have hS1 := hS.step hbn; clear hS hbn; have hS := hS1; clear hS1) | ((with_reducible refine gate_op (op := .store 27 (.tmp 2) (.tmp 12)) rfl ?_); refine wpList_store_row rfl 27 (.tmp 2) (.tmp 12) rfl _ (VT.c (VT.leaf 4 0 s)) rfl rfl 27 _ (hS.at_ 0 rfl) (VT.val_info _) rfl (VT.c_one _) ?_; intro wn hbn hgn hon hsn; have hS1 := hS.put 0 rfl hon hbn hgn; clear hS hbn hgn hon hsn; have hS := hS1; clear hS1))
    exact bodyPost_ret (v := (outV (VT.leaf 4 0 s, 0))) (results_row_tmp rfl _ _ _ _ _ _ _ _ rfl rfl (hS.at_ 0 rfl) Tryz.underlying27 rfl (VT.val_info _)) rfl ⟨rfl, hS.below⟩
set_option maxHeartbeats 1000000 in
theorem vStamp_any (s : ByteArray) (w : World) (hs : s.size ≤ 9223372036854775807) : Calls Tryz.prog 12 #[.string s] w fun e w' => e = .returned (outV (if stampB s then (VT.leaf 7 0 s, 0) else (.no, 1))) ∧ Below w.heap.size w w' := by
  have hS := Boxes.start w
  have b1 := build_ks
  have b2 := build_no
  have hl := fun W => stamp_any s W hs
  cases hx : stampB s
  · rw [hx] at hl
    have HL := Lib.hid hl
    clear hl hx
    go_enter Tryz.func12, Tryz.ntmps12
    go_wp2_with (first | go_skip | ((with_reducible refine gate_op (op := .alloc 27) rfl ?_); refine alloc_arm rfl 27 rfl (val_alloc _) ?_; intro wn hbn hgn; have hS1 := hS.new hbn hgn; clear hS hbn hgn; have hS := hS1; clear hS1) | (go_at_call 40; (with_reducible (refine (HL.out _).mono ?_)); rintro e wn ⟨rfl, hbn⟩; have hS1 := hS.step hbn; clear hS hbn; have hS := hS1; clear hS1) | ((with_reducible refine gate_op (op := .store 27 (.tmp 2) (.tmp 7)) rfl ?_); refine wpList_store_row rfl 27 (.tmp 2) (.tmp 7) rfl _ (VT.c VT.no) rfl rfl 27 _ (hS.at_ 0 rfl) (VT.val_info _) rfl (VT.c_one _) ?_; intro wn hbn hgn hon hsn; have hS1 := hS.put 0 rfl hon hbn hgn; clear hS hbn hgn hon hsn; have hS := hS1; clear hS1))
    exact bodyPost_ret (v := (outV (.no, 1))) (results_row_tmp rfl _ _ _ _ _ _ _ _ rfl rfl (hS.at_ 0 rfl) Tryz.underlying27 rfl (VT.val_info _)) rfl ⟨rfl, hS.below⟩
  · rw [hx] at hl
    have HL := Lib.hid hl
    clear hl hx
    go_enter Tryz.func12, Tryz.ntmps12
    go_wp2_with (first | go_skip | ((with_reducible refine gate_op (op := .alloc 27) rfl ?_); refine alloc_arm rfl 27 rfl (val_alloc _) ?_; intro wn hbn hgn; have hS1 := hS.new hbn hgn; clear hS hbn hgn; have hS := hS1; clear hS1) | (go_at_call 40; (with_reducible (refine (HL.out _).mono ?_)); rintro e wn ⟨rfl, hbn⟩; have hS1 := hS.step hbn; clear hS hbn; have hS := hS1; clear hS1) | ((with_reducible refine gate_op (op := .store 27 (.tmp 2) (.tmp 9)) rfl ?_); refine wpList_store_row rfl 27 (.tmp 2) (.tmp 9) rfl _ (VT.c (VT.leaf 7 0 s)) rfl rfl 27 _ (hS.at_ 0 rfl) (VT.val_info _) rfl (VT.c_one _) ?_; intro wn hbn hgn hon hsn; have hS1 := hS.put 0 rfl hon hbn hgn; clear hS hbn hgn hon hsn; have hS := hS1; clear hS1))
    exact bodyPost_ret (v := (outV (VT.leaf 7 0 s, 0))) (results_row_tmp rfl _ _ _ _ _ _ _ _ rfl rfl (hS.at_ 0 rfl) Tryz.underlying27 rfl (VT.val_info _)) rfl ⟨rfl, hS.below⟩
end Go.Proofs.YtcpmehppfccihaaGreatDoor
