/-
  cell.Value, walked: what a cell says. Condition: the library's variables as it lays them.
-/
import Derived.Test.YtnapebgkcjnnbaaGreatDoorValJ
namespace Go.Proofs.YtnapebgkcjnnbaaGreatDoor
open Go.RowKit
set_option linter.unusedVariables false
set_option linter.unusedSimpArgs false
set_option linter.unusedSectionVars false
set_option maxHeartbeats 1000000 in
theorem vBool_any (b : Bool) (w : World) : Calls Tryz.prog 18 #[.bool b] w fun e w' => e = .returned (.agg (VT.leaf 1 (if b = true then 1 else 0) ⟨#[]⟩).c) ∧ Below w.heap.size w w' := by
  have hS := Boxes.start w
  have b1 := build_k
  cases b
  · go_enter Tryz.func18, Tryz.ntmps18
    go_wp2_with (first | go_skip | ((with_reducible refine gate_op (op := .alloc 26) rfl ?_); refine alloc_arm rfl 26 rfl (val_alloc _) ?_; intro wn hbn hgn; have hS1 := hS.new hbn hgn; clear hS hbn hgn; have hS := hS1; clear hS1) | ((with_reducible refine gate_op (op := .store 26 (.tmp 3) (.tmp 4)) rfl ?_); refine wpList_store_row rfl 26 (.tmp 3) (.tmp 4) rfl _ (VT.c (VT.leaf 1 0 ⟨#[]⟩)) rfl rfl 26 _ (hS.at_ 1 rfl) (VT.val_info _) rfl (VT.c_one _) ?_; intro wn hbn hgn hon hsn; have hS1 := hS.put 1 rfl hon hbn hgn; clear hS hbn hgn hon hsn; have hS := hS1; clear hS1) | ((with_reducible refine gate_op (op := .load 26 (.tmp 3)) rfl ?_); refine wpList_load_row' rfl 26 (.tmp 3) rfl _ rfl 26 _ (0, 0) _ (hS.at_ 1 rfl) Tryz.underlying26 rfl (VT.val_info _) ?_) | ((with_reducible refine gate_op (op := .store 26 (.tmp 2) (.tmp 7)) rfl ?_); refine wpList_store_row rfl 26 (.tmp 2) (.tmp 7) rfl _ (VT.c (VT.leaf 1 0 ⟨#[]⟩)) rfl rfl 26 _ (hS.at_ 0 rfl) (VT.val_info _) rfl (VT.c_one _) ?_; intro wn hbn hgn hon hsn; have hS1 := hS.put 0 rfl hon hbn hgn; clear hS hbn hgn hon hsn; have hS := hS1; clear hS1))
    exact bodyPost_ret (v := .agg (VT.leaf 1 0 ⟨#[]⟩).c) (results_cell_row rfl _ _ _ _ _ _ _ rfl (hS.at_ 0 rfl) Tryz.underlying26 rfl (VT.val_info _)) rfl ⟨rfl, hS.below⟩
  · go_enter Tryz.func18, Tryz.ntmps18
    go_wp2_with (first | go_skip | ((with_reducible refine gate_op (op := .alloc 26) rfl ?_); refine alloc_arm rfl 26 rfl (val_alloc _) ?_; intro wn hbn hgn; have hS1 := hS.new hbn hgn; clear hS hbn hgn; have hS := hS1; clear hS1) | ((with_reducible refine gate_op (op := .store 26 (.tmp 3) (.tmp 4)) rfl ?_); refine wpList_store_row rfl 26 (.tmp 3) (.tmp 4) rfl _ (VT.c (VT.leaf 1 0 ⟨#[]⟩)) rfl rfl 26 _ (hS.at_ 1 rfl) (VT.val_info _) rfl (VT.c_one _) ?_; intro wn hbn hgn hon hsn; have hS1 := hS.put 1 rfl hon hbn hgn; clear hS hbn hgn hon hsn; have hS := hS1; clear hS1) | ((with_reducible refine gate_op (op := .store 2 (.tmp 6) (.const (.int .i64 1))) rfl ?_); refine store_elem rfl 2 (.tmp 6) _ rfl _ 1 (.int .i64 1) rfl rfl rfl 26 _ _ (hS.at_ 1 rfl) (show (VT.leaf 1 0 ⟨#[]⟩).c[1]? = some (.int .i64 0) from rfl) (by kernel_rfl) ?_; rw [show (VT.leaf 1 0 ⟨#[]⟩).c.setIfInBounds 1 (.int .i64 1) = (VT.leaf 1 1 ⟨#[]⟩).c by kernel_rfl]; intro wn hgn hon hbn hsn; have hS1 := hS.put 1 rfl hon hbn hgn; clear hS hgn hon hbn hsn; have hS := hS1; clear hS1) | ((with_reducible refine gate_op (op := .load 26 (.tmp 3)) rfl ?_); refine wpList_load_row' rfl 26 (.tmp 3) rfl _ rfl 26 _ (0, 0) _ (hS.at_ 1 rfl) Tryz.underlying26 rfl (VT.val_info _) ?_) | ((with_reducible refine gate_op (op := .store 26 (.tmp 2) (.tmp 7)) rfl ?_); refine wpList_store_row rfl 26 (.tmp 2) (.tmp 7) rfl _ (VT.c (VT.leaf 1 1 ⟨#[]⟩)) rfl rfl 26 _ (hS.at_ 0 rfl) (VT.val_info _) rfl (VT.c_one _) ?_; intro wn hbn hgn hon hsn; have hS1 := hS.put 0 rfl hon hbn hgn; clear hS hbn hgn hon hsn; have hS := hS1; clear hS1))
    exact bodyPost_ret (v := .agg (VT.leaf 1 1 ⟨#[]⟩).c) (results_cell_row rfl _ _ _ _ _ _ _ rfl (hS.at_ 0 rfl) Tryz.underlying26 rfl (VT.val_info _)) rfl ⟨rfl, hS.below⟩
set_option maxHeartbeats 1000000 in
theorem cv_0 (s : ByteArray) (w : World) (h0 : (s.toList = [])) : Calls Tryz.prog 9 #[.string s] w fun e w' => e = .returned (.tuple #[.agg (VT.c .no), .int .i64 9]) ∧ Below w.heap.size w w' := by
  have hS := Boxes.start w
  have b1 := build_k
  have b2 := build_no
  go_enter Tryz.func9, Tryz.ntmps9
  go_wp2_with (first | go_skip | ((with_reducible refine gate_op (op := .alloc 26) rfl ?_); refine alloc_arm rfl 26 rfl (val_alloc _) ?_; intro wn hbn hgn; have hS1 := hS.new hbn hgn; clear hS hbn hgn; have hS := hS1; clear hS1) | ((with_reducible refine gate_op (op := .store 26 (.tmp 2) (.tmp 9)) rfl ?_); refine wpList_store_row rfl 26 (.tmp 2) (.tmp 9) rfl _ (VT.c VT.no) rfl rfl 26 _ (hS.at_ 0 rfl) (VT.val_info _) rfl (VT.c_one _) ?_; intro wn hbn hgn hon hsn; have hS1 := hS.put 0 rfl hon hbn hgn; clear hS hbn hgn hon hsn; have hS := hS1; clear hS1))
  exact bodyPost_ret (v := (.tuple #[.agg (VT.c .no), .int .i64 9])) (results_row_tmp rfl _ _ _ _ _ _ _ _ rfl rfl (hS.at_ 0 rfl) Tryz.underlying26 rfl (VT.val_info _)) rfl ⟨rfl, hS.below⟩
set_option maxHeartbeats 1000000 in
theorem cv_1 (s : ByteArray) (w : World) (h1 : (s.toList = [110, 117, 108, 108])) : Calls Tryz.prog 9 #[.string s] w fun e w' => e = .returned (.tuple #[.agg (VT.c .no), .int .i64 0]) ∧ Below w.heap.size w w' := by
  have hS := Boxes.start w
  have b1 := build_k
  have b2 := build_no
  go_enter Tryz.func9, Tryz.ntmps9
  go_wp2_with (first | go_skip | ((with_reducible refine gate_op (op := .alloc 26) rfl ?_); refine alloc_arm rfl 26 rfl (val_alloc _) ?_; intro wn hbn hgn; have hS1 := hS.new hbn hgn; clear hS hbn hgn; have hS := hS1; clear hS1) | ((with_reducible refine gate_op (op := .store 26 (.tmp 2) (.tmp 12)) rfl ?_); refine wpList_store_row rfl 26 (.tmp 2) (.tmp 12) rfl _ (VT.c VT.no) rfl rfl 26 _ (hS.at_ 0 rfl) (VT.val_info _) rfl (VT.c_one _) ?_; intro wn hbn hgn hon hsn; have hS1 := hS.put 0 rfl hon hbn hgn; clear hS hbn hgn hon hsn; have hS := hS1; clear hS1))
  exact bodyPost_ret (v := (.tuple #[.agg (VT.c .no), .int .i64 0])) (results_row_tmp rfl _ _ _ _ _ _ _ _ rfl rfl (hS.at_ 0 rfl) Tryz.underlying26 rfl (VT.val_info _)) rfl ⟨rfl, hS.below⟩
set_option maxHeartbeats 1000000 in
theorem cv_2 (s : ByteArray) (w : World) (h2 : (s.toList = [116, 114, 117, 101])) : Calls Tryz.prog 9 #[.string s] w fun e w' => e = .returned (.tuple #[.agg (VT.c (VT.leaf 1 1 ⟨#[]⟩)), .int .i64 0]) ∧ Below w.heap.size w w' := by
  have hS := Boxes.start w
  have b1 := build_k
  have b2 := build_no
  go_enter Tryz.func9, Tryz.ntmps9
  go_wp2_with (first | go_skip | ((with_reducible refine gate_op (op := .alloc 26) rfl ?_); refine alloc_arm rfl 26 rfl (val_alloc _) ?_; intro wn hbn hgn; have hS1 := hS.new hbn hgn; clear hS hbn hgn; have hS := hS1; clear hS1) | (go_at_call 18; (with_reducible (refine (vBool_any true _).mono ?_)); rintro e wn ⟨rfl, hbn⟩; have hS1 := hS.step hbn; clear hS hbn; have hS := hS1; clear hS1) | ((with_reducible refine gate_op (op := .store 26 (.tmp 2) (.tmp 18)) rfl ?_); refine wpList_store_row rfl 26 (.tmp 2) (.tmp 18) rfl _ (VT.c (VT.leaf 1 1 ⟨#[]⟩)) rfl rfl 26 _ (hS.at_ 0 rfl) (VT.val_info _) rfl (VT.c_one _) ?_; intro wn hbn hgn hon hsn; have hS1 := hS.put 0 rfl hon hbn hgn; clear hS hbn hgn hon hsn; have hS := hS1; clear hS1))
  exact bodyPost_ret (v := (.tuple #[.agg (VT.c (VT.leaf 1 1 ⟨#[]⟩)), .int .i64 0])) (results_row_tmp rfl _ _ _ _ _ _ _ _ rfl rfl (hS.at_ 0 rfl) Tryz.underlying26 rfl (VT.val_info _)) rfl ⟨rfl, hS.below⟩
set_option maxHeartbeats 1000000 in
theorem cv_3 (s : ByteArray) (w : World) (h3 : (s.toList = [102, 97, 108, 115, 101])) : Calls Tryz.prog 9 #[.string s] w fun e w' => e = .returned (.tuple #[.agg (VT.c (VT.leaf 1 0 ⟨#[]⟩)), .int .i64 0]) ∧ Below w.heap.size w w' := by
  have hS := Boxes.start w
  have b1 := build_k
  have b2 := build_no
  go_enter Tryz.func9, Tryz.ntmps9
  go_wp2_with (first | go_skip | ((with_reducible refine gate_op (op := .alloc 26) rfl ?_); refine alloc_arm rfl 26 rfl (val_alloc _) ?_; intro wn hbn hgn; have hS1 := hS.new hbn hgn; clear hS hbn hgn; have hS := hS1; clear hS1) | (go_at_call 18; (with_reducible (refine (vBool_any false _).mono ?_)); rintro e wn ⟨rfl, hbn⟩; have hS1 := hS.step hbn; clear hS hbn; have hS := hS1; clear hS1) | ((with_reducible refine gate_op (op := .store 26 (.tmp 2) (.tmp 18)) rfl ?_); refine wpList_store_row rfl 26 (.tmp 2) (.tmp 18) rfl _ (VT.c (VT.leaf 1 0 ⟨#[]⟩)) rfl rfl 26 _ (hS.at_ 0 rfl) (VT.val_info _) rfl (VT.c_one _) ?_; intro wn hbn hgn hon hsn; have hS1 := hS.put 0 rfl hon hbn hgn; clear hS hbn hgn hon hsn; have hS := hS1; clear hS1))
  exact bodyPost_ret (v := (.tuple #[.agg (VT.c (VT.leaf 1 0 ⟨#[]⟩)), .int .i64 0])) (results_row_tmp rfl _ _ _ _ _ _ _ _ rfl rfl (hS.at_ 0 rfl) Tryz.underlying26 rfl (VT.val_info _)) rfl ⟨rfl, hS.below⟩
set_option maxHeartbeats 1000000 in
theorem cv_4 (s : ByteArray) (w : World) (h4 : (s.toList = [91, 93])) : Calls Tryz.prog 9 #[.string s] w fun e w' => e = .returned (.tuple #[.agg (VT.c (VT.leaf 5 0 ⟨#[]⟩)), .int .i64 0]) ∧ Below w.heap.size w w' := by
  have hS := Boxes.start w
  have b1 := build_k
  have b2 := build_no
  go_enter Tryz.func9, Tryz.ntmps9
  go_wp2_with (first | go_skip | ((with_reducible refine gate_op (op := .alloc 26) rfl ?_); refine alloc_arm rfl 26 rfl (val_alloc _) ?_; intro wn hbn hgn; have hS1 := hS.new hbn hgn; clear hS hbn hgn; have hS := hS1; clear hS1) | ((with_reducible refine gate_op (op := .store 26 (.tmp 2) (.tmp 21)) rfl ?_); refine wpList_store_row rfl 26 (.tmp 2) (.tmp 21) rfl _ (VT.c (VT.leaf 5 0 ⟨#[]⟩)) rfl rfl 26 _ (hS.at_ 0 rfl) (VT.val_info _) rfl (VT.c_one _) ?_; intro wn hbn hgn hon hsn; have hS1 := hS.put 0 rfl hon hbn hgn; clear hS hbn hgn hon hsn; have hS := hS1; clear hS1))
  exact bodyPost_ret (v := (.tuple #[.agg (VT.c (VT.leaf 5 0 ⟨#[]⟩)), .int .i64 0])) (results_row_tmp rfl _ _ _ _ _ _ _ _ rfl rfl (hS.at_ 0 rfl) Tryz.underlying26 rfl (VT.val_info _)) rfl ⟨rfl, hS.below⟩
set_option maxHeartbeats 1000000 in
theorem cv_5 (s : ByteArray) (w : World) (h5 : (s.toList = [123, 125])) : Calls Tryz.prog 9 #[.string s] w fun e w' => e = .returned (.tuple #[.agg (VT.c (VT.leaf 6 0 ⟨#[]⟩)), .int .i64 0]) ∧ Below w.heap.size w w' := by
  have hS := Boxes.start w
  have b1 := build_k
  have b2 := build_no
  go_enter Tryz.func9, Tryz.ntmps9
  go_wp2_with (first | go_skip | ((with_reducible refine gate_op (op := .alloc 26) rfl ?_); refine alloc_arm rfl 26 rfl (val_alloc _) ?_; intro wn hbn hgn; have hS1 := hS.new hbn hgn; clear hS hbn hgn; have hS := hS1; clear hS1) | ((with_reducible refine gate_op (op := .store 26 (.tmp 2) (.tmp 24)) rfl ?_); refine wpList_store_row rfl 26 (.tmp 2) (.tmp 24) rfl _ (VT.c (VT.leaf 6 0 ⟨#[]⟩)) rfl rfl 26 _ (hS.at_ 0 rfl) (VT.val_info _) rfl (VT.c_one _) ?_; intro wn hbn hgn hon hsn; have hS1 := hS.put 0 rfl hon hbn hgn; clear hS hbn hgn hon hsn; have hS := hS1; clear hS1))
  exact bodyPost_ret (v := (.tuple #[.agg (VT.c (VT.leaf 6 0 ⟨#[]⟩)), .int .i64 0])) (results_row_tmp rfl _ _ _ _ _ _ _ _ rfl rfl (hS.at_ 0 rfl) Tryz.underlying26 rfl (VT.val_info _)) rfl ⟨rfl, hS.below⟩
section
variable (s : ByteArray) (w : World) (hs : s.size ≤ 9223372036854775807) (h0 : ¬ (s.toList = [])) (h1 : ¬ (s.toList = [110, 117, 108, 108])) (h2 : ¬ (s.toList = [116, 114, 117, 101])) (h3 : ¬ (s.toList = [102, 97, 108, 115, 101])) (h4 : ¬ (s.toList = [91, 93])) (h5 : ¬ (s.toList = [123, 125]))
include hs h0 h1 h2 h3 h4 h5
set_option maxHeartbeats 1000000 in
theorem cv_n (hw : Vars w) (hg : goodN s.data.toList = true) : Calls Tryz.prog 9 #[.string s] w fun e w' => e = .returned (.tuple #[.agg (VT.c (numT s)), .int .i64 0]) ∧ Below w.heap.size w w' := by
  have hS := Boxes.start w
  have b1 := build_k
  have b2 := build_no
  have hie : s.toList.isEmpty = false := by simp [h0]
  have e1 : (s.toList == [110, 117, 108, 108]) = false := by simp [h1]
  have e2 : (s.toList == [116, 114, 117, 101]) = false := by simp [h2]
  have e3 : (s.toList == [102, 97, 108, 115, 101]) = false := by simp [h3]
  have e4 : (s.toList == [91, 93]) = false := by simp [h4]
  have e5 : (s.toList == [123, 125]) = false := by simp [h5]
  have Hg := Lib.hid (fun W => good_any s W)
  have Hn := Lib.hid (fun (W : World) (hW : Below w.heap.size w W) => vNum_any s W (hw.step hW) hg)
  rw [hg] at Hg
  clear hg hw
  generalize numT s = t at *
  go_enter Tryz.func9, Tryz.ntmps9
  go_wp2_with (first | go_skip | ((with_reducible refine gate_op (op := .alloc 26) rfl ?_); refine alloc_arm rfl 26 rfl (val_alloc _) ?_; intro wn hbn hgn; have hS1 := hS.new hbn hgn; clear hS hbn hgn; have hS := hS1; clear hS1) | (go_at_call 19; (with_reducible (refine (Hg.out _).mono ?_)); rintro e wn ⟨rfl, hbn⟩; have hS1 := hS.step hbn; clear hS hbn; have hS := hS1; clear hS1) | (go_at_call 20; (with_reducible (refine (Hn.out _ hS.below).mono ?_)); rintro e wn ⟨rfl, hbn⟩; have hS1 := hS.step hbn; clear hS hbn; have hS := hS1; clear hS1; unfold outV) | ((with_reducible refine gate_op (op := .store 26 (.tmp 2) (.tmp 30)) rfl ?_); refine wpList_store_row rfl 26 (.tmp 2) (.tmp 30) rfl _ (VT.c t) rfl rfl 26 _ (hS.at_ 0 rfl) (VT.val_info _) rfl (VT.c_one _) ?_; intro wn hbn hgn hon hsn; have hS1 := hS.put 0 rfl hon hbn hgn; clear hS hbn hgn hon hsn; have hS := hS1; clear hS1))
  exact bodyPost_ret (v := (.tuple #[.agg (VT.c t), .int .i64 0])) (results_row_tmp rfl _ _ _ _ _ _ _ _ rfl rfl (hS.at_ 0 rfl) Tryz.underlying26 rfl (VT.val_info _)) rfl ⟨rfl, hS.below⟩
set_option maxHeartbeats 1000000 in
theorem cv_s (hg : goodN s.data.toList = false) (hz : 0 < s.size) (h64 : ((s[0]'hz).toNat : Int) = 64) (R : ByteArray) (hR : s.extract 1 s.size = R) (hRs : R.size ≤ 9223372036854775807) (hb : stampB R = true) : Calls Tryz.prog 9 #[.string s] w fun e w' => e = .returned (.tuple #[.agg (VT.c (VT.leaf 7 0 R)), .int .i64 0]) ∧ Below w.heap.size w w' := by
  have hS := Boxes.start w
  have b1 := build_k
  have b2 := build_no
  have hie : s.toList.isEmpty = false := by simp [h0]
  have e1 : (s.toList == [110, 117, 108, 108]) = false := by simp [h1]
  have e2 : (s.toList == [116, 114, 117, 101]) = false := by simp [h2]
  have e3 : (s.toList == [102, 97, 108, 115, 101]) = false := by simp [h3]
  have e4 : (s.toList == [91, 93]) = false := by simp [h4]
  have e5 : (s.toList == [123, 125]) = false := by simp [h5]
  have Hg := Lib.hid (fun W => good_any s W)
  have Hn := Lib.hid (fun (W : World) => vStamp_any R W hRs)
  rw [hg] at Hg
  rw [hb] at Hn
  clear hg hb
  go_enter Tryz.func9, Tryz.ntmps9
  go_wp2_with (first | go_skip | ((with_reducible refine gate_op (op := .alloc 26) rfl ?_); refine alloc_arm rfl 26 rfl (val_alloc _) ?_; intro wn hbn hgn; have hS1 := hS.new hbn hgn; clear hS hbn hgn; have hS := hS1; clear hS1) | (go_at_call 19; (with_reducible (refine (Hg.out _).mono ?_)); rintro e wn ⟨rfl, hbn⟩; have hS1 := hS.step hbn; clear hS hbn; have hS := hS1; clear hS1) | (go_at_call 21; (with_reducible (refine (Hn.out _).mono ?_)); rintro e wn ⟨rfl, hbn⟩; have hS1 := hS.step hbn; clear hS hbn; have hS := hS1; clear hS1; unfold outV) | ((with_reducible refine gate_op (op := .store 26 (.tmp 4) (.tmp 40)) rfl ?_); refine wpList_store_row rfl 26 (.tmp 4) (.tmp 40) rfl _ (VT.c (VT.leaf 7 0 R)) rfl rfl 26 _ (hS.at_ 1 rfl) (VT.val_info _) rfl (VT.c_one _) ?_; intro wn hbn hgn hon hsn; have hS1 := hS.put 1 rfl hon hbn hgn; clear hS hbn hgn hon hsn; have hS := hS1; clear hS1) | ((with_reducible refine gate_op (op := .load 26 (.tmp 4)) rfl ?_); refine wpList_load_row' rfl 26 (.tmp 4) rfl _ rfl 26 _ (0, 0) _ (hS.at_ 1 rfl) Tryz.underlying26 rfl (VT.val_info _) ?_) | ((with_reducible refine gate_op (op := .store 26 (.tmp 2) (.tmp 45)) rfl ?_); refine wpList_store_row rfl 26 (.tmp 2) (.tmp 45) rfl _ (VT.c (VT.leaf 7 0 R)) rfl rfl 26 _ (hS.at_ 0 rfl) (VT.val_info _) rfl (VT.c_one _) ?_; intro wn hbn hgn hon hsn; have hS1 := hS.put 0 rfl hon hbn hgn; clear hS hbn hgn hon hsn; have hS := hS1; clear hS1))
  exact bodyPost_ret (v := (.tuple #[.agg (VT.c (VT.leaf 7 0 R)), .int .i64 0])) (results_row_tmp rfl _ _ _ _ _ _ _ _ rfl rfl (hS.at_ 0 rfl) Tryz.underlying26 rfl (VT.val_info _)) rfl ⟨rfl, hS.below⟩
set_option maxHeartbeats 1000000 in
theorem cv_t (hg : goodN s.data.toList = false) (hz : 0 < s.size) (h64 : ((s[0]'hz).toNat : Int) = 64) (R : ByteArray) (hR : s.extract 1 s.size = R) (hRs : R.size ≤ 9223372036854775807) (hb : stampB R = false) : Calls Tryz.prog 9 #[.string s] w fun e w' => e = .returned (.tuple #[.agg (VT.c .no), .int .i64 4]) ∧ Below w.heap.size w w' := by
  have hS := Boxes.start w
  have b1 := build_k
  have b2 := build_no
  have hie : s.toList.isEmpty = false := by simp [h0]
  have e1 : (s.toList == [110, 117, 108, 108]) = false := by simp [h1]
  have e2 : (s.toList == [116, 114, 117, 101]) = false := by simp [h2]
  have e3 : (s.toList == [102, 97, 108, 115, 101]) = false := by simp [h3]
  have e4 : (s.toList == [91, 93]) = false := by simp [h4]
  have e5 : (s.toList == [123, 125]) = false := by simp [h5]
  have Hg := Lib.hid (fun W => good_any s W)
  have Hn := Lib.hid (fun (W : World) => vStamp_any R W hRs)
  rw [hg] at Hg
  rw [hb] at Hn
  clear hg hb
  go_enter Tryz.func9, Tryz.ntmps9
  go_wp2_with (first | go_skip | ((with_reducible refine gate_op (op := .alloc 26) rfl ?_); refine alloc_arm rfl 26 rfl (val_alloc _) ?_; intro wn hbn hgn; have hS1 := hS.new hbn hgn; clear hS hbn hgn; have hS := hS1; clear hS1) | (go_at_call 19; (with_reducible (refine (Hg.out _).mono ?_)); rintro e wn ⟨rfl, hbn⟩; have hS1 := hS.step hbn; clear hS hbn; have hS := hS1; clear hS1) | (go_at_call 21; (with_reducible (refine (Hn.out _).mono ?_)); rintro e wn ⟨rfl, hbn⟩; have hS1 := hS.step hbn; clear hS hbn; have hS := hS1; clear hS1; unfold outV) | ((with_reducible refine gate_op (op := .store 26 (.tmp 4) (.tmp 40)) rfl ?_); refine wpList_store_row rfl 26 (.tmp 4) (.tmp 40) rfl _ (VT.c VT.no) rfl rfl 26 _ (hS.at_ 1 rfl) (VT.val_info _) rfl (VT.c_one _) ?_; intro wn hbn hgn hon hsn; have hS1 := hS.put 1 rfl hon hbn hgn; clear hS hbn hgn hon hsn; have hS := hS1; clear hS1) | ((with_reducible refine gate_op (op := .store 26 (.tmp 2) (.tmp 44)) rfl ?_); refine wpList_store_row rfl 26 (.tmp 2) (.tmp 44) rfl _ (VT.c VT.no) rfl rfl 26 _ (hS.at_ 0 rfl) (VT.val_info _) rfl (VT.c_one _) ?_; intro wn hbn hgn hon hsn; have hS1 := hS.put 0 rfl hon hbn hgn; clear hS hbn hgn hon hsn; have hS := hS1; clear hS1))
  exact bodyPost_ret (v := (.tuple #[.agg (VT.c .no), .int .i64 4])) (results_row_tmp rfl _ _ _ _ _ _ _ _ rfl rfl (hS.at_ 0 rfl) Tryz.underlying26 rfl (VT.val_info _)) rfl ⟨rfl, hS.below⟩
set_option maxHeartbeats 1000000 in
theorem cv_x (hg : goodN s.data.toList = false) (hz : 0 < s.size) (h64 : ¬ ((s[0]'hz).toNat : Int) = 64) (R : ByteArray) (hR : unq s = R) (hRs : R.size ≤ 9223372036854775807) (t : VT) (e0 : Int) (hb : strR R = (t, e0)) : Calls Tryz.prog 9 #[.string s] w fun e w' => e = .returned (.tuple #[.agg (VT.c t), .int .i64 e0]) ∧ Below w.heap.size w w' := by
  have hS := Boxes.start w
  have b1 := build_k
  have b2 := build_no
  have hie : s.toList.isEmpty = false := by simp [h0]
  have e1 : (s.toList == [110, 117, 108, 108]) = false := by simp [h1]
  have e2 : (s.toList == [116, 114, 117, 101]) = false := by simp [h2]
  have e3 : (s.toList == [102, 97, 108, 115, 101]) = false := by simp [h3]
  have e4 : (s.toList == [91, 93]) = false := by simp [h4]
  have e5 : (s.toList == [123, 125]) = false := by simp [h5]
  have Hg := Lib.hid (fun W => good_any s W)
  have Hn := Lib.hid (fun (W : World) => vStr_any R W hRs)
  have Ht := Lib.hid (fun (W : World) => Tryz.strings_TrimPrefix s ⟨#[39]⟩ W)
  rw [hg] at Hg
  rw [hb] at Hn
  change Hid (∀ W, Calls Tryz.prog 23 #[.string s, .string ⟨#[39]⟩] W fun e w' => e = .returned (.string (unq s)) ∧ w' = W) at Ht
  rw [hR] at Ht
  clear hg hb
  go_enter Tryz.func9, Tryz.ntmps9
  go_wp2_with (first | go_skip | ((with_reducible refine gate_op (op := .alloc 26) rfl ?_); refine alloc_arm rfl 26 rfl (val_alloc _) ?_; intro wn hbn hgn; have hS1 := hS.new hbn hgn; clear hS hbn hgn; have hS := hS1; clear hS1) | (go_at_call 19; (with_reducible (refine (Hg.out _).mono ?_)); rintro e wn ⟨rfl, hbn⟩; have hS1 := hS.step hbn; clear hS hbn; have hS := hS1; clear hS1) | (go_at_call 23; (with_reducible (refine (Ht.out _).mono ?_)); rintro e wt ⟨rfl, hwt⟩; rw [hwt]; clear hwt) | (go_at_call 22; (with_reducible (refine (Hn.out _).mono ?_)); rintro e wn ⟨rfl, hbn⟩; have hS1 := hS.step hbn; clear hS hbn; have hS := hS1; clear hS1; unfold outV) | ((with_reducible refine gate_op (op := .store 26 (.tmp 2) (.tmp 49)) rfl ?_); refine wpList_store_row rfl 26 (.tmp 2) (.tmp 49) rfl _ (VT.c t) rfl rfl 26 _ (hS.at_ 0 rfl) (VT.val_info _) rfl (VT.c_one _) ?_; intro wn hbn hgn hon hsn; have hS1 := hS.put 0 rfl hon hbn hgn; clear hS hbn hgn hon hsn; have hS := hS1; clear hS1))
  exact bodyPost_ret (v := (.tuple #[.agg (VT.c t), .int .i64 e0])) (results_row_tmp rfl _ _ _ _ _ _ _ _ rfl rfl (hS.at_ 0 rfl) Tryz.underlying26 rfl (VT.val_info _)) rfl ⟨rfl, hS.below⟩
end
end Go.Proofs.YtnapebgkcjnnbaaGreatDoor
