/-
  The reference's Cell, Number (of a cell), walked: what they tell is what is written here. No condition.
-/
import Derived.Test.YtnapebgkcjnnbaaGreatDoorCellAJ
import Derived.Test.YtnapebgkcjnnbaaGreatDoorRqIntJ
import Derived.Test.YtnapebgkcjnnbaaGreatDoorRqNumJ
import Derived.Test.YtnapebgkcjnnbaaGreatDoorJ13
import Derived.Test.YtnapebgkcjnnbaaGreatDoorJ14
namespace Go.Proofs.YtnapebgkcjnnbaaGreatDoor
open Go.RowKit
set_option linter.unusedVariables false
set_option linter.unusedSimpArgs false
set_option linter.unusedSectionVars false
set_option maxHeartbeats 1000000 in
theorem r8num_any (s : ByteArray) (w : World) (hs : s.size ≤ 9223372036854775807) : Calls Tryz.prog 25 #[.string s] w fun e w' => e = .returned (.agg (numT s).c) ∧ Below w.heap.size w w' := by
  have hS := Boxes.start w
  have b1 := build_k
  have b2 := build_no
  have b3 := build_ks
  have b4 := build_kn
  have hi := fun (W : World) => (rint_any s W hs).mono (fun e w' (h : e = .returned (.tuple #[.int .i64 ((intN s.data.toList).getD 0), .bool (intN s.data.toList).isSome]) ∧ w' = W) => (show e = .returned (.tuple #[.int .i64 ((intN s.data.toList).getD 0), .bool (intN s.data.toList).isSome]) ∧ Below W.heap.size W w' from ⟨h.1, h.2 ▸ Below.refl _ _⟩))
  unfold numT
  generalize (intN s.data.toList).getD 0 = n at *
  cases hx : (intN s.data.toList).isSome
  · rw [hx] at hi
    have HI := Lib.hid hi
    clear hi hx
    go_enter Tryz.func25, Tryz.ntmps25
    go_wp2_with (first | go_skip | ((with_reducible refine gate_op (op := .alloc 26) rfl ?_); refine alloc_arm rfl 26 rfl (val_alloc _) ?_; intro wn hbn hgn; have hS1 := hS.new hbn hgn; clear hS hbn hgn; have hS := hS1; clear hS1) | (go_at_call 39; (with_reducible (refine (HI.out _).mono ?_)); rintro e wn ⟨rfl, hbn⟩; have hS1 := hS.step hbn; clear hS hbn; have hS := hS1; clear hS1) | ((with_reducible refine gate_op (op := .store 26 (.tmp 2) (.tmp 14)) rfl ?_); refine wpList_store_row rfl 26 (.tmp 2) (.tmp 14) rfl _ (VT.c (VT.leaf 3 0 s)) rfl rfl 26 _ (hS.at_ 0 rfl) (VT.val_info _) rfl (VT.c_one _) ?_; intro wn hbn hgn hon hsn; have hS1 := hS.put 0 rfl hon hbn hgn; clear hS hbn hgn hon hsn; have hS := hS1; clear hS1))
    exact bodyPost_ret (v := .agg (VT.leaf 3 0 s).c) (results_cell_row rfl _ _ _ _ _ _ _ rfl (hS.at_ 0 rfl) Tryz.underlying26 rfl (VT.val_info _)) rfl ⟨rfl, hS.below⟩
  · rw [hx] at hi
    have HI := Lib.hid hi
    clear hi hx
    go_enter Tryz.func25, Tryz.ntmps25
    go_wp2_with (first | go_skip | ((with_reducible refine gate_op (op := .alloc 26) rfl ?_); refine alloc_arm rfl 26 rfl (val_alloc _) ?_; intro wn hbn hgn; have hS1 := hS.new hbn hgn; clear hS hbn hgn; have hS := hS1; clear hS1) | (go_at_call 39; (with_reducible (refine (HI.out _).mono ?_)); rintro e wn ⟨rfl, hbn⟩; have hS1 := hS.step hbn; clear hS hbn; have hS := hS1; clear hS1) | ((with_reducible refine gate_op (op := .store 26 (.tmp 2) (.tmp 12)) rfl ?_); refine wpList_store_row rfl 26 (.tmp 2) (.tmp 12) rfl _ (VT.c (VT.leaf 2 n ⟨#[]⟩)) rfl rfl 26 _ (hS.at_ 0 rfl) (VT.val_info _) rfl (VT.c_one _) ?_; intro wn hbn hgn hon hsn; have hS1 := hS.put 0 rfl hon hbn hgn; clear hS hbn hgn hon hsn; have hS := hS1; clear hS1))
    exact bodyPost_ret (v := .agg (VT.leaf 2 n ⟨#[]⟩).c) (results_cell_row rfl _ _ _ _ _ _ _ rfl (hS.at_ 0 rfl) Tryz.underlying26 rfl (VT.val_info _)) rfl ⟨rfl, hS.below⟩
set_option maxHeartbeats 1000000 in
theorem rc_0 (s : ByteArray) (w : World) (h0 : (s.toList = [])) : Calls Tryz.prog 10 #[.string s] w fun e w' => e = .returned (.tuple #[.agg (VT.c .no), .int .i64 9]) ∧ Below w.heap.size w w' := by
  have hS := Boxes.start w
  have b1 := build_k
  have b2 := build_no
  have b3 := build_ks
  have b4 := build_kn
  go_enter Tryz.func10, Tryz.ntmps10
  go_wp2_with (first | go_skip | ((with_reducible refine gate_op (op := .alloc 26) rfl ?_); refine alloc_arm rfl 26 rfl (val_alloc _) ?_; intro wn hbn hgn; have hS1 := hS.new hbn hgn; clear hS hbn hgn; have hS := hS1; clear hS1) | ((with_reducible refine gate_op (op := .store 26 (.tmp 2) (.tmp 7)) rfl ?_); refine wpList_store_row rfl 26 (.tmp 2) (.tmp 7) rfl _ (VT.c VT.no) rfl rfl 26 _ (hS.at_ 0 rfl) (VT.val_info _) rfl (VT.c_one _) ?_; intro wn hbn hgn hon hsn; have hS1 := hS.put 0 rfl hon hbn hgn; clear hS hbn hgn hon hsn; have hS := hS1; clear hS1))
  exact bodyPost_ret (v := (.tuple #[.agg (VT.c .no), .int .i64 9])) (results_row_tmp rfl _ _ _ _ _ _ _ _ rfl rfl (hS.at_ 0 rfl) Tryz.underlying26 rfl (VT.val_info _)) rfl ⟨rfl, hS.below⟩
set_option maxHeartbeats 1000000 in
theorem rc_1 (s : ByteArray) (w : World) (h1 : (s.toList = [110, 117, 108, 108])) : Calls Tryz.prog 10 #[.string s] w fun e w' => e = .returned (.tuple #[.agg (VT.c .no), .int .i64 0]) ∧ Below w.heap.size w w' := by
  have hS := Boxes.start w
  have b1 := build_k
  have b2 := build_no
  have b3 := build_ks
  have b4 := build_kn
  go_enter Tryz.func10, Tryz.ntmps10
  go_wp2_with (first | go_skip | ((with_reducible refine gate_op (op := .alloc 26) rfl ?_); refine alloc_arm rfl 26 rfl (val_alloc _) ?_; intro wn hbn hgn; have hS1 := hS.new hbn hgn; clear hS hbn hgn; have hS := hS1; clear hS1) | ((with_reducible refine gate_op (op := .store 26 (.tmp 2) (.tmp 10)) rfl ?_); refine wpList_store_row rfl 26 (.tmp 2) (.tmp 10) rfl _ (VT.c VT.no) rfl rfl 26 _ (hS.at_ 0 rfl) (VT.val_info _) rfl (VT.c_one _) ?_; intro wn hbn hgn hon hsn; have hS1 := hS.put 0 rfl hon hbn hgn; clear hS hbn hgn hon hsn; have hS := hS1; clear hS1))
  exact bodyPost_ret (v := (.tuple #[.agg (VT.c .no), .int .i64 0])) (results_row_tmp rfl _ _ _ _ _ _ _ _ rfl rfl (hS.at_ 0 rfl) Tryz.underlying26 rfl (VT.val_info _)) rfl ⟨rfl, hS.below⟩
set_option maxHeartbeats 1000000 in
theorem rc_2 (s : ByteArray) (w : World) (h2 : (s.toList = [116, 114, 117, 101])) : Calls Tryz.prog 10 #[.string s] w fun e w' => e = .returned (.tuple #[.agg (VT.c (VT.leaf 1 1 ⟨#[]⟩)), .int .i64 0]) ∧ Below w.heap.size w w' := by
  have hS := Boxes.start w
  have b1 := build_k
  have b2 := build_no
  have b3 := build_ks
  have b4 := build_kn
  go_enter Tryz.func10, Tryz.ntmps10
  go_wp2_with (first | go_skip | ((with_reducible refine gate_op (op := .alloc 26) rfl ?_); refine alloc_arm rfl 26 rfl (val_alloc _) ?_; intro wn hbn hgn; have hS1 := hS.new hbn hgn; clear hS hbn hgn; have hS := hS1; clear hS1) | ((with_reducible refine gate_op (op := .store 26 (.tmp 2) (.tmp 13)) rfl ?_); refine wpList_store_row rfl 26 (.tmp 2) (.tmp 13) rfl _ (VT.c (VT.leaf 1 1 ⟨#[]⟩)) rfl rfl 26 _ (hS.at_ 0 rfl) (VT.val_info _) rfl (VT.c_one _) ?_; intro wn hbn hgn hon hsn; have hS1 := hS.put 0 rfl hon hbn hgn; clear hS hbn hgn hon hsn; have hS := hS1; clear hS1))
  exact bodyPost_ret (v := (.tuple #[.agg (VT.c (VT.leaf 1 1 ⟨#[]⟩)), .int .i64 0])) (results_row_tmp rfl _ _ _ _ _ _ _ _ rfl rfl (hS.at_ 0 rfl) Tryz.underlying26 rfl (VT.val_info _)) rfl ⟨rfl, hS.below⟩
set_option maxHeartbeats 1000000 in
theorem rc_3 (s : ByteArray) (w : World) (h3 : (s.toList = [102, 97, 108, 115, 101])) : Calls Tryz.prog 10 #[.string s] w fun e w' => e = .returned (.tuple #[.agg (VT.c (VT.leaf 1 0 ⟨#[]⟩)), .int .i64 0]) ∧ Below w.heap.size w w' := by
  have hS := Boxes.start w
  have b1 := build_k
  have b2 := build_no
  have b3 := build_ks
  have b4 := build_kn
  go_enter Tryz.func10, Tryz.ntmps10
  go_wp2_with (first | go_skip | ((with_reducible refine gate_op (op := .alloc 26) rfl ?_); refine alloc_arm rfl 26 rfl (val_alloc _) ?_; intro wn hbn hgn; have hS1 := hS.new hbn hgn; clear hS hbn hgn; have hS := hS1; clear hS1) | ((with_reducible refine gate_op (op := .store 26 (.tmp 2) (.tmp 16)) rfl ?_); refine wpList_store_row rfl 26 (.tmp 2) (.tmp 16) rfl _ (VT.c (VT.leaf 1 0 ⟨#[]⟩)) rfl rfl 26 _ (hS.at_ 0 rfl) (VT.val_info _) rfl (VT.c_one _) ?_; intro wn hbn hgn hon hsn; have hS1 := hS.put 0 rfl hon hbn hgn; clear hS hbn hgn hon hsn; have hS := hS1; clear hS1))
  exact bodyPost_ret (v := (.tuple #[.agg (VT.c (VT.leaf 1 0 ⟨#[]⟩)), .int .i64 0])) (results_row_tmp rfl _ _ _ _ _ _ _ _ rfl rfl (hS.at_ 0 rfl) Tryz.underlying26 rfl (VT.val_info _)) rfl ⟨rfl, hS.below⟩
set_option maxHeartbeats 1000000 in
theorem rc_4 (s : ByteArray) (w : World) (h4 : (s.toList = [91, 93])) : Calls Tryz.prog 10 #[.string s] w fun e w' => e = .returned (.tuple #[.agg (VT.c (VT.leaf 5 0 ⟨#[]⟩)), .int .i64 0]) ∧ Below w.heap.size w w' := by
  have hS := Boxes.start w
  have b1 := build_k
  have b2 := build_no
  have b3 := build_ks
  have b4 := build_kn
  go_enter Tryz.func10, Tryz.ntmps10
  go_wp2_with (first | go_skip | ((with_reducible refine gate_op (op := .alloc 26) rfl ?_); refine alloc_arm rfl 26 rfl (val_alloc _) ?_; intro wn hbn hgn; have hS1 := hS.new hbn hgn; clear hS hbn hgn; have hS := hS1; clear hS1) | ((with_reducible refine gate_op (op := .store 26 (.tmp 2) (.tmp 19)) rfl ?_); refine wpList_store_row rfl 26 (.tmp 2) (.tmp 19) rfl _ (VT.c (VT.leaf 5 0 ⟨#[]⟩)) rfl rfl 26 _ (hS.at_ 0 rfl) (VT.val_info _) rfl (VT.c_one _) ?_; intro wn hbn hgn hon hsn; have hS1 := hS.put 0 rfl hon hbn hgn; clear hS hbn hgn hon hsn; have hS := hS1; clear hS1))
  exact bodyPost_ret (v := (.tuple #[.agg (VT.c (VT.leaf 5 0 ⟨#[]⟩)), .int .i64 0])) (results_row_tmp rfl _ _ _ _ _ _ _ _ rfl rfl (hS.at_ 0 rfl) Tryz.underlying26 rfl (VT.val_info _)) rfl ⟨rfl, hS.below⟩
set_option maxHeartbeats 1000000 in
theorem rc_5 (s : ByteArray) (w : World) (h5 : (s.toList = [123, 125])) : Calls Tryz.prog 10 #[.string s] w fun e w' => e = .returned (.tuple #[.agg (VT.c (VT.leaf 6 0 ⟨#[]⟩)), .int .i64 0]) ∧ Below w.heap.size w w' := by
  have hS := Boxes.start w
  have b1 := build_k
  have b2 := build_no
  have b3 := build_ks
  have b4 := build_kn
  go_enter Tryz.func10, Tryz.ntmps10
  go_wp2_with (first | go_skip | ((with_reducible refine gate_op (op := .alloc 26) rfl ?_); refine alloc_arm rfl 26 rfl (val_alloc _) ?_; intro wn hbn hgn; have hS1 := hS.new hbn hgn; clear hS hbn hgn; have hS := hS1; clear hS1) | ((with_reducible refine gate_op (op := .store 26 (.tmp 2) (.tmp 22)) rfl ?_); refine wpList_store_row rfl 26 (.tmp 2) (.tmp 22) rfl _ (VT.c (VT.leaf 6 0 ⟨#[]⟩)) rfl rfl 26 _ (hS.at_ 0 rfl) (VT.val_info _) rfl (VT.c_one _) ?_; intro wn hbn hgn hon hsn; have hS1 := hS.put 0 rfl hon hbn hgn; clear hS hbn hgn hon hsn; have hS := hS1; clear hS1))
  exact bodyPost_ret (v := (.tuple #[.agg (VT.c (VT.leaf 6 0 ⟨#[]⟩)), .int .i64 0])) (results_row_tmp rfl _ _ _ _ _ _ _ _ rfl rfl (hS.at_ 0 rfl) Tryz.underlying26 rfl (VT.val_info _)) rfl ⟨rfl, hS.below⟩
section
variable (s : ByteArray) (w : World) (hs : s.size ≤ 9223372036854775807) (h0 : ¬ (s.toList = [])) (h1 : ¬ (s.toList = [110, 117, 108, 108])) (h2 : ¬ (s.toList = [116, 114, 117, 101])) (h3 : ¬ (s.toList = [102, 97, 108, 115, 101])) (h4 : ¬ (s.toList = [91, 93])) (h5 : ¬ (s.toList = [123, 125]))
include hs h0 h1 h2 h3 h4 h5
set_option maxHeartbeats 1000000 in
theorem rc_n (hg : goodN s.data.toList = true) : Calls Tryz.prog 10 #[.string s] w fun e w' => e = .returned (.tuple #[.agg (VT.c (numT s)), .int .i64 0]) ∧ Below w.heap.size w w' := by
  have hS := Boxes.start w
  have b1 := build_k
  have b2 := build_no
  have b3 := build_ks
  have b4 := build_kn
  have hie : s.toList.isEmpty = false := by simp [h0]
  have e1 : (s.toList == [110, 117, 108, 108]) = false := by simp [h1]
  have e2 : (s.toList == [116, 114, 117, 101]) = false := by simp [h2]
  have e3 : (s.toList == [102, 97, 108, 115, 101]) = false := by simp [h3]
  have e4 : (s.toList == [91, 93]) = false := by simp [h4]
  have e5 : (s.toList == [123, 125]) = false := by simp [h5]
  have Hg := Lib.hid (fun W => (number_any s W hs).mono (fun e w' (h : e = .returned (.bool (goodN s.data.toList)) ∧ w' = W) => (show e = .returned (.bool (goodN s.data.toList)) ∧ Below W.heap.size W w' from ⟨h.1, h.2 ▸ Below.refl _ _⟩)))
  rw [hg] at Hg
  have Hn := Lib.hid (fun W => r8num_any s W hs)
  generalize numT s = t at *
  clear hg
  go_enter Tryz.func10, Tryz.ntmps10
  go_wp2_with (first | go_skip | ((with_reducible refine gate_op (op := .alloc 26) rfl ?_); refine alloc_arm rfl 26 rfl (val_alloc _) ?_; intro wn hbn hgn; have hS1 := hS.new hbn hgn; clear hS hbn hgn; have hS := hS1; clear hS1) | (go_at_call 24; (with_reducible (refine (Hg.out _).mono ?_)); rintro e wn ⟨rfl, hbn⟩; have hS1 := hS.step hbn; clear hS hbn; have hS := hS1; clear hS1) | (go_at_call 25; (with_reducible (refine (Hn.out _).mono ?_)); rintro e wn ⟨rfl, hbn⟩; have hS1 := hS.step hbn; clear hS hbn; have hS := hS1; clear hS1) | ((with_reducible refine gate_op (op := .store 26 (.tmp 2) (.tmp 26)) rfl ?_); refine wpList_store_row rfl 26 (.tmp 2) (.tmp 26) rfl _ (VT.c t) rfl rfl 26 _ (hS.at_ 0 rfl) (VT.val_info _) rfl (VT.c_one _) ?_; intro wn hbn hgn hon hsn; have hS1 := hS.put 0 rfl hon hbn hgn; clear hS hbn hgn hon hsn; have hS := hS1; clear hS1))
  exact bodyPost_ret (v := (.tuple #[.agg (VT.c t), .int .i64 0])) (results_row_tmp rfl _ _ _ _ _ _ _ _ rfl rfl (hS.at_ 0 rfl) Tryz.underlying26 rfl (VT.val_info _)) rfl ⟨rfl, hS.below⟩
set_option maxHeartbeats 1000000 in
theorem rc_s (hg : goodN s.data.toList = false) (hz : 0 < s.size) (h64 : ((s[0]'hz).toNat : Int) = 64) (R : ByteArray) (hR : s.extract 1 s.size = R) (hRs : R.size ≤ 9223372036854775807) (hb : stampB R = true) : Calls Tryz.prog 10 #[.string s] w fun e w' => e = .returned (.tuple #[.agg (VT.c (VT.leaf 7 0 R)), .int .i64 0]) ∧ Below w.heap.size w w' := by
  have hS := Boxes.start w
  have b1 := build_k
  have b2 := build_no
  have b3 := build_ks
  have b4 := build_kn
  have hie : s.toList.isEmpty = false := by simp [h0]
  have e1 : (s.toList == [110, 117, 108, 108]) = false := by simp [h1]
  have e2 : (s.toList == [116, 114, 117, 101]) = false := by simp [h2]
  have e3 : (s.toList == [102, 97, 108, 115, 101]) = false := by simp [h3]
  have e4 : (s.toList == [91, 93]) = false := by simp [h4]
  have e5 : (s.toList == [123, 125]) = false := by simp [h5]
  have Hg := Lib.hid (fun W => (number_any s W hs).mono (fun e w' (h : e = .returned (.bool (goodN s.data.toList)) ∧ w' = W) => (show e = .returned (.bool (goodN s.data.toList)) ∧ Below W.heap.size W w' from ⟨h.1, h.2 ▸ Below.refl _ _⟩)))
  rw [hg] at Hg
  have Hn := Lib.hid (fun W => rstamp_any R W hRs)
  rw [hb] at Hn
  clear hb
  clear hg
  go_enter Tryz.func10, Tryz.ntmps10
  go_wp2_with (first | go_skip | ((with_reducible refine gate_op (op := .alloc 26) rfl ?_); refine alloc_arm rfl 26 rfl (val_alloc _) ?_; intro wn hbn hgn; have hS1 := hS.new hbn hgn; clear hS hbn hgn; have hS := hS1; clear hS1) | (go_at_call 24; (with_reducible (refine (Hg.out _).mono ?_)); rintro e wn ⟨rfl, hbn⟩; have hS1 := hS.step hbn; clear hS hbn; have hS := hS1; clear hS1) | (go_at_call 26; (with_reducible (refine (Hn.out _).mono ?_)); rintro e wn ⟨rfl, hbn⟩; have hS1 := hS.step hbn; clear hS hbn; have hS := hS1; clear hS1) | ((with_reducible refine gate_op (op := .store 26 (.tmp 2) (.tmp 37)) rfl ?_); refine wpList_store_row rfl 26 (.tmp 2) (.tmp 37) rfl _ (VT.c (VT.leaf 7 0 R)) rfl rfl 26 _ (hS.at_ 0 rfl) (VT.val_info _) rfl (VT.c_one _) ?_; intro wn hbn hgn hon hsn; have hS1 := hS.put 0 rfl hon hbn hgn; clear hS hbn hgn hon hsn; have hS := hS1; clear hS1))
  exact bodyPost_ret (v := (.tuple #[.agg (VT.c (VT.leaf 7 0 R)), .int .i64 0])) (results_row_tmp rfl _ _ _ _ _ _ _ _ rfl rfl (hS.at_ 0 rfl) Tryz.underlying26 rfl (VT.val_info _)) rfl ⟨rfl, hS.below⟩
set_option maxHeartbeats 1000000 in
theorem rc_t (hg : goodN s.data.toList = false) (hz : 0 < s.size) (h64 : ((s[0]'hz).toNat : Int) = 64) (R : ByteArray) (hR : s.extract 1 s.size = R) (hRs : R.size ≤ 9223372036854775807) (hb : stampB R = false) : Calls Tryz.prog 10 #[.string s] w fun e w' => e = .returned (.tuple #[.agg (VT.c .no), .int .i64 4]) ∧ Below w.heap.size w w' := by
  have hS := Boxes.start w
  have b1 := build_k
  have b2 := build_no
  have b3 := build_ks
  have b4 := build_kn
  have hie : s.toList.isEmpty = false := by simp [h0]
  have e1 : (s.toList == [110, 117, 108, 108]) = false := by simp [h1]
  have e2 : (s.toList == [116, 114, 117, 101]) = false := by simp [h2]
  have e3 : (s.toList == [102, 97, 108, 115, 101]) = false := by simp [h3]
  have e4 : (s.toList == [91, 93]) = false := by simp [h4]
  have e5 : (s.toList == [123, 125]) = false := by simp [h5]
  have Hg := Lib.hid (fun W => (number_any s W hs).mono (fun e w' (h : e = .returned (.bool (goodN s.data.toList)) ∧ w' = W) => (show e = .returned (.bool (goodN s.data.toList)) ∧ Below W.heap.size W w' from ⟨h.1, h.2 ▸ Below.refl _ _⟩)))
  rw [hg] at Hg
  have Hn := Lib.hid (fun W => rstamp_any R W hRs)
  rw [hb] at Hn
  clear hb
  clear hg
  go_enter Tryz.func10, Tryz.ntmps10
  go_wp2_with (first | go_skip | ((with_reducible refine gate_op (op := .alloc 26) rfl ?_); refine alloc_arm rfl 26 rfl (val_alloc _) ?_; intro wn hbn hgn; have hS1 := hS.new hbn hgn; clear hS hbn hgn; have hS := hS1; clear hS1) | (go_at_call 24; (with_reducible (refine (Hg.out _).mono ?_)); rintro e wn ⟨rfl, hbn⟩; have hS1 := hS.step hbn; clear hS hbn; have hS := hS1; clear hS1) | (go_at_call 26; (with_reducible (refine (Hn.out _).mono ?_)); rintro e wn ⟨rfl, hbn⟩; have hS1 := hS.step hbn; clear hS hbn; have hS := hS1; clear hS1) | ((with_reducible refine gate_op (op := .store 26 (.tmp 2) (.tmp 34)) rfl ?_); refine wpList_store_row rfl 26 (.tmp 2) (.tmp 34) rfl _ (VT.c VT.no) rfl rfl 26 _ (hS.at_ 0 rfl) (VT.val_info _) rfl (VT.c_one _) ?_; intro wn hbn hgn hon hsn; have hS1 := hS.put 0 rfl hon hbn hgn; clear hS hbn hgn hon hsn; have hS := hS1; clear hS1))
  exact bodyPost_ret (v := (.tuple #[.agg (VT.c .no), .int .i64 4])) (results_row_tmp rfl _ _ _ _ _ _ _ _ rfl rfl (hS.at_ 0 rfl) Tryz.underlying26 rfl (VT.val_info _)) rfl ⟨rfl, hS.below⟩
set_option maxHeartbeats 1000000 in
theorem rc_a3 (hg : goodN s.data.toList = false) (hz : 0 < s.size) (h64 : ¬ ((s[0]'hz).toNat : Int) = 64) (h39 : ((s[0]'hz).toNat : Int) = 39) (R : ByteArray) (hR : s.extract 1 s.size = R) (hRs : R.size ≤ 9223372036854775807) (hv : 0 ≤ rV (validS R)) : Calls Tryz.prog 10 #[.string s] w fun e w' => e = .returned (.tuple #[.agg (VT.c .no), .int .i64 3]) ∧ Below w.heap.size w w' := by
  have hS := Boxes.start w
  have b1 := build_k
  have b2 := build_no
  have b3 := build_ks
  have b4 := build_kn
  have hie : s.toList.isEmpty = false := by simp [h0]
  have e1 : (s.toList == [110, 117, 108, 108]) = false := by simp [h1]
  have e2 : (s.toList == [116, 114, 117, 101]) = false := by simp [h2]
  have e3 : (s.toList == [102, 97, 108, 115, 101]) = false := by simp [h3]
  have e4 : (s.toList == [91, 93]) = false := by simp [h4]
  have e5 : (s.toList == [123, 125]) = false := by simp [h5]
  have Hg := Lib.hid (fun W => (number_any s W hs).mono (fun e w' (h : e = .returned (.bool (goodN s.data.toList)) ∧ w' = W) => (show e = .returned (.bool (goodN s.data.toList)) ∧ Below W.heap.size W w' from ⟨h.1, h.2 ▸ Below.refl _ _⟩)))
  rw [hg] at Hg
  have Hn := Lib.hid (fun W => rvalid_any R W hRs)
  generalize rV (validS R) = x at *
  clear hg
  go_enter Tryz.func10, Tryz.ntmps10
  go_wp2_with (first | go_skip | ((with_reducible refine gate_op (op := .alloc 26) rfl ?_); refine alloc_arm rfl 26 rfl (val_alloc _) ?_; intro wn hbn hgn; have hS1 := hS.new hbn hgn; clear hS hbn hgn; have hS := hS1; clear hS1) | (go_at_call 24; (with_reducible (refine (Hg.out _).mono ?_)); rintro e wn ⟨rfl, hbn⟩; have hS1 := hS.step hbn; clear hS hbn; have hS := hS1; clear hS1) | (go_at_call 27; (with_reducible (refine (Hn.out _).mono ?_)); rintro e wn ⟨rfl, hbn⟩; have hS1 := hS.step hbn; clear hS hbn; have hS := hS1; clear hS1) | ((with_reducible refine gate_op (op := .store 26 (.tmp 2) (.tmp 47)) rfl ?_); refine wpList_store_row rfl 26 (.tmp 2) (.tmp 47) rfl _ (VT.c VT.no) rfl rfl 26 _ (hS.at_ 0 rfl) (VT.val_info _) rfl (VT.c_one _) ?_; intro wn hbn hgn hon hsn; have hS1 := hS.put 0 rfl hon hbn hgn; clear hS hbn hgn hon hsn; have hS := hS1; clear hS1))
  exact bodyPost_ret (v := (.tuple #[.agg (VT.c .no), .int .i64 3])) (results_row_tmp rfl _ _ _ _ _ _ _ _ rfl rfl (hS.at_ 0 rfl) Tryz.underlying26 rfl (VT.val_info _)) rfl ⟨rfl, hS.below⟩
set_option maxHeartbeats 1000000 in
theorem rc_a2 (hg : goodN s.data.toList = false) (hz : 0 < s.size) (h64 : ¬ ((s[0]'hz).toNat : Int) = 64) (h39 : ((s[0]'hz).toNat : Int) = 39) (R : ByteArray) (hR : s.extract 1 s.size = R) (hRs : R.size ≤ 9223372036854775807) (hv : ¬ 0 ≤ rV (validS R)) (hl : 4096 < (R.size : Int)) : Calls Tryz.prog 10 #[.string s] w fun e w' => e = .returned (.tuple #[.agg (VT.c .no), .int .i64 2]) ∧ Below w.heap.size w w' := by
  have hS := Boxes.start w
  have b1 := build_k
  have b2 := build_no
  have b3 := build_ks
  have b4 := build_kn
  have hie : s.toList.isEmpty = false := by simp [h0]
  have e1 : (s.toList == [110, 117, 108, 108]) = false := by simp [h1]
  have e2 : (s.toList == [116, 114, 117, 101]) = false := by simp [h2]
  have e3 : (s.toList == [102, 97, 108, 115, 101]) = false := by simp [h3]
  have e4 : (s.toList == [91, 93]) = false := by simp [h4]
  have e5 : (s.toList == [123, 125]) = false := by simp [h5]
  have Hg := Lib.hid (fun W => (number_any s W hs).mono (fun e w' (h : e = .returned (.bool (goodN s.data.toList)) ∧ w' = W) => (show e = .returned (.bool (goodN s.data.toList)) ∧ Below W.heap.size W w' from ⟨h.1, h.2 ▸ Below.refl _ _⟩)))
  rw [hg] at Hg
  have Hn := Lib.hid (fun W => rvalid_any R W hRs)
  generalize rV (validS R) = x at *
  clear hg
  go_enter Tryz.func10, Tryz.ntmps10
  go_wp2_with (first | go_skip | ((with_reducible refine gate_op (op := .alloc 26) rfl ?_); refine alloc_arm rfl 26 rfl (val_alloc _) ?_; intro wn hbn hgn; have hS1 := hS.new hbn hgn; clear hS hbn hgn; have hS := hS1; clear hS1) | (go_at_call 24; (with_reducible (refine (Hg.out _).mono ?_)); rintro e wn ⟨rfl, hbn⟩; have hS1 := hS.step hbn; clear hS hbn; have hS := hS1; clear hS1) | (go_at_call 27; (with_reducible (refine (Hn.out _).mono ?_)); rintro e wn ⟨rfl, hbn⟩; have hS1 := hS.step hbn; clear hS hbn; have hS := hS1; clear hS1) | ((with_reducible refine gate_op (op := .store 26 (.tmp 2) (.tmp 52)) rfl ?_); refine wpList_store_row rfl 26 (.tmp 2) (.tmp 52) rfl _ (VT.c VT.no) rfl rfl 26 _ (hS.at_ 0 rfl) (VT.val_info _) rfl (VT.c_one _) ?_; intro wn hbn hgn hon hsn; have hS1 := hS.put 0 rfl hon hbn hgn; clear hS hbn hgn hon hsn; have hS := hS1; clear hS1))
  exact bodyPost_ret (v := (.tuple #[.agg (VT.c .no), .int .i64 2])) (results_row_tmp rfl _ _ _ _ _ _ _ _ rfl rfl (hS.at_ 0 rfl) Tryz.underlying26 rfl (VT.val_info _)) rfl ⟨rfl, hS.below⟩
set_option maxHeartbeats 1000000 in
theorem rc_a0 (hg : goodN s.data.toList = false) (hz : 0 < s.size) (h64 : ¬ ((s[0]'hz).toNat : Int) = 64) (h39 : ((s[0]'hz).toNat : Int) = 39) (R : ByteArray) (hR : s.extract 1 s.size = R) (hRs : R.size ≤ 9223372036854775807) (hv : ¬ 0 ≤ rV (validS R)) (hl : ¬ 4096 < (R.size : Int)) : Calls Tryz.prog 10 #[.string s] w fun e w' => e = .returned (.tuple #[.agg (VT.c (VT.leaf 4 0 R)), .int .i64 0]) ∧ Below w.heap.size w w' := by
  have hS := Boxes.start w
  have b1 := build_k
  have b2 := build_no
  have b3 := build_ks
  have b4 := build_kn
  have hie : s.toList.isEmpty = false := by simp [h0]
  have e1 : (s.toList == [110, 117, 108, 108]) = false := by simp [h1]
  have e2 : (s.toList == [116, 114, 117, 101]) = false := by simp [h2]
  have e3 : (s.toList == [102, 97, 108, 115, 101]) = false := by simp [h3]
  have e4 : (s.toList == [91, 93]) = false := by simp [h4]
  have e5 : (s.toList == [123, 125]) = false := by simp [h5]
  have Hg := Lib.hid (fun W => (number_any s W hs).mono (fun e w' (h : e = .returned (.bool (goodN s.data.toList)) ∧ w' = W) => (show e = .returned (.bool (goodN s.data.toList)) ∧ Below W.heap.size W w' from ⟨h.1, h.2 ▸ Below.refl _ _⟩)))
  rw [hg] at Hg
  have Hn := Lib.hid (fun W => rvalid_any R W hRs)
  generalize rV (validS R) = x at *
  clear hg
  go_enter Tryz.func10, Tryz.ntmps10
  go_wp2_with (first | go_skip | ((with_reducible refine gate_op (op := .alloc 26) rfl ?_); refine alloc_arm rfl 26 rfl (val_alloc _) ?_; intro wn hbn hgn; have hS1 := hS.new hbn hgn; clear hS hbn hgn; have hS := hS1; clear hS1) | (go_at_call 24; (with_reducible (refine (Hg.out _).mono ?_)); rintro e wn ⟨rfl, hbn⟩; have hS1 := hS.step hbn; clear hS hbn; have hS := hS1; clear hS1) | (go_at_call 27; (with_reducible (refine (Hn.out _).mono ?_)); rintro e wn ⟨rfl, hbn⟩; have hS1 := hS.step hbn; clear hS hbn; have hS := hS1; clear hS1) | ((with_reducible refine gate_op (op := .store 26 (.tmp 2) (.tmp 54)) rfl ?_); refine wpList_store_row rfl 26 (.tmp 2) (.tmp 54) rfl _ (VT.c (VT.leaf 4 0 R)) rfl rfl 26 _ (hS.at_ 0 rfl) (VT.val_info _) rfl (VT.c_one _) ?_; intro wn hbn hgn hon hsn; have hS1 := hS.put 0 rfl hon hbn hgn; clear hS hbn hgn hon hsn; have hS := hS1; clear hS1))
  exact bodyPost_ret (v := (.tuple #[.agg (VT.c (VT.leaf 4 0 R)), .int .i64 0])) (results_row_tmp rfl _ _ _ _ _ _ _ _ rfl rfl (hS.at_ 0 rfl) Tryz.underlying26 rfl (VT.val_info _)) rfl ⟨rfl, hS.below⟩
set_option maxHeartbeats 1000000 in
theorem rc_b3 (hg : goodN s.data.toList = false) (hz : 0 < s.size) (h64 : ¬ ((s[0]'hz).toNat : Int) = 64) (h39 : ¬ ((s[0]'hz).toNat : Int) = 39) (R : ByteArray) (hR : R = s) (hRs : R.size ≤ 9223372036854775807) (hv : 0 ≤ rV (validS R)) : Calls Tryz.prog 10 #[.string s] w fun e w' => e = .returned (.tuple #[.agg (VT.c .no), .int .i64 3]) ∧ Below w.heap.size w w' := by
  have hS := Boxes.start w
  have b1 := build_k
  have b2 := build_no
  have b3 := build_ks
  have b4 := build_kn
  have hie : s.toList.isEmpty = false := by simp [h0]
  have e1 : (s.toList == [110, 117, 108, 108]) = false := by simp [h1]
  have e2 : (s.toList == [116, 114, 117, 101]) = false := by simp [h2]
  have e3 : (s.toList == [102, 97, 108, 115, 101]) = false := by simp [h3]
  have e4 : (s.toList == [91, 93]) = false := by simp [h4]
  have e5 : (s.toList == [123, 125]) = false := by simp [h5]
  have Hg := Lib.hid (fun W => (number_any s W hs).mono (fun e w' (h : e = .returned (.bool (goodN s.data.toList)) ∧ w' = W) => (show e = .returned (.bool (goodN s.data.toList)) ∧ Below W.heap.size W w' from ⟨h.1, h.2 ▸ Below.refl _ _⟩)))
  rw [hg] at Hg
  have Hn := Lib.hid (fun W => rvalid_any R W hRs)
  generalize rV (validS R) = x at *
  subst hR
  clear hg
  go_enter Tryz.func10, Tryz.ntmps10
  go_wp2_with (first | go_skip | ((with_reducible refine gate_op (op := .alloc 26) rfl ?_); refine alloc_arm rfl 26 rfl (val_alloc _) ?_; intro wn hbn hgn; have hS1 := hS.new hbn hgn; clear hS hbn hgn; have hS := hS1; clear hS1) | (go_at_call 24; (with_reducible (refine (Hg.out _).mono ?_)); rintro e wn ⟨rfl, hbn⟩; have hS1 := hS.step hbn; clear hS hbn; have hS := hS1; clear hS1) | (go_at_call 27; (with_reducible (refine (Hn.out _).mono ?_)); rintro e wn ⟨rfl, hbn⟩; have hS1 := hS.step hbn; clear hS hbn; have hS := hS1; clear hS1) | ((with_reducible refine gate_op (op := .store 26 (.tmp 2) (.tmp 47)) rfl ?_); refine wpList_store_row rfl 26 (.tmp 2) (.tmp 47) rfl _ (VT.c VT.no) rfl rfl 26 _ (hS.at_ 0 rfl) (VT.val_info _) rfl (VT.c_one _) ?_; intro wn hbn hgn hon hsn; have hS1 := hS.put 0 rfl hon hbn hgn; clear hS hbn hgn hon hsn; have hS := hS1; clear hS1))
  exact bodyPost_ret (v := (.tuple #[.agg (VT.c .no), .int .i64 3])) (results_row_tmp rfl _ _ _ _ _ _ _ _ rfl rfl (hS.at_ 0 rfl) Tryz.underlying26 rfl (VT.val_info _)) rfl ⟨rfl, hS.below⟩
set_option maxHeartbeats 1000000 in
theorem rc_b2 (hg : goodN s.data.toList = false) (hz : 0 < s.size) (h64 : ¬ ((s[0]'hz).toNat : Int) = 64) (h39 : ¬ ((s[0]'hz).toNat : Int) = 39) (R : ByteArray) (hR : R = s) (hRs : R.size ≤ 9223372036854775807) (hv : ¬ 0 ≤ rV (validS R)) (hl : 4096 < (R.size : Int)) : Calls Tryz.prog 10 #[.string s] w fun e w' => e = .returned (.tuple #[.agg (VT.c .no), .int .i64 2]) ∧ Below w.heap.size w w' := by
  have hS := Boxes.start w
  have b1 := build_k
  have b2 := build_no
  have b3 := build_ks
  have b4 := build_kn
  have hie : s.toList.isEmpty = false := by simp [h0]
  have e1 : (s.toList == [110, 117, 108, 108]) = false := by simp [h1]
  have e2 : (s.toList == [116, 114, 117, 101]) = false := by simp [h2]
  have e3 : (s.toList == [102, 97, 108, 115, 101]) = false := by simp [h3]
  have e4 : (s.toList == [91, 93]) = false := by simp [h4]
  have e5 : (s.toList == [123, 125]) = false := by simp [h5]
  have Hg := Lib.hid (fun W => (number_any s W hs).mono (fun e w' (h : e = .returned (.bool (goodN s.data.toList)) ∧ w' = W) => (show e = .returned (.bool (goodN s.data.toList)) ∧ Below W.heap.size W w' from ⟨h.1, h.2 ▸ Below.refl _ _⟩)))
  rw [hg] at Hg
  have Hn := Lib.hid (fun W => rvalid_any R W hRs)
  generalize rV (validS R) = x at *
  subst hR
  clear hg
  go_enter Tryz.func10, Tryz.ntmps10
  go_wp2_with (first | go_skip | ((with_reducible refine gate_op (op := .alloc 26) rfl ?_); refine alloc_arm rfl 26 rfl (val_alloc _) ?_; intro wn hbn hgn; have hS1 := hS.new hbn hgn; clear hS hbn hgn; have hS := hS1; clear hS1) | (go_at_call 24; (with_reducible (refine (Hg.out _).mono ?_)); rintro e wn ⟨rfl, hbn⟩; have hS1 := hS.step hbn; clear hS hbn; have hS := hS1; clear hS1) | (go_at_call 27; (with_reducible (refine (Hn.out _).mono ?_)); rintro e wn ⟨rfl, hbn⟩; have hS1 := hS.step hbn; clear hS hbn; have hS := hS1; clear hS1) | ((with_reducible refine gate_op (op := .store 26 (.tmp 2) (.tmp 52)) rfl ?_); refine wpList_store_row rfl 26 (.tmp 2) (.tmp 52) rfl _ (VT.c VT.no) rfl rfl 26 _ (hS.at_ 0 rfl) (VT.val_info _) rfl (VT.c_one _) ?_; intro wn hbn hgn hon hsn; have hS1 := hS.put 0 rfl hon hbn hgn; clear hS hbn hgn hon hsn; have hS := hS1; clear hS1))
  exact bodyPost_ret (v := (.tuple #[.agg (VT.c .no), .int .i64 2])) (results_row_tmp rfl _ _ _ _ _ _ _ _ rfl rfl (hS.at_ 0 rfl) Tryz.underlying26 rfl (VT.val_info _)) rfl ⟨rfl, hS.below⟩
set_option maxHeartbeats 1000000 in
theorem rc_b0 (hg : goodN s.data.toList = false) (hz : 0 < s.size) (h64 : ¬ ((s[0]'hz).toNat : Int) = 64) (h39 : ¬ ((s[0]'hz).toNat : Int) = 39) (R : ByteArray) (hR : R = s) (hRs : R.size ≤ 9223372036854775807) (hv : ¬ 0 ≤ rV (validS R)) (hl : ¬ 4096 < (R.size : Int)) : Calls Tryz.prog 10 #[.string s] w fun e w' => e = .returned (.tuple #[.agg (VT.c (VT.leaf 4 0 R)), .int .i64 0]) ∧ Below w.heap.size w w' := by
  have hS := Boxes.start w
  have b1 := build_k
  have b2 := build_no
  have b3 := build_ks
  have b4 := build_kn
  have hie : s.toList.isEmpty = false := by simp [h0]
  have e1 : (s.toList == [110, 117, 108, 108]) = false := by simp [h1]
  have e2 : (s.toList == [116, 114, 117, 101]) = false := by simp [h2]
  have e3 : (s.toList == [102, 97, 108, 115, 101]) = false := by simp [h3]
  have e4 : (s.toList == [91, 93]) = false := by simp [h4]
  have e5 : (s.toList == [123, 125]) = false := by simp [h5]
  have Hg := Lib.hid (fun W => (number_any s W hs).mono (fun e w' (h : e = .returned (.bool (goodN s.data.toList)) ∧ w' = W) => (show e = .returned (.bool (goodN s.data.toList)) ∧ Below W.heap.size W w' from ⟨h.1, h.2 ▸ Below.refl _ _⟩)))
  rw [hg] at Hg
  have Hn := Lib.hid (fun W => rvalid_any R W hRs)
  generalize rV (validS R) = x at *
  subst hR
  clear hg
  go_enter Tryz.func10, Tryz.ntmps10
  go_wp2_with (first | go_skip | ((with_reducible refine gate_op (op := .alloc 26) rfl ?_); refine alloc_arm rfl 26 rfl (val_alloc _) ?_; intro wn hbn hgn; have hS1 := hS.new hbn hgn; clear hS hbn hgn; have hS := hS1; clear hS1) | (go_at_call 24; (with_reducible (refine (Hg.out _).mono ?_)); rintro e wn ⟨rfl, hbn⟩; have hS1 := hS.step hbn; clear hS hbn; have hS := hS1; clear hS1) | (go_at_call 27; (with_reducible (refine (Hn.out _).mono ?_)); rintro e wn ⟨rfl, hbn⟩; have hS1 := hS.step hbn; clear hS hbn; have hS := hS1; clear hS1) | ((with_reducible refine gate_op (op := .store 26 (.tmp 2) (.tmp 54)) rfl ?_); refine wpList_store_row rfl 26 (.tmp 2) (.tmp 54) rfl _ (VT.c (VT.leaf 4 0 R)) rfl rfl 26 _ (hS.at_ 0 rfl) (VT.val_info _) rfl (VT.c_one _) ?_; intro wn hbn hgn hon hsn; have hS1 := hS.put 0 rfl hon hbn hgn; clear hS hbn hgn hon hsn; have hS := hS1; clear hS1))
  exact bodyPost_ret (v := (.tuple #[.agg (VT.c (VT.leaf 4 0 R)), .int .i64 0])) (results_row_tmp rfl _ _ _ _ _ _ _ _ rfl rfl (hS.at_ 0 rfl) Tryz.underlying26 rfl (VT.val_info _)) rfl ⟨rfl, hS.below⟩
end
end Go.Proofs.YtnapebgkcjnnbaaGreatDoor
