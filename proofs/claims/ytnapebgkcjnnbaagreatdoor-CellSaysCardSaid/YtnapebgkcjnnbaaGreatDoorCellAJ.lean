/-
  cell.Value, cell.text, cell.Text, for all texts, all values. Condition: the library's variables as it lays them.
-/
import Derived.Test.YtnapebgkcjnnbaaGreatDoorCellJ
import Derived.Test.YtnapebgkcjnnbaaGreatDoorJ10
import Derived.Test.YtnapebgkcjnnbaaGreatDoorJ4
namespace Go.Proofs.YtnapebgkcjnnbaaGreatDoor
open Go.RowKit
set_option linter.unusedVariables false
set_option linter.unusedSimpArgs false
set_option linter.unusedSectionVars false
theorem unq_size (s : ByteArray) : (unq s).size ≤ s.size := by
  unfold unq Lib.trimPrefix
  rw [Lib.size_eq, Lib.size_eq]
  split
  · simp
  · simp
theorem head_is {s : ByteArray} (hz : 0 < s.size) (k : Nat) (hk : k < 256) : s.data.toList.head? = some (UInt8.ofNat k) ↔ ((s[0]'hz).toNat : Int) = (k : Int) := by
  rw [ba_head hz, List.head?_cons, Option.some.injEq, ← byte_is hk]
theorem cval_any (s : ByteArray) (w : World) (hw : Vars w) (hs : s.size ≤ 9223372036854775807) : Calls Tryz.prog 9 #[.string s] w fun e w' => e = .returned (.tuple #[.agg (cellV s).1.c, .int .i64 (cellV s).2]) ∧ Below w.heap.size w w' := by
  have hx : ∀ {r : VT × Int}, cellV s = r → (Calls Tryz.prog 9 #[.string s] w fun e w' => e = .returned (.tuple #[.agg r.1.c, .int .i64 r.2]) ∧ Below w.heap.size w w') → Calls Tryz.prog 9 #[.string s] w fun e w' => e = .returned (.tuple #[.agg (cellV s).1.c, .int .i64 (cellV s).2]) ∧ Below w.heap.size w w' := fun h k => by rw [h]; exact k
  by_cases h0 : s.toList = []
  · exact hx (by unfold cellV; rw [if_pos (ba_toList.1 h0)]) (cv_0 s w h0)
  have g0 : ¬ s.data.toList = [] := fun h => h0 (ba_toList.2 h)
  by_cases h1 : s.toList = [110, 117, 108, 108]
  · exact hx (by unfold cellV; rw [if_neg g0, if_pos (ba_toList.1 h1)]) (cv_1 s w h1)
  have g1 : ¬ s.data.toList = [110, 117, 108, 108] := fun h => h1 (ba_toList.2 h)
  by_cases h2 : s.toList = [116, 114, 117, 101]
  · exact hx (by unfold cellV; rw [if_neg g0, if_neg g1, if_pos (ba_toList.1 h2)]) (cv_2 s w h2)
  have g2 : ¬ s.data.toList = [116, 114, 117, 101] := fun h => h2 (ba_toList.2 h)
  by_cases h3 : s.toList = [102, 97, 108, 115, 101]
  · exact hx (by unfold cellV; rw [if_neg g0, if_neg g1, if_neg g2, if_pos (ba_toList.1 h3)]) (cv_3 s w h3)
  have g3 : ¬ s.data.toList = [102, 97, 108, 115, 101] := fun h => h3 (ba_toList.2 h)
  by_cases h4 : s.toList = [91, 93]
  · exact hx (by unfold cellV; rw [if_neg g0, if_neg g1, if_neg g2, if_neg g3, if_pos (ba_toList.1 h4)]) (cv_4 s w h4)
  have g4 : ¬ s.data.toList = [91, 93] := fun h => h4 (ba_toList.2 h)
  by_cases h5 : s.toList = [123, 125]
  · exact hx (by unfold cellV; rw [if_neg g0, if_neg g1, if_neg g2, if_neg g3, if_neg g4, if_pos (ba_toList.1 h5)]) (cv_5 s w h5)
  have g5 : ¬ s.data.toList = [123, 125] := fun h => h5 (ba_toList.2 h)
  cases hg : goodN s.data.toList
  case true => exact hx (by unfold cellV; rw [if_neg g0, if_neg g1, if_neg g2, if_neg g3, if_neg g4, if_neg g5, if_pos hg]) (cv_n s w hs h0 h1 h2 h3 h4 h5 hw hg)
  have hz : 0 < s.size := ba_pos h0
  have ng : ¬ goodN s.data.toList = true := by rw [hg]; simp
  by_cases h64 : ((s[0]'hz).toNat : Int) = 64
  · have hd : s.data.toList.head? = some 64 := (head_is hz 64 (by decide)).2 h64
    have hR : (s.extract 1 s.size).size ≤ 9223372036854775807 := by simp; omega
    cases hb : stampB (s.extract 1 s.size)
    · exact hx (r := (.no, 4)) (by unfold cellV; rw [if_neg g0, if_neg g1, if_neg g2, if_neg g3, if_neg g4, if_neg g5, if_neg ng, if_pos hd]; unfold stampR; rw [hb]; rfl) (cv_t s w hs h0 h1 h2 h3 h4 h5 hg hz h64 _ rfl hR hb)
    · exact hx (r := (VT.leaf 7 0 (s.extract 1 s.size), 0)) (by unfold cellV; rw [if_neg g0, if_neg g1, if_neg g2, if_neg g3, if_neg g4, if_neg g5, if_neg ng, if_pos hd]; unfold stampR; rw [hb]; rfl) (cv_s s w hs h0 h1 h2 h3 h4 h5 hg hz h64 _ rfl hR hb)
  · have hd : ¬ s.data.toList.head? = some 64 := fun h => h64 ((head_is hz 64 (by decide)).1 h)
    exact hx (r := strR (unq s)) (by unfold cellV; rw [if_neg g0, if_neg g1, if_neg g2, if_neg g3, if_neg g4, if_neg g5, if_neg ng, if_neg hd]) (cv_x s w hs h0 h1 h2 h3 h4 h5 hg hz h64 _ rfl (by have := unq_size s; omega) _ _ rfl)
section
variable (s : ByteArray) (w : World) (hs : s.size ≤ 4096) (v : VT) (e0 : Int) (hv : cellV s = (v, e0)) (HV : ∀ W, Below w.heap.size w W → Calls Tryz.prog 9 #[.string s] W fun e w' => e = .returned (.tuple #[.agg v.c, .int .i64 e0]) ∧ Below W.heap.size W w')
include hs HV
set_option maxHeartbeats 1000000 in
theorem tx_0 (h0 : s.toList = []) : Calls Tryz.prog 15 #[.string s] w fun e w' => e = .returned (.string (quo s)) ∧ Below w.heap.size w w' := by
  have hS := Boxes.start w
  have H := Lib.hid HV
  clear HV
  have hie : s.toList.isEmpty = true := by simp [h0]
  go_enter Tryz.func15, Tryz.ntmps15
  go_wp2_with (first | go_skip | (go_at_call 9; (with_reducible (refine (H.out _ hS.below).mono ?_)); rintro e wn ⟨rfl, hbn⟩; have hS1 := hS.step hbn; clear hS hbn; have hS := hS1; clear hS1) | ((with_reducible refine gate_op (op := .alloc 26) rfl ?_); refine alloc_arm rfl 26 rfl (val_alloc _) ?_; intro wn hbn hgn; have hS1 := hS.new hbn hgn; clear hS hbn hgn; have hS := hS1; clear hS1) | ((with_reducible refine gate_op (op := .store 26 (.tmp 3) (.tmp 8)) rfl ?_); refine wpList_store_row rfl 26 (.tmp 3) (.tmp 8) rfl _ (VT.c v) rfl rfl 26 _ (hS.at_ 0 rfl) (VT.val_info _) rfl (VT.c_one _) ?_; intro wn hbn hgn hon hsn; have hS1 := hS.put 0 rfl hon hbn hgn; clear hS hbn hgn hon hsn; have hS := hS1; clear hS1; have x0 := (cell_of_row _ _ 0 _ _ _ (hS.at_ 0 rfl)).trans (show v.c[0]? = some (.int .i64 v.k) from rfl); have x2 := (cell_of_row _ _ 2 _ _ _ (hS.at_ 0 rfl)).trans (show v.c[2]? = some (.string v.s) from rfl)))
  go_ret
  exact ⟨rfl, hS.below⟩
set_option maxHeartbeats 1000000 in
theorem tx_1 (h0 : ¬ s.toList = []) (hz : 0 < s.size) (h39 : ((s[0]'hz).toNat : Int) = 39) : Calls Tryz.prog 15 #[.string s] w fun e w' => e = .returned (.string (quo s)) ∧ Below w.heap.size w w' := by
  have hS := Boxes.start w
  have H := Lib.hid HV
  clear HV
  have hie : s.toList.isEmpty = false := by simp [h0]
  go_enter Tryz.func15, Tryz.ntmps15
  go_wp2_with (first | go_skip | (go_at_call 9; (with_reducible (refine (H.out _ hS.below).mono ?_)); rintro e wn ⟨rfl, hbn⟩; have hS1 := hS.step hbn; clear hS hbn; have hS := hS1; clear hS1) | ((with_reducible refine gate_op (op := .alloc 26) rfl ?_); refine alloc_arm rfl 26 rfl (val_alloc _) ?_; intro wn hbn hgn; have hS1 := hS.new hbn hgn; clear hS hbn hgn; have hS := hS1; clear hS1) | ((with_reducible refine gate_op (op := .store 26 (.tmp 3) (.tmp 8)) rfl ?_); refine wpList_store_row rfl 26 (.tmp 3) (.tmp 8) rfl _ (VT.c v) rfl rfl 26 _ (hS.at_ 0 rfl) (VT.val_info _) rfl (VT.c_one _) ?_; intro wn hbn hgn hon hsn; have hS1 := hS.put 0 rfl hon hbn hgn; clear hS hbn hgn hon hsn; have hS := hS1; clear hS1; have x0 := (cell_of_row _ _ 0 _ _ _ (hS.at_ 0 rfl)).trans (show v.c[0]? = some (.int .i64 v.k) from rfl); have x2 := (cell_of_row _ _ 2 _ _ _ (hS.at_ 0 rfl)).trans (show v.c[2]? = some (.string v.s) from rfl)))
  go_ret
  exact ⟨rfl, hS.below⟩
set_option maxHeartbeats 1000000 in
theorem tx_2 (h0 : ¬ s.toList = []) (hz : 0 < s.size) (h39 : ¬ ((s[0]'hz).toNat : Int) = 39) (h64 : ((s[0]'hz).toNat : Int) = 64) : Calls Tryz.prog 15 #[.string s] w fun e w' => e = .returned (.string (quo s)) ∧ Below w.heap.size w w' := by
  have hS := Boxes.start w
  have H := Lib.hid HV
  clear HV
  have hie : s.toList.isEmpty = false := by simp [h0]
  go_enter Tryz.func15, Tryz.ntmps15
  go_wp2_with (first | go_skip | (go_at_call 9; (with_reducible (refine (H.out _ hS.below).mono ?_)); rintro e wn ⟨rfl, hbn⟩; have hS1 := hS.step hbn; clear hS hbn; have hS := hS1; clear hS1) | ((with_reducible refine gate_op (op := .alloc 26) rfl ?_); refine alloc_arm rfl 26 rfl (val_alloc _) ?_; intro wn hbn hgn; have hS1 := hS.new hbn hgn; clear hS hbn hgn; have hS := hS1; clear hS1) | ((with_reducible refine gate_op (op := .store 26 (.tmp 3) (.tmp 8)) rfl ?_); refine wpList_store_row rfl 26 (.tmp 3) (.tmp 8) rfl _ (VT.c v) rfl rfl 26 _ (hS.at_ 0 rfl) (VT.val_info _) rfl (VT.c_one _) ?_; intro wn hbn hgn hon hsn; have hS1 := hS.put 0 rfl hon hbn hgn; clear hS hbn hgn hon hsn; have hS := hS1; clear hS1; have x0 := (cell_of_row _ _ 0 _ _ _ (hS.at_ 0 rfl)).trans (show v.c[0]? = some (.int .i64 v.k) from rfl); have x2 := (cell_of_row _ _ 2 _ _ _ (hS.at_ 0 rfl)).trans (show v.c[2]? = some (.string v.s) from rfl)))
  go_ret
  exact ⟨rfl, hS.below⟩
set_option maxHeartbeats 1000000 in
theorem tx_3 (h0 : ¬ s.toList = []) (hz : 0 < s.size) (h39 : ¬ ((s[0]'hz).toNat : Int) = 39) (h64 : ¬ ((s[0]'hz).toNat : Int) = 64) (he : (e0 != 0) = true) : Calls Tryz.prog 15 #[.string s] w fun e w' => e = .returned (.string (quo s)) ∧ Below w.heap.size w w' := by
  have hS := Boxes.start w
  have H := Lib.hid HV
  clear HV
  have hie : s.toList.isEmpty = false := (by simp [h0]); have b39 : (((s[0]'hz).toNat : Int) == 39) = false := (by simp [h39]); have b64 : (((s[0]'hz).toNat : Int) == 64) = false := (by simp [h64])
  go_enter Tryz.func15, Tryz.ntmps15
  go_wp2_with (first | go_skip | (go_at_call 9; (with_reducible (refine (H.out _ hS.below).mono ?_)); rintro e wn ⟨rfl, hbn⟩; have hS1 := hS.step hbn; clear hS hbn; have hS := hS1; clear hS1) | ((with_reducible refine gate_op (op := .alloc 26) rfl ?_); refine alloc_arm rfl 26 rfl (val_alloc _) ?_; intro wn hbn hgn; have hS1 := hS.new hbn hgn; clear hS hbn hgn; have hS := hS1; clear hS1) | ((with_reducible refine gate_op (op := .store 26 (.tmp 3) (.tmp 8)) rfl ?_); refine wpList_store_row rfl 26 (.tmp 3) (.tmp 8) rfl _ (VT.c v) rfl rfl 26 _ (hS.at_ 0 rfl) (VT.val_info _) rfl (VT.c_one _) ?_; intro wn hbn hgn hon hsn; have hS1 := hS.put 0 rfl hon hbn hgn; clear hS hbn hgn hon hsn; have hS := hS1; clear hS1; have x0 := (cell_of_row _ _ 0 _ _ _ (hS.at_ 0 rfl)).trans (show v.c[0]? = some (.int .i64 v.k) from rfl); have x2 := (cell_of_row _ _ 2 _ _ _ (hS.at_ 0 rfl)).trans (show v.c[2]? = some (.string v.s) from rfl)))
  go_ret
  exact ⟨rfl, hS.below⟩
set_option maxHeartbeats 1000000 in
theorem tx_4 (h0 : ¬ s.toList = []) (hz : 0 < s.size) (h39 : ¬ ((s[0]'hz).toNat : Int) = 39) (h64 : ¬ ((s[0]'hz).toNat : Int) = 64) (he : (e0 != 0) = false) (hk : (v.k != 4) = true) : Calls Tryz.prog 15 #[.string s] w fun e w' => e = .returned (.string (quo s)) ∧ Below w.heap.size w w' := by
  have hS := Boxes.start w
  have H := Lib.hid HV
  clear HV
  have hie : s.toList.isEmpty = false := (by simp [h0]); have b39 : (((s[0]'hz).toNat : Int) == 39) = false := (by simp [h39]); have b64 : (((s[0]'hz).toNat : Int) == 64) = false := (by simp [h64])
  go_enter Tryz.func15, Tryz.ntmps15
  go_wp2_with (first | go_skip | (go_at_call 9; (with_reducible (refine (H.out _ hS.below).mono ?_)); rintro e wn ⟨rfl, hbn⟩; have hS1 := hS.step hbn; clear hS hbn; have hS := hS1; clear hS1) | ((with_reducible refine gate_op (op := .alloc 26) rfl ?_); refine alloc_arm rfl 26 rfl (val_alloc _) ?_; intro wn hbn hgn; have hS1 := hS.new hbn hgn; clear hS hbn hgn; have hS := hS1; clear hS1) | ((with_reducible refine gate_op (op := .store 26 (.tmp 3) (.tmp 8)) rfl ?_); refine wpList_store_row rfl 26 (.tmp 3) (.tmp 8) rfl _ (VT.c v) rfl rfl 26 _ (hS.at_ 0 rfl) (VT.val_info _) rfl (VT.c_one _) ?_; intro wn hbn hgn hon hsn; have hS1 := hS.put 0 rfl hon hbn hgn; clear hS hbn hgn hon hsn; have hS := hS1; clear hS1; have x0 := (cell_of_row _ _ 0 _ _ _ (hS.at_ 0 rfl)).trans (show v.c[0]? = some (.int .i64 v.k) from rfl); have x2 := (cell_of_row _ _ 2 _ _ _ (hS.at_ 0 rfl)).trans (show v.c[2]? = some (.string v.s) from rfl)))
  go_ret
  exact ⟨rfl, hS.below⟩
set_option maxHeartbeats 1000000 in
theorem tx_5 (h0 : ¬ s.toList = []) (hz : 0 < s.size) (h39 : ¬ ((s[0]'hz).toNat : Int) = 39) (h64 : ¬ ((s[0]'hz).toNat : Int) = 64) (he : (e0 != 0) = false) (hk : (v.k != 4) = false) (ht : (v.s.toList == s.toList) = false) : Calls Tryz.prog 15 #[.string s] w fun e w' => e = .returned (.string (quo s)) ∧ Below w.heap.size w w' := by
  have hS := Boxes.start w
  have H := Lib.hid HV
  clear HV
  have hie : s.toList.isEmpty = false := (by simp [h0]); have b39 : (((s[0]'hz).toNat : Int) == 39) = false := (by simp [h39]); have b64 : (((s[0]'hz).toNat : Int) == 64) = false := (by simp [h64])
  go_enter Tryz.func15, Tryz.ntmps15
  go_wp2_with (first | go_skip | (go_at_call 9; (with_reducible (refine (H.out _ hS.below).mono ?_)); rintro e wn ⟨rfl, hbn⟩; have hS1 := hS.step hbn; clear hS hbn; have hS := hS1; clear hS1) | ((with_reducible refine gate_op (op := .alloc 26) rfl ?_); refine alloc_arm rfl 26 rfl (val_alloc _) ?_; intro wn hbn hgn; have hS1 := hS.new hbn hgn; clear hS hbn hgn; have hS := hS1; clear hS1) | ((with_reducible refine gate_op (op := .store 26 (.tmp 3) (.tmp 8)) rfl ?_); refine wpList_store_row rfl 26 (.tmp 3) (.tmp 8) rfl _ (VT.c v) rfl rfl 26 _ (hS.at_ 0 rfl) (VT.val_info _) rfl (VT.c_one _) ?_; intro wn hbn hgn hon hsn; have hS1 := hS.put 0 rfl hon hbn hgn; clear hS hbn hgn hon hsn; have hS := hS1; clear hS1; have x0 := (cell_of_row _ _ 0 _ _ _ (hS.at_ 0 rfl)).trans (show v.c[0]? = some (.int .i64 v.k) from rfl); have x2 := (cell_of_row _ _ 2 _ _ _ (hS.at_ 0 rfl)).trans (show v.c[2]? = some (.string v.s) from rfl)))
  go_ret
  exact ⟨rfl, hS.below⟩
set_option maxHeartbeats 1000000 in
theorem tx_6 (h0 : ¬ s.toList = []) (hz : 0 < s.size) (h39 : ¬ ((s[0]'hz).toNat : Int) = 39) (h64 : ¬ ((s[0]'hz).toNat : Int) = 64) (he : (e0 != 0) = false) (hk : (v.k != 4) = false) (ht : (v.s.toList == s.toList) = true) : Calls Tryz.prog 15 #[.string s] w fun e w' => e = .returned (.string (s)) ∧ Below w.heap.size w w' := by
  have hS := Boxes.start w
  have H := Lib.hid HV
  clear HV
  have hie : s.toList.isEmpty = false := (by simp [h0]); have b39 : (((s[0]'hz).toNat : Int) == 39) = false := (by simp [h39]); have b64 : (((s[0]'hz).toNat : Int) == 64) = false := (by simp [h64]); have ht2 : (v.s.toList != s.toList) = false := congrArg (fun b => !b) ht
  go_enter Tryz.func15, Tryz.ntmps15
  go_wp2_with (first | go_skip | (go_at_call 9; (with_reducible (refine (H.out _ hS.below).mono ?_)); rintro e wn ⟨rfl, hbn⟩; have hS1 := hS.step hbn; clear hS hbn; have hS := hS1; clear hS1) | ((with_reducible refine gate_op (op := .alloc 26) rfl ?_); refine alloc_arm rfl 26 rfl (val_alloc _) ?_; intro wn hbn hgn; have hS1 := hS.new hbn hgn; clear hS hbn hgn; have hS := hS1; clear hS1) | ((with_reducible refine gate_op (op := .store 26 (.tmp 3) (.tmp 8)) rfl ?_); refine wpList_store_row rfl 26 (.tmp 3) (.tmp 8) rfl _ (VT.c v) rfl rfl 26 _ (hS.at_ 0 rfl) (VT.val_info _) rfl (VT.c_one _) ?_; intro wn hbn hgn hon hsn; have hS1 := hS.put 0 rfl hon hbn hgn; clear hS hbn hgn hon hsn; have hS := hS1; clear hS1; have x0 := (cell_of_row _ _ 0 _ _ _ (hS.at_ 0 rfl)).trans (show v.c[0]? = some (.int .i64 v.k) from rfl); have x2 := (cell_of_row _ _ 2 _ _ _ (hS.at_ 0 rfl)).trans (show v.c[2]? = some (.string v.s) from rfl)))
  go_ret
  exact ⟨rfl, hS.below⟩
end
theorem ctext_any (s : ByteArray) (w : World) (hw : Vars w) (hs : s.size ≤ 4096) : Calls Tryz.prog 15 #[.string s] w fun e w' => e = .returned (.string (textS s)) ∧ Below w.heap.size w w' := by
  obtain ⟨v, e0, hv⟩ : ∃ v e0, cellV s = (v, e0) := ⟨_, _, rfl⟩
  have HV : ∀ W, Below w.heap.size w W → Calls Tryz.prog 9 #[.string s] W fun e w' => e = .returned (.tuple #[.agg v.c, .int .i64 e0]) ∧ Below W.heap.size W w' := fun W hW => by
    have h := cval_any s W (hw.step hW) (by omega)
    rw [hv] at h
    exact h
  have q : quotB s = (s.toList == [] || decide (s.data.toList.head? = some 39) || decide (s.data.toList.head? = some 64) || e0 != 0 || v.k != 4 || !(v.s.toList == s.toList)) := by unfold quotB; rw [hv]
  have yes : quotB s = true → textS s = quo s := fun h => by unfold textS; rw [if_pos h]
  have no : quotB s = false → textS s = s := fun h => by unfold textS; rw [if_neg (by rw [h]; simp)]
  by_cases h0 : s.toList = []
  · rw [yes (by rw [q]; simp [h0])]; exact tx_0 s w hs v e0 HV h0
  have hz : 0 < s.size := ba_pos h0
  by_cases h39 : ((s[0]'hz).toNat : Int) = 39
  · have hd : s.data.toList.head? = some 39 := (head_is hz 39 (by decide)).2 h39
    rw [yes (by rw [q]; simp [hd])]; exact tx_1 s w hs v e0 HV h0 hz h39
  have d39 : ¬ s.data.toList.head? = some 39 := fun h => h39 ((head_is hz 39 (by decide)).1 h)
  by_cases h64 : ((s[0]'hz).toNat : Int) = 64
  · have hd : s.data.toList.head? = some 64 := (head_is hz 64 (by decide)).2 h64
    rw [yes (by rw [q]; simp [hd])]; exact tx_2 s w hs v e0 HV h0 hz h39 h64
  have d64 : ¬ s.data.toList.head? = some 64 := fun h => h64 ((head_is hz 64 (by decide)).1 h)
  have q2 : quotB s = (e0 != 0 || v.k != 4 || !(v.s.toList == s.toList)) := by
    rw [q, decide_eq_false d39, decide_eq_false d64, show (s.toList == []) = false by simp [h0]]; simp
  cases he : (e0 != 0)
  case true => rw [yes (by rw [q2, he]; rfl)]; exact tx_3 s w hs v e0 HV h0 hz h39 h64 he
  cases hk : (v.k != 4)
  case true => rw [yes (by rw [q2, he, hk]; rfl)]; exact tx_4 s w hs v e0 HV h0 hz h39 h64 he hk
  cases ht : (v.s.toList == s.toList)
  case false => rw [yes (by rw [q2, he, hk, ht]; rfl)]; exact tx_5 s w hs v e0 HV h0 hz h39 h64 he hk ht
  case true => rw [no (by rw [q2, he, hk, ht]; rfl)]; exact tx_6 s w hs v e0 HV h0 hz h39 h64 he hk ht
end Go.Proofs.YtnapebgkcjnnbaaGreatDoor
