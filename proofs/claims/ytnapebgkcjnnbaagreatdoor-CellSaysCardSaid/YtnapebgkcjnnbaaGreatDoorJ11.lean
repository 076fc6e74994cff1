/-
  What a cell says is a value that lies in every world. No condition.
  CellSays, walked: true for all values, all texts. Condition: the library's variables as it lays them.
-/
import Derived.Test.YtnapebgkcjnnbaaGreatDoorCellAJ
import Derived.Test.YtnapebgkcjnnbaaGreatDoorCellKJ
import Derived.Test.YtnapebgkcjnnbaaGreatDoorJ9
import Derived.Test.YtnapebgkcjnnbaaGreatDoorRSameJ
import Derived.Test.YtnapebgkcjnnbaaGreatDoorRSteepJ
import Derived.Test.YtnapebgkcjnnbaaGreatDoorRCellBJ
namespace Go.Proofs.YtnapebgkcjnnbaaGreatDoor
open Go.RowKit
set_option linter.unusedVariables false
set_option linter.unusedSimpArgs false
theorem parseInt_range {l : List UInt8} {n : Int} (h : Lib.parseIntB 64 l = .ok n) : -9223372036854775808 ≤ n ∧ n ≤ 9223372036854775807 := by
  unfold Lib.parseIntB at h
  cases l with
  | nil => cases h
  | cons c r =>
    simp only at h
    split at h
    · cases h
    · cases h
    · rename_i u hu
      split at h
      · cases h
      · rename_i h1
        split at h
        · cases h
        · rename_i h2
          have hn := Lib.NumEnd.ok.inj h
          subst hn
          by_cases h45 : c.toNat = 45
          · simp [h45] at h2 ⊢
            omega
          · simp [h45] at h1 ⊢
            omega
theorem intN_range {l : List UInt8} : -9223372036854775808 ≤ (intN l).getD 0 ∧ (intN l).getD 0 ≤ 9223372036854775807 := by
  unfold intN
  split
  · split
    · rename_i v hv
      exact parseInt_range hv
    · simp
  · simp
theorem numT_in (B : Nat) (W : World) (s : ByteArray) (hs : s.size ≤ 9223372036854775807) : VT.In B W (numT s) := by
  have h := @intN_range s.data.toList
  unfold numT
  split
  · exact VT.leaf_in _ _ _ _ _ h.1 h.2 (by decide) (by decide) (by decide)
  · exact VT.leaf_in _ _ _ _ _ (by decide) (by decide) (by decide) (by decide) hs
theorem strR_in (B : Nat) (W : World) (s : ByteArray) (hs : s.size ≤ 9223372036854775807) : VT.In B W (strR s).1 := by
  unfold strR
  split
  · exact VT.leaf_in _ _ _ _ _ (by decide) (by decide) (by decide) (by decide) hs
  · exact VT.no_in _ _
theorem stampR_in (B : Nat) (W : World) (s : ByteArray) (hs : s.size ≤ 9223372036854775807) : VT.In B W (stampR s).1 := by
  unfold stampR
  split
  · exact VT.leaf_in _ _ _ _ _ (by decide) (by decide) (by decide) (by decide) hs
  · exact VT.no_in _ _
theorem cell_in (B : Nat) (W : World) (s : ByteArray) (hs : s.size ≤ 9223372036854775807) : VT.In B W (cellV s).1 := by
  have lfi : ∀ k n : Int, 0 ≤ k ∧ k ≤ 9 → 0 ≤ n ∧ n ≤ 9 → VT.In B W (VT.leaf k n ⟨#[]⟩) := fun k n hk hn => VT.leaf_in _ _ _ _ _ (by omega) (by omega) (by omega) (by omega) (by decide)
  have he : (s.extract 1 s.size).size ≤ 9223372036854775807 := by simp; omega
  have hu : (unq s).size ≤ 9223372036854775807 := Nat.le_trans (unq_size s) hs
  have key : ∀ r : VT × Int, cellV s = r → VT.In B W r.1 := by
    intro r
    unfold cellV
    split
    · rintro rfl; exact VT.no_in _ _
    split
    · rintro rfl; exact VT.no_in _ _
    split
    · rintro rfl; exact lfi _ _ (by decide) (by decide)
    split
    · rintro rfl; exact lfi _ _ (by decide) (by decide)
    split
    · rintro rfl; exact lfi _ _ (by decide) (by decide)
    split
    · rintro rfl; exact lfi _ _ (by decide) (by decide)
    split
    · rintro rfl; exact numT_in _ _ _ hs
    split
    · rintro rfl; exact stampR_in _ _ _ he
    · rintro rfl; exact strR_in _ _ _ hu
  exact key _ rfl
end Go.Proofs.YtnapebgkcjnnbaaGreatDoor
namespace Go.Proofs.YtnapebgkcjnnbaaGreatDoor
open Go.RowKit
set_option linter.unusedVariables false
set_option linter.unusedSimpArgs false
set_option linter.unusedSectionVars false
section
variable (t : VT) (s : ByteArray) (w : World) (hw : Vars w) (ht : VT.In w.heap.size w t) (hs : s.size ≤ 9223372036854775807)
include hw ht hs
set_option maxRecDepth 100000 in
set_option maxHeartbeats 1000000 in
theorem says15_h (hh : heavyB t 50 40 = true) : Calls Tryz.prog 3 #[.agg t.c, .string s] w fun e w' => e = .returned (.bool true) ∧ Below w.heap.size w w' := by
  have HV := Lib.hid hw
  have cH := fun (W : World) (hW : Below w.heap.size w W) => heavy_any t 50 40 W (by omega) (by omega) (by omega) (by omega) ((ht.move hW).up hW.size)
  rw [hh] at cH
  have CH := Lib.hid cH
  clear cH hh
  have hS : Boxes w (w.alloc (Obj.cells t.c 26)) [(w.heap.size, Obj.cells t.c 26)] := (Boxes.start w).alloc _
  clear hw ht
  go_enter Tryz.func3, Tryz.ntmps3
  go_wp2_with (first | go_skip | (go_at_call 5; (with_reducible (refine (awake15_any _ (HV.out.step hS.below)).mono ?_)); rintro e wn ⟨rfl, hbn⟩; have hS1 := hS.step hbn; clear hS hbn; have hS := hS1; clear hS1) | ((with_reducible refine gate_op (op := .load 26 (.tmp 2)) rfl ?_); refine wpList_load_row' rfl 26 (.tmp 2) rfl _ rfl 26 _ (0, 0) _ (hS.at_ 0 rfl) Tryz.underlying26 rfl (VT.val_info _) ?_) | (go_at_call 6; (with_reducible (refine (CH.out _ hS.below).mono ?_)); rintro e wn ⟨rfl, hbn⟩; have hS1 := hS.step hbn; clear hS hbn; have hS := hS1; clear hS1))
  go_ret
  exact ⟨rfl, hS.below⟩
set_option maxRecDepth 100000 in
set_option maxHeartbeats 1000000 in
theorem says15_l (hh : heavyB t 50 40 = false) (hl : 5000 < (s.size : Int)) : Calls Tryz.prog 3 #[.agg t.c, .string s] w fun e w' => e = .returned (.bool true) ∧ Below w.heap.size w w' := by
  have HV := Lib.hid hw
  have cH := fun (W : World) (hW : Below w.heap.size w W) => heavy_any t 50 40 W (by omega) (by omega) (by omega) (by omega) ((ht.move hW).up hW.size)
  rw [hh] at cH
  have CH := Lib.hid cH
  clear cH hh
  have hS : Boxes w (w.alloc (Obj.cells t.c 26)) [(w.heap.size, Obj.cells t.c 26)] := (Boxes.start w).alloc _
  clear hw ht
  go_enter Tryz.func3, Tryz.ntmps3
  go_wp2_with (first | go_skip | (go_at_call 5; (with_reducible (refine (awake15_any _ (HV.out.step hS.below)).mono ?_)); rintro e wn ⟨rfl, hbn⟩; have hS1 := hS.step hbn; clear hS hbn; have hS := hS1; clear hS1) | ((with_reducible refine gate_op (op := .load 26 (.tmp 2)) rfl ?_); refine wpList_load_row' rfl 26 (.tmp 2) rfl _ rfl 26 _ (0, 0) _ (hS.at_ 0 rfl) Tryz.underlying26 rfl (VT.val_info _) ?_) | (go_at_call 6; (with_reducible (refine (CH.out _ hS.below).mono ?_)); rintro e wn ⟨rfl, hbn⟩; have hS1 := hS.step hbn; clear hS hbn; have hS := hS1; clear hS1))
  go_ret
  exact ⟨rfl, hS.below⟩
set_option maxRecDepth 100000 in
set_option maxHeartbeats 1000000 in
theorem says15_m (hh : heavyB t 50 40 = false) (hl : ¬ 5000 < (s.size : Int)) : Calls Tryz.prog 3 #[.agg t.c, .string s] w fun e w' => e = .returned (.bool true) ∧ Below w.heap.size w w' := by
  have HV := Lib.hid hw
  have cH := fun (W : World) (hW : Below w.heap.size w W) => heavy_any t 50 40 W (by omega) (by omega) (by omega) (by omega) ((ht.move hW).up hW.size)
  rw [hh] at cH
  have CH := Lib.hid cH
  clear cH hh
  have hS : Boxes w (w.alloc (Obj.cells t.c 26)) [(w.heap.size, Obj.cells t.c 26)] := (Boxes.start w).alloc _
  have C1 := Lib.hid (fun (W : World) (hW : Below w.heap.size w W) => cText_any t W (hw.step hW) ((ht.move hW).up hW.size))
  have C2 := Lib.hid (fun (W : World) (hW : Below w.heap.size w W) => rCellText_any t W ((ht.move hW).up hW.size))
  have C3 := Lib.hid (fun (W : World) (hW : Below w.heap.size w W) => cval_any s W (hw.step hW) hs)
  have C4 := Lib.hid (fun (W : World) => rcell_any s W hs)
  have C5 : Hid (∀ W, Calls Tryz.prog 11 #[.agg (cellV s).1.c, .agg (cellV s).1.c, .bool false] W fun e w' => e = .returned (.bool true) ∧ Below W.heap.size W w') := fun W => sameV_self (cellV s).1 ▸ rsame_v (cellV s).1 (cellV s).1 W (cell_in _ _ _ hs) (cell_in _ _ _ hs)
  generalize (textV t).1 = A at *
  generalize (textV t).2 = ok at *
  generalize (cellV s).1 = x at *
  generalize (cellV s).2 = e0 at *
  clear hw ht
  go_enter Tryz.func3, Tryz.ntmps3
  go_wp2_with (first | go_skip | (go_at_call 5; (with_reducible (refine (awake15_any _ (HV.out.step hS.below)).mono ?_)); rintro e wn ⟨rfl, hbn⟩; have hS1 := hS.step hbn; clear hS hbn; have hS := hS1; clear hS1) | ((with_reducible refine gate_op (op := .load 26 (.tmp 2)) rfl ?_); refine wpList_load_row' rfl 26 (.tmp 2) rfl _ rfl 26 _ (0, 0) _ (hS.at_ 0 rfl) Tryz.underlying26 rfl (VT.val_info _) ?_) | (go_at_call 6; (with_reducible (refine (CH.out _ hS.below).mono ?_)); rintro e wn ⟨rfl, hbn⟩; have hS1 := hS.step hbn; clear hS hbn; have hS := hS1; clear hS1) | (go_at_call 7; (with_reducible (refine (C1.out _ hS.below).mono ?_)); rintro e wn ⟨rfl, hbn⟩; have hS1 := hS.step hbn; clear hS hbn; have hS := hS1; clear hS1) | (go_at_call 8; (with_reducible (refine (C2.out _ hS.below).mono ?_)); rintro e wn ⟨rfl, hbn⟩; have hS1 := hS.step hbn; clear hS hbn; have hS := hS1; clear hS1) | (go_at_call 9; (with_reducible (refine (C3.out _ hS.below).mono ?_)); rintro e wn ⟨rfl, hbn⟩; have hS1 := hS.step hbn; clear hS hbn; have hS := hS1; clear hS1) | (go_at_call 10; (with_reducible (refine (C4.out _).mono ?_)); rintro e wn ⟨rfl, hbn⟩; have hS1 := hS.step hbn; clear hS hbn; have hS := hS1; clear hS1) | ((with_reducible refine gate_op (op := .alloc 26) rfl ?_); refine alloc_arm rfl 26 rfl (val_alloc _) ?_; intro wn hbn hgn; have hS1 := hS.new hbn hgn; clear hS hbn hgn; have hS := hS1; clear hS1) | ((with_reducible refine gate_op (op := .store 26 (.tmp 9) (.tmp 35)) rfl ?_); refine wpList_store_row rfl 26 (.tmp 9) (.tmp 35) rfl _ (VT.c x) rfl rfl 26 _ (hS.at_ 1 rfl) (VT.val_info _) rfl (VT.c_one _) ?_; intro wn hbn hgn hon hsn; have hS1 := hS.put 1 rfl hon hbn hgn; clear hS hbn hgn hon hsn; have hS := hS1; clear hS1) | ((with_reducible refine gate_op (op := .store 26 (.tmp 11) (.tmp 40)) rfl ?_); refine wpList_store_row rfl 26 (.tmp 11) (.tmp 40) rfl _ (VT.c x) rfl rfl 26 _ (hS.at_ 2 rfl) (VT.val_info _) rfl (VT.c_one _) ?_; intro wn hbn hgn hon hsn; have hS1 := hS.put 2 rfl hon hbn hgn; clear hS hbn hgn hon hsn; have hS := hS1; clear hS1) | ((with_reducible refine gate_op (op := .load 26 (.tmp 9)) rfl ?_); refine wpList_load_row' rfl 26 (.tmp 9) rfl _ rfl 26 _ (0, 0) _ (hS.at_ 1 rfl) Tryz.underlying26 rfl (VT.val_info _) ?_) | ((with_reducible refine gate_op (op := .load 26 (.tmp 11)) rfl ?_); refine wpList_load_row' rfl 26 (.tmp 11) rfl _ rfl 26 _ (0, 0) _ (hS.at_ 2 rfl) Tryz.underlying26 rfl (VT.val_info _) ?_) | (go_at_call 11; (with_reducible (refine (C5.out _).mono ?_)); rintro e wn ⟨rfl, hbn⟩; have hS1 := hS.step hbn; clear hS hbn; have hS := hS1; clear hS1))
  go_ret
  exact ⟨rfl, hS.below⟩
theorem cellSays_walk : Calls Tryz.prog 3 #[.agg t.c, .string s] w fun e w' => e = .returned (.bool true) ∧ Below w.heap.size w w' := by
  cases hh : heavyB t 50 40
  case true => exact says15_h t s w hw ht hs hh
  by_cases hl : 5000 < (s.size : Int)
  · exact says15_l t s w hw ht hs hh hl
  · exact says15_m t s w hw ht hs hh hl
end
theorem cellSays_card (t : VT) (s : ByteArray) (w : World) (hw : Vars w) (ht : VT.In w.heap.size w t) (hs : s.size ≤ maxLen) : Calls Tryz.prog 3 #[.agg t.c, .string s] w fun e w' => e = .returned (.bool true) ∧ Below w.heap.size w w' := cellSays_walk t s w hw ht (Nat.le_trans hs (by decide))
end Go.Proofs.YtnapebgkcjnnbaaGreatDoor
