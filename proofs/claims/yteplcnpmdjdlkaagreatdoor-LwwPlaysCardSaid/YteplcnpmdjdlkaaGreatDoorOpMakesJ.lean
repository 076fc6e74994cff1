/-
  (ops.Op).makes tells what is written here. Condition: what value.Good and ops.zero tell of the operation's value is known; 64 numbers in a vector.
-/
import Derived.Test.YteplcnpmdjdlkaaGreatDoorJ8
namespace Go.Proofs.YteplcnpmdjdlkaaGreatDoor
open Go.RowKit
set_option linter.unusedVariables false
set_option linter.unusedSimpArgs false
set_option linter.unusedSectionVars false
def addsB (o : OpV) : Bool := o.K == 1 || o.K == 3
def makesB (o : OpV) (vg vz : Bool) : Bool :=
  if o.M == 0 && addsB o then o.VK != 5 && o.VK != 6 && vg else if o.M == 0 || addsB o && (o.M == 1 || o.M == 2) then vz else false
theorem val_info (o : OpV) : (Tryz.prog.info? 34).map (·.size) = some o.vc.size := by
  show _ = some 5
  kernel_rfl
section
variable (o : OpV) (vg vz : Bool) (w : World) (ho : o.seen.length = 64)
  (HG : Hid (∀ W, Below w.heap.size w W → Calls Tryz.prog 50 #[.agg o.vc] W fun e w' => e = .returned (.bool vg) ∧ Below W.heap.size W w'))
  (HZ : Hid (∀ W, Below w.heap.size w W → Calls Tryz.prog 51 #[.agg o.vc] W fun e w' => e = .returned (.bool vz) ∧ Below W.heap.size W w'))
include ho HG HZ
set_option maxHeartbeats 1000000 in
theorem makes_k1_5 (hk1 : (o.K == 1) = true) (h0 : (o.M == 0) = true) (h5 : (o.VK != 5) = false) : Calls Tryz.prog 36 #[opv o] w fun e w' => e = .returned (.bool (makesB o vg vz)) ∧ Below w.heap.size w w' := by
  have a67 := OpV.g67 ho
  have a73 := OpV.g73 ho
  have a74 := OpV.g74 ho
  have hh : Hid (makesB o vg vz = false) := by unfold Hid makesB addsB; simp [hk1, h0, h5]
  go_enter Tryz.func36, Tryz.ntmps36
  go_wp2_with (first | (refine load_part rfl 34 (.tmp 30) rfl _ 74 rfl _ _ (0, 0) _ _ (heap_alloc_new _ _) (OpV.pV ho) Tryz.underlying34 rfl (val_info _) ?_) | (refine load_part rfl 34 (.tmp 51) rfl _ 74 rfl _ _ (0, 0) _ _ (heap_alloc_new _ _) (OpV.pV ho) Tryz.underlying34 rfl (val_info _) ?_) | (go_at_call 50; with_reducible (refine (HG.out _ ((Below.refl _ _).alloc (Nat.le_refl _) _)).mono ?_); rintro e w1 ⟨rfl, hb1⟩) | (go_at_call 51; with_reducible (refine (HZ.out _ ((Below.refl _ _).alloc (Nat.le_refl _) _)).mono ?_); rintro e w1 ⟨rfl, hb1⟩))
  go_ret
  exact ⟨ret_bool hh.out.symm, (Below.refl _ _).alloc (Nat.le_refl _) _⟩
set_option maxHeartbeats 1000000 in
theorem makes_k1_6 (hk1 : (o.K == 1) = true) (h0 : (o.M == 0) = true) (h5 : (o.VK != 5) = true) (h6 : (o.VK != 6) = false) : Calls Tryz.prog 36 #[opv o] w fun e w' => e = .returned (.bool (makesB o vg vz)) ∧ Below w.heap.size w w' := by
  have a67 := OpV.g67 ho
  have a73 := OpV.g73 ho
  have a74 := OpV.g74 ho
  have hh : Hid (makesB o vg vz = false) := by unfold Hid makesB addsB; simp [hk1, h0, h5, h6]
  go_enter Tryz.func36, Tryz.ntmps36
  go_wp2_with (first | (refine load_part rfl 34 (.tmp 30) rfl _ 74 rfl _ _ (0, 0) _ _ (heap_alloc_new _ _) (OpV.pV ho) Tryz.underlying34 rfl (val_info _) ?_) | (refine load_part rfl 34 (.tmp 51) rfl _ 74 rfl _ _ (0, 0) _ _ (heap_alloc_new _ _) (OpV.pV ho) Tryz.underlying34 rfl (val_info _) ?_) | (go_at_call 50; with_reducible (refine (HG.out _ ((Below.refl _ _).alloc (Nat.le_refl _) _)).mono ?_); rintro e w1 ⟨rfl, hb1⟩) | (go_at_call 51; with_reducible (refine (HZ.out _ ((Below.refl _ _).alloc (Nat.le_refl _) _)).mono ?_); rintro e w1 ⟨rfl, hb1⟩))
  go_ret
  exact ⟨ret_bool hh.out.symm, (Below.refl _ _).alloc (Nat.le_refl _) _⟩
set_option maxHeartbeats 1000000 in
theorem makes_k1_g (hk1 : (o.K == 1) = true) (h0 : (o.M == 0) = true) (h5 : (o.VK != 5) = true) (h6 : (o.VK != 6) = true) : Calls Tryz.prog 36 #[opv o] w fun e w' => e = .returned (.bool (makesB o vg vz)) ∧ Below w.heap.size w w' := by
  have a67 := OpV.g67 ho
  have a73 := OpV.g73 ho
  have a74 := OpV.g74 ho
  have hh : Hid (makesB o vg vz = vg) := by unfold Hid makesB addsB; simp [hk1, h0, h5, h6]
  go_enter Tryz.func36, Tryz.ntmps36
  go_wp2_with (first | (refine load_part rfl 34 (.tmp 30) rfl _ 74 rfl _ _ (0, 0) _ _ (heap_alloc_new _ _) (OpV.pV ho) Tryz.underlying34 rfl (val_info _) ?_) | (refine load_part rfl 34 (.tmp 51) rfl _ 74 rfl _ _ (0, 0) _ _ (heap_alloc_new _ _) (OpV.pV ho) Tryz.underlying34 rfl (val_info _) ?_) | (go_at_call 50; with_reducible (refine (HG.out _ ((Below.refl _ _).alloc (Nat.le_refl _) _)).mono ?_); rintro e w1 ⟨rfl, hb1⟩) | (go_at_call 51; with_reducible (refine (HZ.out _ ((Below.refl _ _).alloc (Nat.le_refl _) _)).mono ?_); rintro e w1 ⟨rfl, hb1⟩))
  go_ret
  exact ⟨ret_bool hh.out.symm, below_then ((Below.refl _ _).alloc (Nat.le_refl _) _) (by simp) hb1⟩
set_option maxHeartbeats 1000000 in
theorem makes_k1_1 (hk1 : (o.K == 1) = true) (h0 : (o.M == 0) = false) (h1 : (o.M == 1) = true) : Calls Tryz.prog 36 #[opv o] w fun e w' => e = .returned (.bool (makesB o vg vz)) ∧ Below w.heap.size w w' := by
  have a67 := OpV.g67 ho
  have a73 := OpV.g73 ho
  have a74 := OpV.g74 ho
  have hh : Hid (makesB o vg vz = vz) := by unfold Hid makesB addsB; simp [hk1, h0, h1]
  go_enter Tryz.func36, Tryz.ntmps36
  go_wp2_with (first | (refine load_part rfl 34 (.tmp 30) rfl _ 74 rfl _ _ (0, 0) _ _ (heap_alloc_new _ _) (OpV.pV ho) Tryz.underlying34 rfl (val_info _) ?_) | (refine load_part rfl 34 (.tmp 51) rfl _ 74 rfl _ _ (0, 0) _ _ (heap_alloc_new _ _) (OpV.pV ho) Tryz.underlying34 rfl (val_info _) ?_) | (go_at_call 50; with_reducible (refine (HG.out _ ((Below.refl _ _).alloc (Nat.le_refl _) _)).mono ?_); rintro e w1 ⟨rfl, hb1⟩) | (go_at_call 51; with_reducible (refine (HZ.out _ ((Below.refl _ _).alloc (Nat.le_refl _) _)).mono ?_); rintro e w1 ⟨rfl, hb1⟩))
  go_ret
  exact ⟨ret_bool hh.out.symm, below_then ((Below.refl _ _).alloc (Nat.le_refl _) _) (by simp) hb1⟩
set_option maxHeartbeats 1000000 in
theorem makes_k1_2 (hk1 : (o.K == 1) = true) (h0 : (o.M == 0) = false) (h1 : (o.M == 1) = false) (h2 : (o.M == 2) = true) : Calls Tryz.prog 36 #[opv o] w fun e w' => e = .returned (.bool (makesB o vg vz)) ∧ Below w.heap.size w w' := by
  have a67 := OpV.g67 ho
  have a73 := OpV.g73 ho
  have a74 := OpV.g74 ho
  have hh : Hid (makesB o vg vz = vz) := by unfold Hid makesB addsB; simp [hk1, h0, h1, h2]
  go_enter Tryz.func36, Tryz.ntmps36
  go_wp2_with (first | (refine load_part rfl 34 (.tmp 30) rfl _ 74 rfl _ _ (0, 0) _ _ (heap_alloc_new _ _) (OpV.pV ho) Tryz.underlying34 rfl (val_info _) ?_) | (refine load_part rfl 34 (.tmp 51) rfl _ 74 rfl _ _ (0, 0) _ _ (heap_alloc_new _ _) (OpV.pV ho) Tryz.underlying34 rfl (val_info _) ?_) | (go_at_call 50; with_reducible (refine (HG.out _ ((Below.refl _ _).alloc (Nat.le_refl _) _)).mono ?_); rintro e w1 ⟨rfl, hb1⟩) | (go_at_call 51; with_reducible (refine (HZ.out _ ((Below.refl _ _).alloc (Nat.le_refl _) _)).mono ?_); rintro e w1 ⟨rfl, hb1⟩))
  go_ret
  exact ⟨ret_bool hh.out.symm, below_then ((Below.refl _ _).alloc (Nat.le_refl _) _) (by simp) hb1⟩
set_option maxHeartbeats 1000000 in
theorem makes_k1_0 (hk1 : (o.K == 1) = true) (h0 : (o.M == 0) = false) (h1 : (o.M == 1) = false) (h2 : (o.M == 2) = false) : Calls Tryz.prog 36 #[opv o] w fun e w' => e = .returned (.bool (makesB o vg vz)) ∧ Below w.heap.size w w' := by
  have a67 := OpV.g67 ho
  have a73 := OpV.g73 ho
  have a74 := OpV.g74 ho
  have hh : Hid (makesB o vg vz = false) := by unfold Hid makesB addsB; simp [hk1, h0, h1, h2]
  go_enter Tryz.func36, Tryz.ntmps36
  go_wp2_with (first | (refine load_part rfl 34 (.tmp 30) rfl _ 74 rfl _ _ (0, 0) _ _ (heap_alloc_new _ _) (OpV.pV ho) Tryz.underlying34 rfl (val_info _) ?_) | (refine load_part rfl 34 (.tmp 51) rfl _ 74 rfl _ _ (0, 0) _ _ (heap_alloc_new _ _) (OpV.pV ho) Tryz.underlying34 rfl (val_info _) ?_) | (go_at_call 50; with_reducible (refine (HG.out _ ((Below.refl _ _).alloc (Nat.le_refl _) _)).mono ?_); rintro e w1 ⟨rfl, hb1⟩) | (go_at_call 51; with_reducible (refine (HZ.out _ ((Below.refl _ _).alloc (Nat.le_refl _) _)).mono ?_); rintro e w1 ⟨rfl, hb1⟩))
  go_ret
  exact ⟨ret_bool hh.out.symm, (Below.refl _ _).alloc (Nat.le_refl _) _⟩
theorem makes_k1 (hk1 : (o.K == 1) = true) : Calls Tryz.prog 36 #[opv o] w fun e w' => e = .returned (.bool (makesB o vg vz)) ∧ Below w.heap.size w w' := by
  cases h0 : (o.M == 0)
  · cases h1 : (o.M == 1)
    · cases h2 : (o.M == 2)
      · exact makes_k1_0 o vg vz w ho HG HZ hk1 h0 h1 h2
      · exact makes_k1_2 o vg vz w ho HG HZ hk1 h0 h1 h2
    · exact makes_k1_1 o vg vz w ho HG HZ hk1 h0 h1
  · cases h5 : (o.VK != 5)
    · exact makes_k1_5 o vg vz w ho HG HZ hk1 h0 h5
    · cases h6 : (o.VK != 6)
      · exact makes_k1_6 o vg vz w ho HG HZ hk1 h0 h5 h6
      · exact makes_k1_g o vg vz w ho HG HZ hk1 h0 h5 h6
set_option maxHeartbeats 1000000 in
theorem makes_k3_5 (hk1 : (o.K == 1) = false) (hk3 : (o.K == 3) = true) (h0 : (o.M == 0) = true) (h5 : (o.VK != 5) = false) : Calls Tryz.prog 36 #[opv o] w fun e w' => e = .returned (.bool (makesB o vg vz)) ∧ Below w.heap.size w w' := by
  have a67 := OpV.g67 ho
  have a73 := OpV.g73 ho
  have a74 := OpV.g74 ho
  have hh : Hid (makesB o vg vz = false) := by unfold Hid makesB addsB; simp [hk1, hk3, h0, h5]
  go_enter Tryz.func36, Tryz.ntmps36
  go_wp2_with (first | (refine load_part rfl 34 (.tmp 30) rfl _ 74 rfl _ _ (0, 0) _ _ (heap_alloc_new _ _) (OpV.pV ho) Tryz.underlying34 rfl (val_info _) ?_) | (refine load_part rfl 34 (.tmp 51) rfl _ 74 rfl _ _ (0, 0) _ _ (heap_alloc_new _ _) (OpV.pV ho) Tryz.underlying34 rfl (val_info _) ?_) | (go_at_call 50; with_reducible (refine (HG.out _ ((Below.refl _ _).alloc (Nat.le_refl _) _)).mono ?_); rintro e w1 ⟨rfl, hb1⟩) | (go_at_call 51; with_reducible (refine (HZ.out _ ((Below.refl _ _).alloc (Nat.le_refl _) _)).mono ?_); rintro e w1 ⟨rfl, hb1⟩))
  go_ret
  exact ⟨ret_bool hh.out.symm, (Below.refl _ _).alloc (Nat.le_refl _) _⟩
set_option maxHeartbeats 1000000 in
theorem makes_k3_6 (hk1 : (o.K == 1) = false) (hk3 : (o.K == 3) = true) (h0 : (o.M == 0) = true) (h5 : (o.VK != 5) = true) (h6 : (o.VK != 6) = false) : Calls Tryz.prog 36 #[opv o] w fun e w' => e = .returned (.bool (makesB o vg vz)) ∧ Below w.heap.size w w' := by
  have a67 := OpV.g67 ho
  have a73 := OpV.g73 ho
  have a74 := OpV.g74 ho
  have hh : Hid (makesB o vg vz = false) := by unfold Hid makesB addsB; simp [hk1, hk3, h0, h5, h6]
  go_enter Tryz.func36, Tryz.ntmps36
  go_wp2_with (first | (refine load_part rfl 34 (.tmp 30) rfl _ 74 rfl _ _ (0, 0) _ _ (heap_alloc_new _ _) (OpV.pV ho) Tryz.underlying34 rfl (val_info _) ?_) | (refine load_part rfl 34 (.tmp 51) rfl _ 74 rfl _ _ (0, 0) _ _ (heap_alloc_new _ _) (OpV.pV ho) Tryz.underlying34 rfl (val_info _) ?_) | (go_at_call 50; with_reducible (refine (HG.out _ ((Below.refl _ _).alloc (Nat.le_refl _) _)).mono ?_); rintro e w1 ⟨rfl, hb1⟩) | (go_at_call 51; with_reducible (refine (HZ.out _ ((Below.refl _ _).alloc (Nat.le_refl _) _)).mono ?_); rintro e w1 ⟨rfl, hb1⟩))
  go_ret
  exact ⟨ret_bool hh.out.symm, (Below.refl _ _).alloc (Nat.le_refl _) _⟩
set_option maxHeartbeats 1000000 in
theorem makes_k3_g (hk1 : (o.K == 1) = false) (hk3 : (o.K == 3) = true) (h0 : (o.M == 0) = true) (h5 : (o.VK != 5) = true) (h6 : (o.VK != 6) = true) : Calls Tryz.prog 36 #[opv o] w fun e w' => e = .returned (.bool (makesB o vg vz)) ∧ Below w.heap.size w w' := by
  have a67 := OpV.g67 ho
  have a73 := OpV.g73 ho
  have a74 := OpV.g74 ho
  have hh : Hid (makesB o vg vz = vg) := by unfold Hid makesB addsB; simp [hk1, hk3, h0, h5, h6]
  go_enter Tryz.func36, Tryz.ntmps36
  go_wp2_with (first | (refine load_part rfl 34 (.tmp 30) rfl _ 74 rfl _ _ (0, 0) _ _ (heap_alloc_new _ _) (OpV.pV ho) Tryz.underlying34 rfl (val_info _) ?_) | (refine load_part rfl 34 (.tmp 51) rfl _ 74 rfl _ _ (0, 0) _ _ (heap_alloc_new _ _) (OpV.pV ho) Tryz.underlying34 rfl (val_info _) ?_) | (go_at_call 50; with_reducible (refine (HG.out _ ((Below.refl _ _).alloc (Nat.le_refl _) _)).mono ?_); rintro e w1 ⟨rfl, hb1⟩) | (go_at_call 51; with_reducible (refine (HZ.out _ ((Below.refl _ _).alloc (Nat.le_refl _) _)).mono ?_); rintro e w1 ⟨rfl, hb1⟩))
  go_ret
  exact ⟨ret_bool hh.out.symm, below_then ((Below.refl _ _).alloc (Nat.le_refl _) _) (by simp) hb1⟩
set_option maxHeartbeats 1000000 in
theorem makes_k3_1 (hk1 : (o.K == 1) = false) (hk3 : (o.K == 3) = true) (h0 : (o.M == 0) = false) (h1 : (o.M == 1) = true) : Calls Tryz.prog 36 #[opv o] w fun e w' => e = .returned (.bool (makesB o vg vz)) ∧ Below w.heap.size w w' := by
  have a67 := OpV.g67 ho
  have a73 := OpV.g73 ho
  have a74 := OpV.g74 ho
  have hh : Hid (makesB o vg vz = vz) := by unfold Hid makesB addsB; simp [hk1, hk3, h0, h1]
  go_enter Tryz.func36, Tryz.ntmps36
  go_wp2_with (first | (refine load_part rfl 34 (.tmp 30) rfl _ 74 rfl _ _ (0, 0) _ _ (heap_alloc_new _ _) (OpV.pV ho) Tryz.underlying34 rfl (val_info _) ?_) | (refine load_part rfl 34 (.tmp 51) rfl _ 74 rfl _ _ (0, 0) _ _ (heap_alloc_new _ _) (OpV.pV ho) Tryz.underlying34 rfl (val_info _) ?_) | (go_at_call 50; with_reducible (refine (HG.out _ ((Below.refl _ _).alloc (Nat.le_refl _) _)).mono ?_); rintro e w1 ⟨rfl, hb1⟩) | (go_at_call 51; with_reducible (refine (HZ.out _ ((Below.refl _ _).alloc (Nat.le_refl _) _)).mono ?_); rintro e w1 ⟨rfl, hb1⟩))
  go_ret
  exact ⟨ret_bool hh.out.symm, below_then ((Below.refl _ _).alloc (Nat.le_refl _) _) (by simp) hb1⟩
set_option maxHeartbeats 1000000 in
theorem makes_k3_2 (hk1 : (o.K == 1) = false) (hk3 : (o.K == 3) = true) (h0 : (o.M == 0) = false) (h1 : (o.M == 1) = false) (h2 : (o.M == 2) = true) : Calls Tryz.prog 36 #[opv o] w fun e w' => e = .returned (.bool (makesB o vg vz)) ∧ Below w.heap.size w w' := by
  have a67 := OpV.g67 ho
  have a73 := OpV.g73 ho
  have a74 := OpV.g74 ho
  have hh : Hid (makesB o vg vz = vz) := by unfold Hid makesB addsB; simp [hk1, hk3, h0, h1, h2]
  go_enter Tryz.func36, Tryz.ntmps36
  go_wp2_with (first | (refine load_part rfl 34 (.tmp 30) rfl _ 74 rfl _ _ (0, 0) _ _ (heap_alloc_new _ _) (OpV.pV ho) Tryz.underlying34 rfl (val_info _) ?_) | (refine load_part rfl 34 (.tmp 51) rfl _ 74 rfl _ _ (0, 0) _ _ (heap_alloc_new _ _) (OpV.pV ho) Tryz.underlying34 rfl (val_info _) ?_) | (go_at_call 50; with_reducible (refine (HG.out _ ((Below.refl _ _).alloc (Nat.le_refl _) _)).mono ?_); rintro e w1 ⟨rfl, hb1⟩) | (go_at_call 51; with_reducible (refine (HZ.out _ ((Below.refl _ _).alloc (Nat.le_refl _) _)).mono ?_); rintro e w1 ⟨rfl, hb1⟩))
  go_ret
  exact ⟨ret_bool hh.out.symm, below_then ((Below.refl _ _).alloc (Nat.le_refl _) _) (by simp) hb1⟩
set_option maxHeartbeats 1000000 in
theorem makes_k3_0 (hk1 : (o.K == 1) = false) (hk3 : (o.K == 3) = true) (h0 : (o.M == 0) = false) (h1 : (o.M == 1) = false) (h2 : (o.M == 2) = false) : Calls Tryz.prog 36 #[opv o] w fun e w' => e = .returned (.bool (makesB o vg vz)) ∧ Below w.heap.size w w' := by
  have a67 := OpV.g67 ho
  have a73 := OpV.g73 ho
  have a74 := OpV.g74 ho
  have hh : Hid (makesB o vg vz = false) := by unfold Hid makesB addsB; simp [hk1, hk3, h0, h1, h2]
  go_enter Tryz.func36, Tryz.ntmps36
  go_wp2_with (first | (refine load_part rfl 34 (.tmp 30) rfl _ 74 rfl _ _ (0, 0) _ _ (heap_alloc_new _ _) (OpV.pV ho) Tryz.underlying34 rfl (val_info _) ?_) | (refine load_part rfl 34 (.tmp 51) rfl _ 74 rfl _ _ (0, 0) _ _ (heap_alloc_new _ _) (OpV.pV ho) Tryz.underlying34 rfl (val_info _) ?_) | (go_at_call 50; with_reducible (refine (HG.out _ ((Below.refl _ _).alloc (Nat.le_refl _) _)).mono ?_); rintro e w1 ⟨rfl, hb1⟩) | (go_at_call 51; with_reducible (refine (HZ.out _ ((Below.refl _ _).alloc (Nat.le_refl _) _)).mono ?_); rintro e w1 ⟨rfl, hb1⟩))
  go_ret
  exact ⟨ret_bool hh.out.symm, (Below.refl _ _).alloc (Nat.le_refl _) _⟩
theorem makes_k3 (hk1 : (o.K == 1) = false) (hk3 : (o.K == 3) = true) : Calls Tryz.prog 36 #[opv o] w fun e w' => e = .returned (.bool (makesB o vg vz)) ∧ Below w.heap.size w w' := by
  cases h0 : (o.M == 0)
  · cases h1 : (o.M == 1)
    · cases h2 : (o.M == 2)
      · exact makes_k3_0 o vg vz w ho HG HZ hk1 hk3 h0 h1 h2
      · exact makes_k3_2 o vg vz w ho HG HZ hk1 hk3 h0 h1 h2
    · exact makes_k3_1 o vg vz w ho HG HZ hk1 hk3 h0 h1
  · cases h5 : (o.VK != 5)
    · exact makes_k3_5 o vg vz w ho HG HZ hk1 hk3 h0 h5
    · cases h6 : (o.VK != 6)
      · exact makes_k3_6 o vg vz w ho HG HZ hk1 hk3 h0 h5 h6
      · exact makes_k3_g o vg vz w ho HG HZ hk1 hk3 h0 h5 h6
set_option maxHeartbeats 1000000 in
theorem makes_kn_0 (hk1 : (o.K == 1) = false) (hk3 : (o.K == 3) = false) (h0 : (o.M == 0) = true) : Calls Tryz.prog 36 #[opv o] w fun e w' => e = .returned (.bool (makesB o vg vz)) ∧ Below w.heap.size w w' := by
  have a67 := OpV.g67 ho
  have a73 := OpV.g73 ho
  have a74 := OpV.g74 ho
  have hh : Hid (makesB o vg vz = vz) := by unfold Hid makesB addsB; simp [hk1, hk3, h0]
  go_enter Tryz.func36, Tryz.ntmps36
  go_wp2_with (first | (refine load_part rfl 34 (.tmp 30) rfl _ 74 rfl _ _ (0, 0) _ _ (heap_alloc_new _ _) (OpV.pV ho) Tryz.underlying34 rfl (val_info _) ?_) | (refine load_part rfl 34 (.tmp 51) rfl _ 74 rfl _ _ (0, 0) _ _ (heap_alloc_new _ _) (OpV.pV ho) Tryz.underlying34 rfl (val_info _) ?_) | (go_at_call 50; with_reducible (refine (HG.out _ ((Below.refl _ _).alloc (Nat.le_refl _) _)).mono ?_); rintro e w1 ⟨rfl, hb1⟩) | (go_at_call 51; with_reducible (refine (HZ.out _ ((Below.refl _ _).alloc (Nat.le_refl _) _)).mono ?_); rintro e w1 ⟨rfl, hb1⟩))
  go_ret
  exact ⟨ret_bool hh.out.symm, below_then ((Below.refl _ _).alloc (Nat.le_refl _) _) (by simp) hb1⟩
set_option maxHeartbeats 1000000 in
theorem makes_kn_n (hk1 : (o.K == 1) = false) (hk3 : (o.K == 3) = false) (h0 : (o.M == 0) = false) : Calls Tryz.prog 36 #[opv o] w fun e w' => e = .returned (.bool (makesB o vg vz)) ∧ Below w.heap.size w w' := by
  have a67 := OpV.g67 ho
  have a73 := OpV.g73 ho
  have hh : Hid (makesB o vg vz = false) := by unfold Hid makesB addsB; simp [hk1, hk3, h0]
  go_enter Tryz.func36, Tryz.ntmps36
  go_wp2
  go_ret
  exact ⟨ret_bool hh.out.symm, (Below.refl _ _).alloc (Nat.le_refl _) _⟩
theorem makes_any : Calls Tryz.prog 36 #[opv o] w fun e w' => e = .returned (.bool (makesB o vg vz)) ∧ Below w.heap.size w w' := by
  cases hk1 : (o.K == 1)
  · cases hk3 : (o.K == 3)
    · cases h0 : (o.M == 0)
      · exact makes_kn_n o vg vz w ho HG HZ hk1 hk3 h0
      · exact makes_kn_0 o vg vz w ho HG HZ hk1 hk3 h0
    · exact makes_k3 o vg vz w ho HG HZ hk1 hk3
  · exact makes_k1 o vg vz w ho HG HZ hk1
end
end Go.Proofs.YteplcnpmdjdlkaaGreatDoor
