/-
  The reference's Same of operations tells what ops.Same tells. No condition beside 64 numbers in a vector.
-/
import Derived.Test.YteplcnpmdjdlkaaGreatDoorOpGoodJ
import Derived.Test.YteplcnpmdjdlkaaGreatDoorJ2
import Derived.Test.YteplcnpmdjdlkaaGreatDoorJ10
import Derived.Test.YteplcnpmdjdlkaaGreatDoorRSameJ
namespace Go.Proofs.YteplcnpmdjdlkaaGreatDoor
open Go.RowKit
set_option linter.unusedVariables false
set_option linter.unusedSimpArgs false
set_option linter.unusedSectionVars false
section
variable (a b : OpV) (ta tb : VT) (w : World) (ha : a.seen.length = 64) (hb : b.seen.length = 64) (va : a.vc = ta.c) (vb : b.vc = tb.c) (HA : VT.In w.heap.size w ta) (HB : VT.In w.heap.size w tb)
include ha hb va vb HA HB
set_option maxRecDepth 100000 in
set_option maxHeartbeats 2000000 in
theorem roSame_0 (c0 : (a.R == b.R) = false) : Calls Tryz.prog 17 #[opv a, opv b] w fun e w' => e = .returned (.bool (sameO a b ta tb)) ∧ Below w.heap.size w w' := by
  have hh : Hid (sameO a b ta tb = false) := by unfold Hid sameO; simp [c0]
  have hc := fun W (hB : Below w.heap.size w W) => rsame_v ta tb W ((HA.move hB).up hB.size) ((HB.move hB).up hB.size)
  rw [← va, ← vb] at hc
  have HC := Lib.hid hc
  clear hc va vb
  skip
  have a2 := OpV.g2 (o := a)
  have a67 := OpV.g67 ha
  have a70 := OpV.g70 ha
  have a73 := OpV.g73 ha
  have b2 := OpV.g2 (o := b)
  have b67 := OpV.g67 hb
  have b70 := OpV.g70 hb
  have b73 := OpV.g73 hb
  have hS : Sees w ((w.alloc (Obj.cells a.c 36)).alloc (Obj.cells b.c 36)) [(w.heap.size, Obj.cells a.c 36), (w.heap.size + 1, Obj.cells b.c 36)] := by
    have := ((Sees.start w).alloc (Obj.cells a.c 36)).alloc (Obj.cells b.c 36)
    simpa using this
  go_enter Tryz.func17, Tryz.ntmps17
  go_wp2_with (first | go_skip | (refine load_part rfl 27 (.tmp 5) rfl _ 0 rfl _ _ (0, 0) _ _ hS.g0 OpV.pId Tryz.underlying27 rfl (id_info _ _) ?_) | (refine load_part rfl 27 (.tmp 7) rfl _ 0 rfl _ _ (0, 0) _ _ hS.g1 OpV.pId Tryz.underlying27 rfl (id_info _ _) ?_) | (refine load_part rfl 29 (.tmp 18) rfl _ 3 rfl _ _ (0, 0) _ _ hS.g0 (OpV.pSeen ha) Tryz.underlying29 rfl (seen_info _ ha) ?_) | (refine load_part rfl 29 (.tmp 20) rfl _ 3 rfl _ _ (0, 0) _ _ hS.g1 (OpV.pSeen hb) Tryz.underlying29 rfl (seen_info _ hb) ?_) | (refine load_part rfl 27 (.tmp 32) rfl _ 68 rfl _ _ (0, 0) _ _ hS.g0 (OpV.pObj ha) Tryz.underlying27 rfl (id_info _ _) ?_) | (refine load_part rfl 27 (.tmp 34) rfl _ 68 rfl _ _ (0, 0) _ _ hS.g1 (OpV.pObj hb) Tryz.underlying27 rfl (id_info _ _) ?_) | (refine load_part rfl 27 (.tmp 46) rfl _ 71 rfl _ _ (0, 0) _ _ hS.g0 (OpV.pAt ha) Tryz.underlying27 rfl (id_info _ _) ?_) | (refine load_part rfl 27 (.tmp 48) rfl _ 71 rfl _ _ (0, 0) _ _ hS.g1 (OpV.pAt hb) Tryz.underlying27 rfl (id_info _ _) ?_) | (refine load_part rfl 34 (.tmp 60) rfl _ 74 rfl _ _ (0, 0) _ _ hS.g0 (OpV.pV ha) Tryz.underlying34 rfl (val_info _) ?_) | (refine load_part rfl 34 (.tmp 62) rfl _ 74 rfl _ _ (0, 0) _ _ hS.g1 (OpV.pV hb) Tryz.underlying34 rfl (val_info _) ?_) | (go_at_call 31; with_reducible (refine (HC.out _ hS.below).mono ?_); rintro e wn ⟨rfl, hbn⟩; have hS1 := hS.step hbn; clear hS hbn; have hS := hS1; clear hS1))
  go_ret
  exact ⟨ret_bool hh.out.symm, hS.below⟩
set_option maxRecDepth 100000 in
set_option maxHeartbeats 2000000 in
theorem roSame_1 (c0 : (a.R == b.R) = true) (c1 : (a.N == b.N) = false) : Calls Tryz.prog 17 #[opv a, opv b] w fun e w' => e = .returned (.bool (sameO a b ta tb)) ∧ Below w.heap.size w w' := by
  have hh : Hid (sameO a b ta tb = false) := by unfold Hid sameO; simp [c0, c1]
  have hc := fun W (hB : Below w.heap.size w W) => rsame_v ta tb W ((HA.move hB).up hB.size) ((HB.move hB).up hB.size)
  rw [← va, ← vb] at hc
  have HC := Lib.hid hc
  clear hc va vb
  skip
  have a2 := OpV.g2 (o := a)
  have a67 := OpV.g67 ha
  have a70 := OpV.g70 ha
  have a73 := OpV.g73 ha
  have b2 := OpV.g2 (o := b)
  have b67 := OpV.g67 hb
  have b70 := OpV.g70 hb
  have b73 := OpV.g73 hb
  have hS : Sees w ((w.alloc (Obj.cells a.c 36)).alloc (Obj.cells b.c 36)) [(w.heap.size, Obj.cells a.c 36), (w.heap.size + 1, Obj.cells b.c 36)] := by
    have := ((Sees.start w).alloc (Obj.cells a.c 36)).alloc (Obj.cells b.c 36)
    simpa using this
  go_enter Tryz.func17, Tryz.ntmps17
  go_wp2_with (first | go_skip | (refine load_part rfl 27 (.tmp 5) rfl _ 0 rfl _ _ (0, 0) _ _ hS.g0 OpV.pId Tryz.underlying27 rfl (id_info _ _) ?_) | (refine load_part rfl 27 (.tmp 7) rfl _ 0 rfl _ _ (0, 0) _ _ hS.g1 OpV.pId Tryz.underlying27 rfl (id_info _ _) ?_) | (refine load_part rfl 29 (.tmp 18) rfl _ 3 rfl _ _ (0, 0) _ _ hS.g0 (OpV.pSeen ha) Tryz.underlying29 rfl (seen_info _ ha) ?_) | (refine load_part rfl 29 (.tmp 20) rfl _ 3 rfl _ _ (0, 0) _ _ hS.g1 (OpV.pSeen hb) Tryz.underlying29 rfl (seen_info _ hb) ?_) | (refine load_part rfl 27 (.tmp 32) rfl _ 68 rfl _ _ (0, 0) _ _ hS.g0 (OpV.pObj ha) Tryz.underlying27 rfl (id_info _ _) ?_) | (refine load_part rfl 27 (.tmp 34) rfl _ 68 rfl _ _ (0, 0) _ _ hS.g1 (OpV.pObj hb) Tryz.underlying27 rfl (id_info _ _) ?_) | (refine load_part rfl 27 (.tmp 46) rfl _ 71 rfl _ _ (0, 0) _ _ hS.g0 (OpV.pAt ha) Tryz.underlying27 rfl (id_info _ _) ?_) | (refine load_part rfl 27 (.tmp 48) rfl _ 71 rfl _ _ (0, 0) _ _ hS.g1 (OpV.pAt hb) Tryz.underlying27 rfl (id_info _ _) ?_) | (refine load_part rfl 34 (.tmp 60) rfl _ 74 rfl _ _ (0, 0) _ _ hS.g0 (OpV.pV ha) Tryz.underlying34 rfl (val_info _) ?_) | (refine load_part rfl 34 (.tmp 62) rfl _ 74 rfl _ _ (0, 0) _ _ hS.g1 (OpV.pV hb) Tryz.underlying34 rfl (val_info _) ?_) | (go_at_call 31; with_reducible (refine (HC.out _ hS.below).mono ?_); rintro e wn ⟨rfl, hbn⟩; have hS1 := hS.step hbn; clear hS hbn; have hS := hS1; clear hS1))
  go_ret
  exact ⟨ret_bool hh.out.symm, hS.below⟩
set_option maxRecDepth 100000 in
set_option maxHeartbeats 2000000 in
theorem roSame_2 (c0 : (a.R == b.R) = true) (c1 : (a.N == b.N) = true) (c2 : (a.T == b.T) = false) : Calls Tryz.prog 17 #[opv a, opv b] w fun e w' => e = .returned (.bool (sameO a b ta tb)) ∧ Below w.heap.size w w' := by
  have hh : Hid (sameO a b ta tb = false) := by unfold Hid sameO; simp [c0, c1, c2]
  have hc := fun W (hB : Below w.heap.size w W) => rsame_v ta tb W ((HA.move hB).up hB.size) ((HB.move hB).up hB.size)
  rw [← va, ← vb] at hc
  have HC := Lib.hid hc
  clear hc va vb
  skip
  have a2 := OpV.g2 (o := a)
  have a67 := OpV.g67 ha
  have a70 := OpV.g70 ha
  have a73 := OpV.g73 ha
  have b2 := OpV.g2 (o := b)
  have b67 := OpV.g67 hb
  have b70 := OpV.g70 hb
  have b73 := OpV.g73 hb
  have hS : Sees w ((w.alloc (Obj.cells a.c 36)).alloc (Obj.cells b.c 36)) [(w.heap.size, Obj.cells a.c 36), (w.heap.size + 1, Obj.cells b.c 36)] := by
    have := ((Sees.start w).alloc (Obj.cells a.c 36)).alloc (Obj.cells b.c 36)
    simpa using this
  go_enter Tryz.func17, Tryz.ntmps17
  go_wp2_with (first | go_skip | (refine load_part rfl 27 (.tmp 5) rfl _ 0 rfl _ _ (0, 0) _ _ hS.g0 OpV.pId Tryz.underlying27 rfl (id_info _ _) ?_) | (refine load_part rfl 27 (.tmp 7) rfl _ 0 rfl _ _ (0, 0) _ _ hS.g1 OpV.pId Tryz.underlying27 rfl (id_info _ _) ?_) | (refine load_part rfl 29 (.tmp 18) rfl _ 3 rfl _ _ (0, 0) _ _ hS.g0 (OpV.pSeen ha) Tryz.underlying29 rfl (seen_info _ ha) ?_) | (refine load_part rfl 29 (.tmp 20) rfl _ 3 rfl _ _ (0, 0) _ _ hS.g1 (OpV.pSeen hb) Tryz.underlying29 rfl (seen_info _ hb) ?_) | (refine load_part rfl 27 (.tmp 32) rfl _ 68 rfl _ _ (0, 0) _ _ hS.g0 (OpV.pObj ha) Tryz.underlying27 rfl (id_info _ _) ?_) | (refine load_part rfl 27 (.tmp 34) rfl _ 68 rfl _ _ (0, 0) _ _ hS.g1 (OpV.pObj hb) Tryz.underlying27 rfl (id_info _ _) ?_) | (refine load_part rfl 27 (.tmp 46) rfl _ 71 rfl _ _ (0, 0) _ _ hS.g0 (OpV.pAt ha) Tryz.underlying27 rfl (id_info _ _) ?_) | (refine load_part rfl 27 (.tmp 48) rfl _ 71 rfl _ _ (0, 0) _ _ hS.g1 (OpV.pAt hb) Tryz.underlying27 rfl (id_info _ _) ?_) | (refine load_part rfl 34 (.tmp 60) rfl _ 74 rfl _ _ (0, 0) _ _ hS.g0 (OpV.pV ha) Tryz.underlying34 rfl (val_info _) ?_) | (refine load_part rfl 34 (.tmp 62) rfl _ 74 rfl _ _ (0, 0) _ _ hS.g1 (OpV.pV hb) Tryz.underlying34 rfl (val_info _) ?_) | (go_at_call 31; with_reducible (refine (HC.out _ hS.below).mono ?_); rintro e wn ⟨rfl, hbn⟩; have hS1 := hS.step hbn; clear hS hbn; have hS := hS1; clear hS1))
  go_ret
  exact ⟨ret_bool hh.out.symm, hS.below⟩
set_option maxRecDepth 100000 in
set_option maxHeartbeats 2000000 in
theorem roSame_3 (c0 : (a.R == b.R) = true) (c1 : (a.N == b.N) = true) (c2 : (a.T == b.T) = true) (c3 : (a.seen == b.seen) = false) : Calls Tryz.prog 17 #[opv a, opv b] w fun e w' => e = .returned (.bool (sameO a b ta tb)) ∧ Below w.heap.size w w' := by
  have hh : Hid (sameO a b ta tb = false) := by unfold Hid sameO; simp [c0, c1, c2, c3]
  have hc := fun W (hB : Below w.heap.size w W) => rsame_v ta tb W ((HA.move hB).up hB.size) ((HB.move hB).up hB.size)
  rw [← va, ← vb] at hc
  have HC := Lib.hid hc
  clear hc va vb
  have hve : ∀ W, (binOp .eql 29 (.agg (vcells a.seen)) (.agg (vcells b.seen))).run Tryz.prog W = .ok (.bool false) W := fun W => (vec_eql W _ _ ha hb).trans (by rw [c3])
  have a2 := OpV.g2 (o := a)
  have a67 := OpV.g67 ha
  have a70 := OpV.g70 ha
  have a73 := OpV.g73 ha
  have b2 := OpV.g2 (o := b)
  have b67 := OpV.g67 hb
  have b70 := OpV.g70 hb
  have b73 := OpV.g73 hb
  have hS : Sees w ((w.alloc (Obj.cells a.c 36)).alloc (Obj.cells b.c 36)) [(w.heap.size, Obj.cells a.c 36), (w.heap.size + 1, Obj.cells b.c 36)] := by
    have := ((Sees.start w).alloc (Obj.cells a.c 36)).alloc (Obj.cells b.c 36)
    simpa using this
  go_enter Tryz.func17, Tryz.ntmps17
  go_wp2_with (first | go_skip | (refine load_part rfl 27 (.tmp 5) rfl _ 0 rfl _ _ (0, 0) _ _ hS.g0 OpV.pId Tryz.underlying27 rfl (id_info _ _) ?_) | (refine load_part rfl 27 (.tmp 7) rfl _ 0 rfl _ _ (0, 0) _ _ hS.g1 OpV.pId Tryz.underlying27 rfl (id_info _ _) ?_) | (refine load_part rfl 29 (.tmp 18) rfl _ 3 rfl _ _ (0, 0) _ _ hS.g0 (OpV.pSeen ha) Tryz.underlying29 rfl (seen_info _ ha) ?_) | (refine load_part rfl 29 (.tmp 20) rfl _ 3 rfl _ _ (0, 0) _ _ hS.g1 (OpV.pSeen hb) Tryz.underlying29 rfl (seen_info _ hb) ?_) | (refine load_part rfl 27 (.tmp 32) rfl _ 68 rfl _ _ (0, 0) _ _ hS.g0 (OpV.pObj ha) Tryz.underlying27 rfl (id_info _ _) ?_) | (refine load_part rfl 27 (.tmp 34) rfl _ 68 rfl _ _ (0, 0) _ _ hS.g1 (OpV.pObj hb) Tryz.underlying27 rfl (id_info _ _) ?_) | (refine load_part rfl 27 (.tmp 46) rfl _ 71 rfl _ _ (0, 0) _ _ hS.g0 (OpV.pAt ha) Tryz.underlying27 rfl (id_info _ _) ?_) | (refine load_part rfl 27 (.tmp 48) rfl _ 71 rfl _ _ (0, 0) _ _ hS.g1 (OpV.pAt hb) Tryz.underlying27 rfl (id_info _ _) ?_) | (refine load_part rfl 34 (.tmp 60) rfl _ 74 rfl _ _ (0, 0) _ _ hS.g0 (OpV.pV ha) Tryz.underlying34 rfl (val_info _) ?_) | (refine load_part rfl 34 (.tmp 62) rfl _ 74 rfl _ _ (0, 0) _ _ hS.g1 (OpV.pV hb) Tryz.underlying34 rfl (val_info _) ?_) | (go_at_call 31; with_reducible (refine (HC.out _ hS.below).mono ?_); rintro e wn ⟨rfl, hbn⟩; have hS1 := hS.step hbn; clear hS hbn; have hS := hS1; clear hS1))
  go_ret
  exact ⟨ret_bool hh.out.symm, hS.below⟩
set_option maxRecDepth 100000 in
set_option maxHeartbeats 2000000 in
theorem roSame_4 (c0 : (a.R == b.R) = true) (c1 : (a.N == b.N) = true) (c2 : (a.T == b.T) = true) (c3 : (a.seen == b.seen) = true) (c4 : (a.K == b.K) = false) : Calls Tryz.prog 17 #[opv a, opv b] w fun e w' => e = .returned (.bool (sameO a b ta tb)) ∧ Below w.heap.size w w' := by
  have hh : Hid (sameO a b ta tb = false) := by unfold Hid sameO; simp [c0, c1, c2, c3, c4]
  have hc := fun W (hB : Below w.heap.size w W) => rsame_v ta tb W ((HA.move hB).up hB.size) ((HB.move hB).up hB.size)
  rw [← va, ← vb] at hc
  have HC := Lib.hid hc
  clear hc va vb
  have hve : ∀ W, (binOp .eql 29 (.agg (vcells a.seen)) (.agg (vcells b.seen))).run Tryz.prog W = .ok (.bool true) W := fun W => (vec_eql W _ _ ha hb).trans (by rw [c3])
  have a2 := OpV.g2 (o := a)
  have a67 := OpV.g67 ha
  have a70 := OpV.g70 ha
  have a73 := OpV.g73 ha
  have b2 := OpV.g2 (o := b)
  have b67 := OpV.g67 hb
  have b70 := OpV.g70 hb
  have b73 := OpV.g73 hb
  have hS : Sees w ((w.alloc (Obj.cells a.c 36)).alloc (Obj.cells b.c 36)) [(w.heap.size, Obj.cells a.c 36), (w.heap.size + 1, Obj.cells b.c 36)] := by
    have := ((Sees.start w).alloc (Obj.cells a.c 36)).alloc (Obj.cells b.c 36)
    simpa using this
  go_enter Tryz.func17, Tryz.ntmps17
  go_wp2_with (first | go_skip | (refine load_part rfl 27 (.tmp 5) rfl _ 0 rfl _ _ (0, 0) _ _ hS.g0 OpV.pId Tryz.underlying27 rfl (id_info _ _) ?_) | (refine load_part rfl 27 (.tmp 7) rfl _ 0 rfl _ _ (0, 0) _ _ hS.g1 OpV.pId Tryz.underlying27 rfl (id_info _ _) ?_) | (refine load_part rfl 29 (.tmp 18) rfl _ 3 rfl _ _ (0, 0) _ _ hS.g0 (OpV.pSeen ha) Tryz.underlying29 rfl (seen_info _ ha) ?_) | (refine load_part rfl 29 (.tmp 20) rfl _ 3 rfl _ _ (0, 0) _ _ hS.g1 (OpV.pSeen hb) Tryz.underlying29 rfl (seen_info _ hb) ?_) | (refine load_part rfl 27 (.tmp 32) rfl _ 68 rfl _ _ (0, 0) _ _ hS.g0 (OpV.pObj ha) Tryz.underlying27 rfl (id_info _ _) ?_) | (refine load_part rfl 27 (.tmp 34) rfl _ 68 rfl _ _ (0, 0) _ _ hS.g1 (OpV.pObj hb) Tryz.underlying27 rfl (id_info _ _) ?_) | (refine load_part rfl 27 (.tmp 46) rfl _ 71 rfl _ _ (0, 0) _ _ hS.g0 (OpV.pAt ha) Tryz.underlying27 rfl (id_info _ _) ?_) | (refine load_part rfl 27 (.tmp 48) rfl _ 71 rfl _ _ (0, 0) _ _ hS.g1 (OpV.pAt hb) Tryz.underlying27 rfl (id_info _ _) ?_) | (refine load_part rfl 34 (.tmp 60) rfl _ 74 rfl _ _ (0, 0) _ _ hS.g0 (OpV.pV ha) Tryz.underlying34 rfl (val_info _) ?_) | (refine load_part rfl 34 (.tmp 62) rfl _ 74 rfl _ _ (0, 0) _ _ hS.g1 (OpV.pV hb) Tryz.underlying34 rfl (val_info _) ?_) | (go_at_call 31; with_reducible (refine (HC.out _ hS.below).mono ?_); rintro e wn ⟨rfl, hbn⟩; have hS1 := hS.step hbn; clear hS hbn; have hS := hS1; clear hS1))
  go_ret
  exact ⟨ret_bool hh.out.symm, hS.below⟩
set_option maxRecDepth 100000 in
set_option maxHeartbeats 2000000 in
theorem roSame_5 (c0 : (a.R == b.R) = true) (c1 : (a.N == b.N) = true) (c2 : (a.T == b.T) = true) (c3 : (a.seen == b.seen) = true) (c4 : (a.K == b.K) = true) (c5 : (a.OR == b.OR) = false) : Calls Tryz.prog 17 #[opv a, opv b] w fun e w' => e = .returned (.bool (sameO a b ta tb)) ∧ Below w.heap.size w w' := by
  have hh : Hid (sameO a b ta tb = false) := by unfold Hid sameO; simp [c0, c1, c2, c3, c4, c5]
  have hc := fun W (hB : Below w.heap.size w W) => rsame_v ta tb W ((HA.move hB).up hB.size) ((HB.move hB).up hB.size)
  rw [← va, ← vb] at hc
  have HC := Lib.hid hc
  clear hc va vb
  have hve : ∀ W, (binOp .eql 29 (.agg (vcells a.seen)) (.agg (vcells b.seen))).run Tryz.prog W = .ok (.bool true) W := fun W => (vec_eql W _ _ ha hb).trans (by rw [c3])
  have a2 := OpV.g2 (o := a)
  have a67 := OpV.g67 ha
  have a70 := OpV.g70 ha
  have a73 := OpV.g73 ha
  have b2 := OpV.g2 (o := b)
  have b67 := OpV.g67 hb
  have b70 := OpV.g70 hb
  have b73 := OpV.g73 hb
  have hS : Sees w ((w.alloc (Obj.cells a.c 36)).alloc (Obj.cells b.c 36)) [(w.heap.size, Obj.cells a.c 36), (w.heap.size + 1, Obj.cells b.c 36)] := by
    have := ((Sees.start w).alloc (Obj.cells a.c 36)).alloc (Obj.cells b.c 36)
    simpa using this
  go_enter Tryz.func17, Tryz.ntmps17
  go_wp2_with (first | go_skip | (refine load_part rfl 27 (.tmp 5) rfl _ 0 rfl _ _ (0, 0) _ _ hS.g0 OpV.pId Tryz.underlying27 rfl (id_info _ _) ?_) | (refine load_part rfl 27 (.tmp 7) rfl _ 0 rfl _ _ (0, 0) _ _ hS.g1 OpV.pId Tryz.underlying27 rfl (id_info _ _) ?_) | (refine load_part rfl 29 (.tmp 18) rfl _ 3 rfl _ _ (0, 0) _ _ hS.g0 (OpV.pSeen ha) Tryz.underlying29 rfl (seen_info _ ha) ?_) | (refine load_part rfl 29 (.tmp 20) rfl _ 3 rfl _ _ (0, 0) _ _ hS.g1 (OpV.pSeen hb) Tryz.underlying29 rfl (seen_info _ hb) ?_) | (refine load_part rfl 27 (.tmp 32) rfl _ 68 rfl _ _ (0, 0) _ _ hS.g0 (OpV.pObj ha) Tryz.underlying27 rfl (id_info _ _) ?_) | (refine load_part rfl 27 (.tmp 34) rfl _ 68 rfl _ _ (0, 0) _ _ hS.g1 (OpV.pObj hb) Tryz.underlying27 rfl (id_info _ _) ?_) | (refine load_part rfl 27 (.tmp 46) rfl _ 71 rfl _ _ (0, 0) _ _ hS.g0 (OpV.pAt ha) Tryz.underlying27 rfl (id_info _ _) ?_) | (refine load_part rfl 27 (.tmp 48) rfl _ 71 rfl _ _ (0, 0) _ _ hS.g1 (OpV.pAt hb) Tryz.underlying27 rfl (id_info _ _) ?_) | (refine load_part rfl 34 (.tmp 60) rfl _ 74 rfl _ _ (0, 0) _ _ hS.g0 (OpV.pV ha) Tryz.underlying34 rfl (val_info _) ?_) | (refine load_part rfl 34 (.tmp 62) rfl _ 74 rfl _ _ (0, 0) _ _ hS.g1 (OpV.pV hb) Tryz.underlying34 rfl (val_info _) ?_) | (go_at_call 31; with_reducible (refine (HC.out _ hS.below).mono ?_); rintro e wn ⟨rfl, hbn⟩; have hS1 := hS.step hbn; clear hS hbn; have hS := hS1; clear hS1))
  go_ret
  exact ⟨ret_bool hh.out.symm, hS.below⟩
set_option maxRecDepth 100000 in
set_option maxHeartbeats 2000000 in
theorem roSame_6 (c0 : (a.R == b.R) = true) (c1 : (a.N == b.N) = true) (c2 : (a.T == b.T) = true) (c3 : (a.seen == b.seen) = true) (c4 : (a.K == b.K) = true) (c5 : (a.OR == b.OR) = true) (c6 : (a.ON == b.ON) = false) : Calls Tryz.prog 17 #[opv a, opv b] w fun e w' => e = .returned (.bool (sameO a b ta tb)) ∧ Below w.heap.size w w' := by
  have hh : Hid (sameO a b ta tb = false) := by unfold Hid sameO; simp [c0, c1, c2, c3, c4, c5, c6]
  have hc := fun W (hB : Below w.heap.size w W) => rsame_v ta tb W ((HA.move hB).up hB.size) ((HB.move hB).up hB.size)
  rw [← va, ← vb] at hc
  have HC := Lib.hid hc
  clear hc va vb
  have hve : ∀ W, (binOp .eql 29 (.agg (vcells a.seen)) (.agg (vcells b.seen))).run Tryz.prog W = .ok (.bool true) W := fun W => (vec_eql W _ _ ha hb).trans (by rw [c3])
  have a2 := OpV.g2 (o := a)
  have a67 := OpV.g67 ha
  have a70 := OpV.g70 ha
  have a73 := OpV.g73 ha
  have b2 := OpV.g2 (o := b)
  have b67 := OpV.g67 hb
  have b70 := OpV.g70 hb
  have b73 := OpV.g73 hb
  have hS : Sees w ((w.alloc (Obj.cells a.c 36)).alloc (Obj.cells b.c 36)) [(w.heap.size, Obj.cells a.c 36), (w.heap.size + 1, Obj.cells b.c 36)] := by
    have := ((Sees.start w).alloc (Obj.cells a.c 36)).alloc (Obj.cells b.c 36)
    simpa using this
  go_enter Tryz.func17, Tryz.ntmps17
  go_wp2_with (first | go_skip | (refine load_part rfl 27 (.tmp 5) rfl _ 0 rfl _ _ (0, 0) _ _ hS.g0 OpV.pId Tryz.underlying27 rfl (id_info _ _) ?_) | (refine load_part rfl 27 (.tmp 7) rfl _ 0 rfl _ _ (0, 0) _ _ hS.g1 OpV.pId Tryz.underlying27 rfl (id_info _ _) ?_) | (refine load_part rfl 29 (.tmp 18) rfl _ 3 rfl _ _ (0, 0) _ _ hS.g0 (OpV.pSeen ha) Tryz.underlying29 rfl (seen_info _ ha) ?_) | (refine load_part rfl 29 (.tmp 20) rfl _ 3 rfl _ _ (0, 0) _ _ hS.g1 (OpV.pSeen hb) Tryz.underlying29 rfl (seen_info _ hb) ?_) | (refine load_part rfl 27 (.tmp 32) rfl _ 68 rfl _ _ (0, 0) _ _ hS.g0 (OpV.pObj ha) Tryz.underlying27 rfl (id_info _ _) ?_) | (refine load_part rfl 27 (.tmp 34) rfl _ 68 rfl _ _ (0, 0) _ _ hS.g1 (OpV.pObj hb) Tryz.underlying27 rfl (id_info _ _) ?_) | (refine load_part rfl 27 (.tmp 46) rfl _ 71 rfl _ _ (0, 0) _ _ hS.g0 (OpV.pAt ha) Tryz.underlying27 rfl (id_info _ _) ?_) | (refine load_part rfl 27 (.tmp 48) rfl _ 71 rfl _ _ (0, 0) _ _ hS.g1 (OpV.pAt hb) Tryz.underlying27 rfl (id_info _ _) ?_) | (refine load_part rfl 34 (.tmp 60) rfl _ 74 rfl _ _ (0, 0) _ _ hS.g0 (OpV.pV ha) Tryz.underlying34 rfl (val_info _) ?_) | (refine load_part rfl 34 (.tmp 62) rfl _ 74 rfl _ _ (0, 0) _ _ hS.g1 (OpV.pV hb) Tryz.underlying34 rfl (val_info _) ?_) | (go_at_call 31; with_reducible (refine (HC.out _ hS.below).mono ?_); rintro e wn ⟨rfl, hbn⟩; have hS1 := hS.step hbn; clear hS hbn; have hS := hS1; clear hS1))
  go_ret
  exact ⟨ret_bool hh.out.symm, hS.below⟩
set_option maxRecDepth 100000 in
set_option maxHeartbeats 2000000 in
theorem roSame_7 (c0 : (a.R == b.R) = true) (c1 : (a.N == b.N) = true) (c2 : (a.T == b.T) = true) (c3 : (a.seen == b.seen) = true) (c4 : (a.K == b.K) = true) (c5 : (a.OR == b.OR) = true) (c6 : (a.ON == b.ON) = true) (c7 : (a.key.toList == b.key.toList) = false) : Calls Tryz.prog 17 #[opv a, opv b] w fun e w' => e = .returned (.bool (sameO a b ta tb)) ∧ Below w.heap.size w w' := by
  have hh : Hid (sameO a b ta tb = false) := by unfold Hid sameO; simp [c0, c1, c2, c3, c4, c5, c6, c7]
  have hc := fun W (hB : Below w.heap.size w W) => rsame_v ta tb W ((HA.move hB).up hB.size) ((HB.move hB).up hB.size)
  rw [← va, ← vb] at hc
  have HC := Lib.hid hc
  clear hc va vb
  have hve : ∀ W, (binOp .eql 29 (.agg (vcells a.seen)) (.agg (vcells b.seen))).run Tryz.prog W = .ok (.bool true) W := fun W => (vec_eql W _ _ ha hb).trans (by rw [c3])
  have a2 := OpV.g2 (o := a)
  have a67 := OpV.g67 ha
  have a70 := OpV.g70 ha
  have a73 := OpV.g73 ha
  have b2 := OpV.g2 (o := b)
  have b67 := OpV.g67 hb
  have b70 := OpV.g70 hb
  have b73 := OpV.g73 hb
  have hS : Sees w ((w.alloc (Obj.cells a.c 36)).alloc (Obj.cells b.c 36)) [(w.heap.size, Obj.cells a.c 36), (w.heap.size + 1, Obj.cells b.c 36)] := by
    have := ((Sees.start w).alloc (Obj.cells a.c 36)).alloc (Obj.cells b.c 36)
    simpa using this
  go_enter Tryz.func17, Tryz.ntmps17
  go_wp2_with (first | go_skip | (refine load_part rfl 27 (.tmp 5) rfl _ 0 rfl _ _ (0, 0) _ _ hS.g0 OpV.pId Tryz.underlying27 rfl (id_info _ _) ?_) | (refine load_part rfl 27 (.tmp 7) rfl _ 0 rfl _ _ (0, 0) _ _ hS.g1 OpV.pId Tryz.underlying27 rfl (id_info _ _) ?_) | (refine load_part rfl 29 (.tmp 18) rfl _ 3 rfl _ _ (0, 0) _ _ hS.g0 (OpV.pSeen ha) Tryz.underlying29 rfl (seen_info _ ha) ?_) | (refine load_part rfl 29 (.tmp 20) rfl _ 3 rfl _ _ (0, 0) _ _ hS.g1 (OpV.pSeen hb) Tryz.underlying29 rfl (seen_info _ hb) ?_) | (refine load_part rfl 27 (.tmp 32) rfl _ 68 rfl _ _ (0, 0) _ _ hS.g0 (OpV.pObj ha) Tryz.underlying27 rfl (id_info _ _) ?_) | (refine load_part rfl 27 (.tmp 34) rfl _ 68 rfl _ _ (0, 0) _ _ hS.g1 (OpV.pObj hb) Tryz.underlying27 rfl (id_info _ _) ?_) | (refine load_part rfl 27 (.tmp 46) rfl _ 71 rfl _ _ (0, 0) _ _ hS.g0 (OpV.pAt ha) Tryz.underlying27 rfl (id_info _ _) ?_) | (refine load_part rfl 27 (.tmp 48) rfl _ 71 rfl _ _ (0, 0) _ _ hS.g1 (OpV.pAt hb) Tryz.underlying27 rfl (id_info _ _) ?_) | (refine load_part rfl 34 (.tmp 60) rfl _ 74 rfl _ _ (0, 0) _ _ hS.g0 (OpV.pV ha) Tryz.underlying34 rfl (val_info _) ?_) | (refine load_part rfl 34 (.tmp 62) rfl _ 74 rfl _ _ (0, 0) _ _ hS.g1 (OpV.pV hb) Tryz.underlying34 rfl (val_info _) ?_) | (go_at_call 31; with_reducible (refine (HC.out _ hS.below).mono ?_); rintro e wn ⟨rfl, hbn⟩; have hS1 := hS.step hbn; clear hS hbn; have hS := hS1; clear hS1))
  go_ret
  exact ⟨ret_bool hh.out.symm, hS.below⟩
set_option maxRecDepth 100000 in
set_option maxHeartbeats 2000000 in
theorem roSame_8 (c0 : (a.R == b.R) = true) (c1 : (a.N == b.N) = true) (c2 : (a.T == b.T) = true) (c3 : (a.seen == b.seen) = true) (c4 : (a.K == b.K) = true) (c5 : (a.OR == b.OR) = true) (c6 : (a.ON == b.ON) = true) (c7 : (a.key.toList == b.key.toList) = true) (c8 : (a.AR == b.AR) = false) : Calls Tryz.prog 17 #[opv a, opv b] w fun e w' => e = .returned (.bool (sameO a b ta tb)) ∧ Below w.heap.size w w' := by
  have hh : Hid (sameO a b ta tb = false) := by unfold Hid sameO; simp [c0, c1, c2, c3, c4, c5, c6, c7, c8]
  have hc := fun W (hB : Below w.heap.size w W) => rsame_v ta tb W ((HA.move hB).up hB.size) ((HB.move hB).up hB.size)
  rw [← va, ← vb] at hc
  have HC := Lib.hid hc
  clear hc va vb
  have hve : ∀ W, (binOp .eql 29 (.agg (vcells a.seen)) (.agg (vcells b.seen))).run Tryz.prog W = .ok (.bool true) W := fun W => (vec_eql W _ _ ha hb).trans (by rw [c3])
  have a2 := OpV.g2 (o := a)
  have a67 := OpV.g67 ha
  have a70 := OpV.g70 ha
  have a73 := OpV.g73 ha
  have b2 := OpV.g2 (o := b)
  have b67 := OpV.g67 hb
  have b70 := OpV.g70 hb
  have b73 := OpV.g73 hb
  have hS : Sees w ((w.alloc (Obj.cells a.c 36)).alloc (Obj.cells b.c 36)) [(w.heap.size, Obj.cells a.c 36), (w.heap.size + 1, Obj.cells b.c 36)] := by
    have := ((Sees.start w).alloc (Obj.cells a.c 36)).alloc (Obj.cells b.c 36)
    simpa using this
  go_enter Tryz.func17, Tryz.ntmps17
  go_wp2_with (first | go_skip | (refine load_part rfl 27 (.tmp 5) rfl _ 0 rfl _ _ (0, 0) _ _ hS.g0 OpV.pId Tryz.underlying27 rfl (id_info _ _) ?_) | (refine load_part rfl 27 (.tmp 7) rfl _ 0 rfl _ _ (0, 0) _ _ hS.g1 OpV.pId Tryz.underlying27 rfl (id_info _ _) ?_) | (refine load_part rfl 29 (.tmp 18) rfl _ 3 rfl _ _ (0, 0) _ _ hS.g0 (OpV.pSeen ha) Tryz.underlying29 rfl (seen_info _ ha) ?_) | (refine load_part rfl 29 (.tmp 20) rfl _ 3 rfl _ _ (0, 0) _ _ hS.g1 (OpV.pSeen hb) Tryz.underlying29 rfl (seen_info _ hb) ?_) | (refine load_part rfl 27 (.tmp 32) rfl _ 68 rfl _ _ (0, 0) _ _ hS.g0 (OpV.pObj ha) Tryz.underlying27 rfl (id_info _ _) ?_) | (refine load_part rfl 27 (.tmp 34) rfl _ 68 rfl _ _ (0, 0) _ _ hS.g1 (OpV.pObj hb) Tryz.underlying27 rfl (id_info _ _) ?_) | (refine load_part rfl 27 (.tmp 46) rfl _ 71 rfl _ _ (0, 0) _ _ hS.g0 (OpV.pAt ha) Tryz.underlying27 rfl (id_info _ _) ?_) | (refine load_part rfl 27 (.tmp 48) rfl _ 71 rfl _ _ (0, 0) _ _ hS.g1 (OpV.pAt hb) Tryz.underlying27 rfl (id_info _ _) ?_) | (refine load_part rfl 34 (.tmp 60) rfl _ 74 rfl _ _ (0, 0) _ _ hS.g0 (OpV.pV ha) Tryz.underlying34 rfl (val_info _) ?_) | (refine load_part rfl 34 (.tmp 62) rfl _ 74 rfl _ _ (0, 0) _ _ hS.g1 (OpV.pV hb) Tryz.underlying34 rfl (val_info _) ?_) | (go_at_call 31; with_reducible (refine (HC.out _ hS.below).mono ?_); rintro e wn ⟨rfl, hbn⟩; have hS1 := hS.step hbn; clear hS hbn; have hS := hS1; clear hS1))
  go_ret
  exact ⟨ret_bool hh.out.symm, hS.below⟩
set_option maxRecDepth 100000 in
set_option maxHeartbeats 2000000 in
theorem roSame_9 (c0 : (a.R == b.R) = true) (c1 : (a.N == b.N) = true) (c2 : (a.T == b.T) = true) (c3 : (a.seen == b.seen) = true) (c4 : (a.K == b.K) = true) (c5 : (a.OR == b.OR) = true) (c6 : (a.ON == b.ON) = true) (c7 : (a.key.toList == b.key.toList) = true) (c8 : (a.AR == b.AR) = true) (c9 : (a.AN == b.AN) = false) : Calls Tryz.prog 17 #[opv a, opv b] w fun e w' => e = .returned (.bool (sameO a b ta tb)) ∧ Below w.heap.size w w' := by
  have hh : Hid (sameO a b ta tb = false) := by unfold Hid sameO; simp [c0, c1, c2, c3, c4, c5, c6, c7, c8, c9]
  have hc := fun W (hB : Below w.heap.size w W) => rsame_v ta tb W ((HA.move hB).up hB.size) ((HB.move hB).up hB.size)
  rw [← va, ← vb] at hc
  have HC := Lib.hid hc
  clear hc va vb
  have hve : ∀ W, (binOp .eql 29 (.agg (vcells a.seen)) (.agg (vcells b.seen))).run Tryz.prog W = .ok (.bool true) W := fun W => (vec_eql W _ _ ha hb).trans (by rw [c3])
  have a2 := OpV.g2 (o := a)
  have a67 := OpV.g67 ha
  have a70 := OpV.g70 ha
  have a73 := OpV.g73 ha
  have b2 := OpV.g2 (o := b)
  have b67 := OpV.g67 hb
  have b70 := OpV.g70 hb
  have b73 := OpV.g73 hb
  have hS : Sees w ((w.alloc (Obj.cells a.c 36)).alloc (Obj.cells b.c 36)) [(w.heap.size, Obj.cells a.c 36), (w.heap.size + 1, Obj.cells b.c 36)] := by
    have := ((Sees.start w).alloc (Obj.cells a.c 36)).alloc (Obj.cells b.c 36)
    simpa using this
  go_enter Tryz.func17, Tryz.ntmps17
  go_wp2_with (first | go_skip | (refine load_part rfl 27 (.tmp 5) rfl _ 0 rfl _ _ (0, 0) _ _ hS.g0 OpV.pId Tryz.underlying27 rfl (id_info _ _) ?_) | (refine load_part rfl 27 (.tmp 7) rfl _ 0 rfl _ _ (0, 0) _ _ hS.g1 OpV.pId Tryz.underlying27 rfl (id_info _ _) ?_) | (refine load_part rfl 29 (.tmp 18) rfl _ 3 rfl _ _ (0, 0) _ _ hS.g0 (OpV.pSeen ha) Tryz.underlying29 rfl (seen_info _ ha) ?_) | (refine load_part rfl 29 (.tmp 20) rfl _ 3 rfl _ _ (0, 0) _ _ hS.g1 (OpV.pSeen hb) Tryz.underlying29 rfl (seen_info _ hb) ?_) | (refine load_part rfl 27 (.tmp 32) rfl _ 68 rfl _ _ (0, 0) _ _ hS.g0 (OpV.pObj ha) Tryz.underlying27 rfl (id_info _ _) ?_) | (refine load_part rfl 27 (.tmp 34) rfl _ 68 rfl _ _ (0, 0) _ _ hS.g1 (OpV.pObj hb) Tryz.underlying27 rfl (id_info _ _) ?_) | (refine load_part rfl 27 (.tmp 46) rfl _ 71 rfl _ _ (0, 0) _ _ hS.g0 (OpV.pAt ha) Tryz.underlying27 rfl (id_info _ _) ?_) | (refine load_part rfl 27 (.tmp 48) rfl _ 71 rfl _ _ (0, 0) _ _ hS.g1 (OpV.pAt hb) Tryz.underlying27 rfl (id_info _ _) ?_) | (refine load_part rfl 34 (.tmp 60) rfl _ 74 rfl _ _ (0, 0) _ _ hS.g0 (OpV.pV ha) Tryz.underlying34 rfl (val_info _) ?_) | (refine load_part rfl 34 (.tmp 62) rfl _ 74 rfl _ _ (0, 0) _ _ hS.g1 (OpV.pV hb) Tryz.underlying34 rfl (val_info _) ?_) | (go_at_call 31; with_reducible (refine (HC.out _ hS.below).mono ?_); rintro e wn ⟨rfl, hbn⟩; have hS1 := hS.step hbn; clear hS hbn; have hS := hS1; clear hS1))
  go_ret
  exact ⟨ret_bool hh.out.symm, hS.below⟩
set_option maxRecDepth 100000 in
set_option maxHeartbeats 2000000 in
theorem roSame_10 (c0 : (a.R == b.R) = true) (c1 : (a.N == b.N) = true) (c2 : (a.T == b.T) = true) (c3 : (a.seen == b.seen) = true) (c4 : (a.K == b.K) = true) (c5 : (a.OR == b.OR) = true) (c6 : (a.ON == b.ON) = true) (c7 : (a.key.toList == b.key.toList) = true) (c8 : (a.AR == b.AR) = true) (c9 : (a.AN == b.AN) = true) (c10 : (a.M == b.M) = false) : Calls Tryz.prog 17 #[opv a, opv b] w fun e w' => e = .returned (.bool (sameO a b ta tb)) ∧ Below w.heap.size w w' := by
  have hh : Hid (sameO a b ta tb = false) := by unfold Hid sameO; simp [c0, c1, c2, c3, c4, c5, c6, c7, c8, c9, c10]
  have hc := fun W (hB : Below w.heap.size w W) => rsame_v ta tb W ((HA.move hB).up hB.size) ((HB.move hB).up hB.size)
  rw [← va, ← vb] at hc
  have HC := Lib.hid hc
  clear hc va vb
  have hve : ∀ W, (binOp .eql 29 (.agg (vcells a.seen)) (.agg (vcells b.seen))).run Tryz.prog W = .ok (.bool true) W := fun W => (vec_eql W _ _ ha hb).trans (by rw [c3])
  have a2 := OpV.g2 (o := a)
  have a67 := OpV.g67 ha
  have a70 := OpV.g70 ha
  have a73 := OpV.g73 ha
  have b2 := OpV.g2 (o := b)
  have b67 := OpV.g67 hb
  have b70 := OpV.g70 hb
  have b73 := OpV.g73 hb
  have hS : Sees w ((w.alloc (Obj.cells a.c 36)).alloc (Obj.cells b.c 36)) [(w.heap.size, Obj.cells a.c 36), (w.heap.size + 1, Obj.cells b.c 36)] := by
    have := ((Sees.start w).alloc (Obj.cells a.c 36)).alloc (Obj.cells b.c 36)
    simpa using this
  go_enter Tryz.func17, Tryz.ntmps17
  go_wp2_with (first | go_skip | (refine load_part rfl 27 (.tmp 5) rfl _ 0 rfl _ _ (0, 0) _ _ hS.g0 OpV.pId Tryz.underlying27 rfl (id_info _ _) ?_) | (refine load_part rfl 27 (.tmp 7) rfl _ 0 rfl _ _ (0, 0) _ _ hS.g1 OpV.pId Tryz.underlying27 rfl (id_info _ _) ?_) | (refine load_part rfl 29 (.tmp 18) rfl _ 3 rfl _ _ (0, 0) _ _ hS.g0 (OpV.pSeen ha) Tryz.underlying29 rfl (seen_info _ ha) ?_) | (refine load_part rfl 29 (.tmp 20) rfl _ 3 rfl _ _ (0, 0) _ _ hS.g1 (OpV.pSeen hb) Tryz.underlying29 rfl (seen_info _ hb) ?_) | (refine load_part rfl 27 (.tmp 32) rfl _ 68 rfl _ _ (0, 0) _ _ hS.g0 (OpV.pObj ha) Tryz.underlying27 rfl (id_info _ _) ?_) | (refine load_part rfl 27 (.tmp 34) rfl _ 68 rfl _ _ (0, 0) _ _ hS.g1 (OpV.pObj hb) Tryz.underlying27 rfl (id_info _ _) ?_) | (refine load_part rfl 27 (.tmp 46) rfl _ 71 rfl _ _ (0, 0) _ _ hS.g0 (OpV.pAt ha) Tryz.underlying27 rfl (id_info _ _) ?_) | (refine load_part rfl 27 (.tmp 48) rfl _ 71 rfl _ _ (0, 0) _ _ hS.g1 (OpV.pAt hb) Tryz.underlying27 rfl (id_info _ _) ?_) | (refine load_part rfl 34 (.tmp 60) rfl _ 74 rfl _ _ (0, 0) _ _ hS.g0 (OpV.pV ha) Tryz.underlying34 rfl (val_info _) ?_) | (refine load_part rfl 34 (.tmp 62) rfl _ 74 rfl _ _ (0, 0) _ _ hS.g1 (OpV.pV hb) Tryz.underlying34 rfl (val_info _) ?_) | (go_at_call 31; with_reducible (refine (HC.out _ hS.below).mono ?_); rintro e wn ⟨rfl, hbn⟩; have hS1 := hS.step hbn; clear hS hbn; have hS := hS1; clear hS1))
  go_ret
  exact ⟨ret_bool hh.out.symm, hS.below⟩
set_option maxRecDepth 100000 in
set_option maxHeartbeats 2000000 in
theorem roSame_11 (c0 : (a.R == b.R) = true) (c1 : (a.N == b.N) = true) (c2 : (a.T == b.T) = true) (c3 : (a.seen == b.seen) = true) (c4 : (a.K == b.K) = true) (c5 : (a.OR == b.OR) = true) (c6 : (a.ON == b.ON) = true) (c7 : (a.key.toList == b.key.toList) = true) (c8 : (a.AR == b.AR) = true) (c9 : (a.AN == b.AN) = true) (c10 : (a.M == b.M) = true) : Calls Tryz.prog 17 #[opv a, opv b] w fun e w' => e = .returned (.bool (sameO a b ta tb)) ∧ Below w.heap.size w w' := by
  have hh : Hid (sameO a b ta tb = sameV ta tb) := by unfold Hid sameO; simp [c0, c1, c2, c3, c4, c5, c6, c7, c8, c9, c10]
  have hc := fun W (hB : Below w.heap.size w W) => rsame_v ta tb W ((HA.move hB).up hB.size) ((HB.move hB).up hB.size)
  rw [← va, ← vb] at hc
  have HC := Lib.hid hc
  clear hc va vb
  have hve : ∀ W, (binOp .eql 29 (.agg (vcells a.seen)) (.agg (vcells b.seen))).run Tryz.prog W = .ok (.bool true) W := fun W => (vec_eql W _ _ ha hb).trans (by rw [c3])
  have a2 := OpV.g2 (o := a)
  have a67 := OpV.g67 ha
  have a70 := OpV.g70 ha
  have a73 := OpV.g73 ha
  have b2 := OpV.g2 (o := b)
  have b67 := OpV.g67 hb
  have b70 := OpV.g70 hb
  have b73 := OpV.g73 hb
  have hS : Sees w ((w.alloc (Obj.cells a.c 36)).alloc (Obj.cells b.c 36)) [(w.heap.size, Obj.cells a.c 36), (w.heap.size + 1, Obj.cells b.c 36)] := by
    have := ((Sees.start w).alloc (Obj.cells a.c 36)).alloc (Obj.cells b.c 36)
    simpa using this
  go_enter Tryz.func17, Tryz.ntmps17
  go_wp2_with (first | go_skip | (refine load_part rfl 27 (.tmp 5) rfl _ 0 rfl _ _ (0, 0) _ _ hS.g0 OpV.pId Tryz.underlying27 rfl (id_info _ _) ?_) | (refine load_part rfl 27 (.tmp 7) rfl _ 0 rfl _ _ (0, 0) _ _ hS.g1 OpV.pId Tryz.underlying27 rfl (id_info _ _) ?_) | (refine load_part rfl 29 (.tmp 18) rfl _ 3 rfl _ _ (0, 0) _ _ hS.g0 (OpV.pSeen ha) Tryz.underlying29 rfl (seen_info _ ha) ?_) | (refine load_part rfl 29 (.tmp 20) rfl _ 3 rfl _ _ (0, 0) _ _ hS.g1 (OpV.pSeen hb) Tryz.underlying29 rfl (seen_info _ hb) ?_) | (refine load_part rfl 27 (.tmp 32) rfl _ 68 rfl _ _ (0, 0) _ _ hS.g0 (OpV.pObj ha) Tryz.underlying27 rfl (id_info _ _) ?_) | (refine load_part rfl 27 (.tmp 34) rfl _ 68 rfl _ _ (0, 0) _ _ hS.g1 (OpV.pObj hb) Tryz.underlying27 rfl (id_info _ _) ?_) | (refine load_part rfl 27 (.tmp 46) rfl _ 71 rfl _ _ (0, 0) _ _ hS.g0 (OpV.pAt ha) Tryz.underlying27 rfl (id_info _ _) ?_) | (refine load_part rfl 27 (.tmp 48) rfl _ 71 rfl _ _ (0, 0) _ _ hS.g1 (OpV.pAt hb) Tryz.underlying27 rfl (id_info _ _) ?_) | (refine load_part rfl 34 (.tmp 60) rfl _ 74 rfl _ _ (0, 0) _ _ hS.g0 (OpV.pV ha) Tryz.underlying34 rfl (val_info _) ?_) | (refine load_part rfl 34 (.tmp 62) rfl _ 74 rfl _ _ (0, 0) _ _ hS.g1 (OpV.pV hb) Tryz.underlying34 rfl (val_info _) ?_) | (go_at_call 31; with_reducible (refine (HC.out _ hS.below).mono ?_); rintro e wn ⟨rfl, hbn⟩; have hS1 := hS.step hbn; clear hS hbn; have hS := hS1; clear hS1))
  go_ret
  exact ⟨ret_bool hh.out.symm, hS.below⟩
theorem roSame_any : Calls Tryz.prog 17 #[opv a, opv b] w fun e w' => e = .returned (.bool (sameO a b ta tb)) ∧ Below w.heap.size w w' := by
  by_cases c0' : (a.R == b.R) = true
  case neg =>
    have c0 : (a.R == b.R) = false := by simpa using c0'
    exact roSame_0 a b ta tb w ha hb va vb HA HB c0
  have c0 := c0'
  by_cases c1' : (a.N == b.N) = true
  case neg =>
    have c1 : (a.N == b.N) = false := by simpa using c1'
    exact roSame_1 a b ta tb w ha hb va vb HA HB c0 c1
  have c1 := c1'
  by_cases c2' : (a.T == b.T) = true
  case neg =>
    have c2 : (a.T == b.T) = false := by simpa using c2'
    exact roSame_2 a b ta tb w ha hb va vb HA HB c0 c1 c2
  have c2 := c2'
  by_cases c3' : (a.seen == b.seen) = true
  case neg =>
    have c3 : (a.seen == b.seen) = false := by simpa using c3'
    exact roSame_3 a b ta tb w ha hb va vb HA HB c0 c1 c2 c3
  have c3 := c3'
  by_cases c4' : (a.K == b.K) = true
  case neg =>
    have c4 : (a.K == b.K) = false := by simpa using c4'
    exact roSame_4 a b ta tb w ha hb va vb HA HB c0 c1 c2 c3 c4
  have c4 := c4'
  by_cases c5' : (a.OR == b.OR) = true
  case neg =>
    have c5 : (a.OR == b.OR) = false := by simpa using c5'
    exact roSame_5 a b ta tb w ha hb va vb HA HB c0 c1 c2 c3 c4 c5
  have c5 := c5'
  by_cases c6' : (a.ON == b.ON) = true
  case neg =>
    have c6 : (a.ON == b.ON) = false := by simpa using c6'
    exact roSame_6 a b ta tb w ha hb va vb HA HB c0 c1 c2 c3 c4 c5 c6
  have c6 := c6'
  by_cases c7' : (a.key.toList == b.key.toList) = true
  case neg =>
    have c7 : (a.key.toList == b.key.toList) = false := by simpa using c7'
    exact roSame_7 a b ta tb w ha hb va vb HA HB c0 c1 c2 c3 c4 c5 c6 c7
  have c7 := c7'
  by_cases c8' : (a.AR == b.AR) = true
  case neg =>
    have c8 : (a.AR == b.AR) = false := by simpa using c8'
    exact roSame_8 a b ta tb w ha hb va vb HA HB c0 c1 c2 c3 c4 c5 c6 c7 c8
  have c8 := c8'
  by_cases c9' : (a.AN == b.AN) = true
  case neg =>
    have c9 : (a.AN == b.AN) = false := by simpa using c9'
    exact roSame_9 a b ta tb w ha hb va vb HA HB c0 c1 c2 c3 c4 c5 c6 c7 c8 c9
  have c9 := c9'
  by_cases c10' : (a.M == b.M) = true
  case neg =>
    have c10 : (a.M == b.M) = false := by simpa using c10'
    exact roSame_10 a b ta tb w ha hb va vb HA HB c0 c1 c2 c3 c4 c5 c6 c7 c8 c9 c10
  have c10 := c10'
  exact roSame_11 a b ta tb w ha hb va vb HA HB c0 c1 c2 c3 c4 c5 c6 c7 c8 c9 c10
end
end Go.Proofs.YteplcnpmdjdlkaaGreatDoor
