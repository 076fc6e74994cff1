/-
  An operation as a row of 79 cells. No condition.
  (ops.Op).makes tells what is written here. Condition: what value.Good and ops.zero tell of the operation's value is known; 64 numbers in a vector.
  (ops.Op).seen tells what is written here. Condition: the operation's name may be; 64 numbers in a vector.
  (ops.Op).named tells what is written here, for all operations and names. No condition beside 64 numbers in a vector.
-/
import Derived.Test.YtffcpmohanhihaaGreatDoorRowPartJ
import Derived.Test.YtffcpmohanhihaaGreatDoorJ13
namespace Go.Proofs.YtffcpmohanhihaaGreatDoor
open Go.RowKit
set_option linter.unusedVariables false
set_option linter.unusedSimpArgs false
/-- An operation's fields; a value's two lists as they lie. -/
structure OpV where
  R : Int
  N : Int
  T : Int
  seen : List Int
  K : Int
  OR : Int
  ON : Int
  key : ByteArray
  AR : Int
  AN : Int
  M : Int
  VK : Int
  VN : Int
  VS : ByteArray
  VL : Value
  VM : Value
namespace OpV
variable (o : OpV)
def v : List Value := [.int .i64 o.VK, .int .i64 o.VN, .string o.VS, o.VL, o.VM]
def l : List Value := [.int .i64 o.R, .int .i64 o.N, .int .i64 o.T] ++ o.seen.map (Value.int .i64) ++ ([.int .i64 o.K, .int .i64 o.OR, .int .i64 o.ON, .string o.key, .int .i64 o.AR, .int .i64 o.AN, .int .i64 o.M] ++ o.v)
def c : Array Value := o.l.toArray
variable {o}
theorem g0 : o.c[0]? = some (.int .i64 o.R) := by simp [c, l]
theorem g1 : o.c[1]? = some (.int .i64 o.N) := by simp [c, l]
theorem g2 : o.c[2]? = some (.int .i64 o.T) := by simp [c, l]
theorem gs (h : o.seen.length = 64) (i : Nat) (hi : i < 64) : o.c[3 + i]? = some (.int .i64 (vat o.seen i)) := by
  simp only [c, l, List.getElem?_toArray]
  rw [List.append_assoc, List.getElem?_append_right (by simp), List.getElem?_append_left (by simp; omega)]
  simp [vat, List.getD_eq_getElem?_getD, List.getElem?_eq_getElem (show i < o.seen.length by omega)]
theorem gt (h : o.seen.length = 64) (i : Nat) : o.c[67 + i]? = ([.int .i64 o.K, .int .i64 o.OR, .int .i64 o.ON, .string o.key, .int .i64 o.AR, .int .i64 o.AN, .int .i64 o.M] ++ o.v)[i]? := by
  simp only [c, l, List.getElem?_toArray]
  rw [List.getElem?_append_right (by simp; omega)]
  congr 1
  simp; omega
theorem g67 (h : o.seen.length = 64) : o.c[67]? = some (.int .i64 o.K) := gt h 0
theorem g68 (h : o.seen.length = 64) : o.c[68]? = some (.int .i64 o.OR) := gt h 1
theorem g69 (h : o.seen.length = 64) : o.c[69]? = some (.int .i64 o.ON) := gt h 2
theorem g70 (h : o.seen.length = 64) : o.c[70]? = some (.string o.key) := gt h 3
theorem g71 (h : o.seen.length = 64) : o.c[71]? = some (.int .i64 o.AR) := gt h 4
theorem g72 (h : o.seen.length = 64) : o.c[72]? = some (.int .i64 o.AN) := gt h 5
theorem g73 (h : o.seen.length = 64) : o.c[73]? = some (.int .i64 o.M) := gt h 6
theorem g74 (h : o.seen.length = 64) : o.c[74]? = some (.int .i64 o.VK) := gt h 7
theorem g75 (h : o.seen.length = 64) : o.c[75]? = some (.int .i64 o.VN) := gt h 8
theorem g76 (h : o.seen.length = 64) : o.c[76]? = some (.string o.VS) := gt h 9
theorem g77 (h : o.seen.length = 64) : o.c[77]? = some o.VL := gt h 10
theorem g78 (h : o.seen.length = 64) : o.c[78]? = some o.VM := gt h 11
theorem size (h : o.seen.length = 64) : o.c.size = 79 := by simp [c, l, v, h]
theorem sId : ∀ (j : Nat) (x : Value), [Value.int .i64 o.R, .int .i64 o.N][j]? = some x → o.c[0 + j]? = some x := by
  intro j x hx
  match j with
  | 0 => simpa using hx ▸ g0 (o := o)
  | 1 => simpa using hx ▸ g1 (o := o)
  | j + 2 => simp at hx
theorem sSeen (h : o.seen.length = 64) : ∀ (j : Nat) (x : Value), (o.seen.map (Value.int .i64))[j]? = some x → o.c[3 + j]? = some x := by
  intro j x hx
  have hj : j < 64 := by
    have := (List.getElem?_eq_some_iff.1 hx).1
    simpa [h] using this
  rw [gs h j hj, ← hx]
  simp [vat, List.getD_eq_getElem?_getD, List.getElem?_eq_getElem (show j < o.seen.length by omega)]
theorem pSeen (h : o.seen.length = 64) : ∀ (j : Nat) (x : Value), (vcells o.seen)[j]? = some x → o.c[3 + j]? = some x := fun j x hx => sSeen h j x (by simpa [vcells] using hx)
theorem sObj (h : o.seen.length = 64) : ∀ (j : Nat) (x : Value), [Value.int .i64 o.OR, .int .i64 o.ON][j]? = some x → o.c[68 + j]? = some x := by
  intro j x hx
  rw [show 68 + j = 67 + (1 + j) by omega, gt h, ← hx]
  match j with
  | 0 => rfl
  | 1 => rfl
  | j + 2 => simp at hx
theorem sAt (h : o.seen.length = 64) : ∀ (j : Nat) (x : Value), [Value.int .i64 o.AR, .int .i64 o.AN][j]? = some x → o.c[71 + j]? = some x := by
  intro j x hx
  rw [show 71 + j = 67 + (4 + j) by omega, gt h, ← hx]
  match j with
  | 0 => rfl
  | 1 => rfl
  | j + 2 => simp at hx
theorem sV (h : o.seen.length = 64) : ∀ (j : Nat) (x : Value), o.v[j]? = some x → o.c[74 + j]? = some x := by
  intro j x hx
  rw [show 74 + j = 67 + (7 + j) by omega, gt h, ← hx, List.getElem?_append_right (by simp)]
  simp
theorem pId : ∀ (j : Nat) (x : Value), #[Value.int .i64 o.R, .int .i64 o.N][j]? = some x → o.c[0 + j]? = some x := fun j x hx => sId j x (by simpa using hx)
theorem pObj (h : o.seen.length = 64) : ∀ (j : Nat) (x : Value), #[Value.int .i64 o.OR, .int .i64 o.ON][j]? = some x → o.c[68 + j]? = some x := fun j x hx => sObj h j x (by simpa using hx)
theorem pAt (h : o.seen.length = 64) : ∀ (j : Nat) (x : Value), #[Value.int .i64 o.AR, .int .i64 o.AN][j]? = some x → o.c[71 + j]? = some x := fun j x hx => sAt h j x (by simpa using hx)
def vc (o : OpV) : Array Value := #[.int .i64 o.VK, .int .i64 o.VN, .string o.VS, o.VL, o.VM]
theorem pV (h : o.seen.length = 64) : ∀ (j : Nat) (x : Value), o.vc[j]? = some x → o.c[74 + j]? = some x := fun j x hx => sV h j x (by simpa [vc, v] using hx)
end OpV
abbrev opv (o : OpV) : Value := .agg o.c
end Go.Proofs.YtffcpmohanhihaaGreatDoor
namespace Go.Proofs.YtffcpmohanhihaaGreatDoor
open Go.RowKit
set_option linter.unusedVariables false
set_option linter.unusedSimpArgs false
set_option linter.unusedSectionVars false
def addsB (o : OpV) : Bool := o.K == 1 || o.K == 3
def makesB (o : OpV) (vg vz : Bool) : Bool :=
  if o.M == 0 && addsB o then o.VK != 5 && o.VK != 6 && vg else if o.M == 0 || addsB o && (o.M == 1 || o.M == 2) then vz else false
theorem val_info (o : OpV) : (Tryz.prog.info? 38).map (·.size) = some o.vc.size := by
  show _ = some 5
  kernel_rfl
section
variable (o : OpV) (vg vz : Bool) (w : World) (ho : o.seen.length = 64)
  (HG : Hid (∀ W, Below w.heap.size w W → Calls Tryz.prog 95 #[.agg o.vc] W fun e w' => e = .returned (.bool vg) ∧ Below W.heap.size W w'))
  (HZ : Hid (∀ W, Below w.heap.size w W → Calls Tryz.prog 96 #[.agg o.vc] W fun e w' => e = .returned (.bool vz) ∧ Below W.heap.size W w'))
include ho HG HZ
set_option maxHeartbeats 1000000 in
theorem makes_k1_5 (hk1 : (o.K == 1) = true) (h0 : (o.M == 0) = true) (h5 : (o.VK != 5) = false) : Calls Tryz.prog 69 #[opv o] w fun e w' => e = .returned (.bool (makesB o vg vz)) ∧ Below w.heap.size w w' := by
  have a67 := OpV.g67 ho
  have a73 := OpV.g73 ho
  have a74 := OpV.g74 ho
  have hh : Hid (makesB o vg vz = false) := by unfold Hid makesB addsB; simp [hk1, h0, h5]
  go_enter Tryz.func69, Tryz.ntmps69
  go_wp2_with (first | (refine load_part rfl 38 (.tmp 30) rfl _ 74 rfl _ _ (0, 0) _ _ (heap_alloc_new _ _) (OpV.pV ho) Tryz.underlying38 rfl (val_info _) ?_) | (refine load_part rfl 38 (.tmp 51) rfl _ 74 rfl _ _ (0, 0) _ _ (heap_alloc_new _ _) (OpV.pV ho) Tryz.underlying38 rfl (val_info _) ?_) | (go_at_call 95; with_reducible (refine (HG.out _ ((Below.refl _ _).alloc (Nat.le_refl _) _)).mono ?_); rintro e w1 ⟨rfl, hb1⟩) | (go_at_call 96; with_reducible (refine (HZ.out _ ((Below.refl _ _).alloc (Nat.le_refl _) _)).mono ?_); rintro e w1 ⟨rfl, hb1⟩))
  go_ret
  exact ⟨ret_bool hh.out.symm, (Below.refl _ _).alloc (Nat.le_refl _) _⟩
set_option maxHeartbeats 1000000 in
theorem makes_k1_6 (hk1 : (o.K == 1) = true) (h0 : (o.M == 0) = true) (h5 : (o.VK != 5) = true) (h6 : (o.VK != 6) = false) : Calls Tryz.prog 69 #[opv o] w fun e w' => e = .returned (.bool (makesB o vg vz)) ∧ Below w.heap.size w w' := by
  have a67 := OpV.g67 ho
  have a73 := OpV.g73 ho
  have a74 := OpV.g74 ho
  have hh : Hid (makesB o vg vz = false) := by unfold Hid makesB addsB; simp [hk1, h0, h5, h6]
  go_enter Tryz.func69, Tryz.ntmps69
  go_wp2_with (first | (refine load_part rfl 38 (.tmp 30) rfl _ 74 rfl _ _ (0, 0) _ _ (heap_alloc_new _ _) (OpV.pV ho) Tryz.underlying38 rfl (val_info _) ?_) | (refine load_part rfl 38 (.tmp 51) rfl _ 74 rfl _ _ (0, 0) _ _ (heap_alloc_new _ _) (OpV.pV ho) Tryz.underlying38 rfl (val_info _) ?_) | (go_at_call 95; with_reducible (refine (HG.out _ ((Below.refl _ _).alloc (Nat.le_refl _) _)).mono ?_); rintro e w1 ⟨rfl, hb1⟩) | (go_at_call 96; with_reducible (refine (HZ.out _ ((Below.refl _ _).alloc (Nat.le_refl _) _)).mono ?_); rintro e w1 ⟨rfl, hb1⟩))
  go_ret
  exact ⟨ret_bool hh.out.symm, (Below.refl _ _).alloc (Nat.le_refl _) _⟩
set_option maxHeartbeats 1000000 in
theorem makes_k1_g (hk1 : (o.K == 1) = true) (h0 : (o.M == 0) = true) (h5 : (o.VK != 5) = true) (h6 : (o.VK != 6) = true) : Calls Tryz.prog 69 #[opv o] w fun e w' => e = .returned (.bool (makesB o vg vz)) ∧ Below w.heap.size w w' := by
  have a67 := OpV.g67 ho
  have a73 := OpV.g73 ho
  have a74 := OpV.g74 ho
  have hh : Hid (makesB o vg vz = vg) := by unfold Hid makesB addsB; simp [hk1, h0, h5, h6]
  go_enter Tryz.func69, Tryz.ntmps69
  go_wp2_with (first | (refine load_part rfl 38 (.tmp 30) rfl _ 74 rfl _ _ (0, 0) _ _ (heap_alloc_new _ _) (OpV.pV ho) Tryz.underlying38 rfl (val_info _) ?_) | (refine load_part rfl 38 (.tmp 51) rfl _ 74 rfl _ _ (0, 0) _ _ (heap_alloc_new _ _) (OpV.pV ho) Tryz.underlying38 rfl (val_info _) ?_) | (go_at_call 95; with_reducible (refine (HG.out _ ((Below.refl _ _).alloc (Nat.le_refl _) _)).mono ?_); rintro e w1 ⟨rfl, hb1⟩) | (go_at_call 96; with_reducible (refine (HZ.out _ ((Below.refl _ _).alloc (Nat.le_refl _) _)).mono ?_); rintro e w1 ⟨rfl, hb1⟩))
  go_ret
  exact ⟨ret_bool hh.out.symm, below_then ((Below.refl _ _).alloc (Nat.le_refl _) _) (by simp) hb1⟩
set_option maxHeartbeats 1000000 in
theorem makes_k1_1 (hk1 : (o.K == 1) = true) (h0 : (o.M == 0) = false) (h1 : (o.M == 1) = true) : Calls Tryz.prog 69 #[opv o] w fun e w' => e = .returned (.bool (makesB o vg vz)) ∧ Below w.heap.size w w' := by
  have a67 := OpV.g67 ho
  have a73 := OpV.g73 ho
  have a74 := OpV.g74 ho
  have hh : Hid (makesB o vg vz = vz) := by unfold Hid makesB addsB; simp [hk1, h0, h1]
  go_enter Tryz.func69, Tryz.ntmps69
  go_wp2_with (first | (refine load_part rfl 38 (.tmp 30) rfl _ 74 rfl _ _ (0, 0) _ _ (heap_alloc_new _ _) (OpV.pV ho) Tryz.underlying38 rfl (val_info _) ?_) | (refine load_part rfl 38 (.tmp 51) rfl _ 74 rfl _ _ (0, 0) _ _ (heap_alloc_new _ _) (OpV.pV ho) Tryz.underlying38 rfl (val_info _) ?_) | (go_at_call 95; with_reducible (refine (HG.out _ ((Below.refl _ _).alloc (Nat.le_refl _) _)).mono ?_); rintro e w1 ⟨rfl, hb1⟩) | (go_at_call 96; with_reducible (refine (HZ.out _ ((Below.refl _ _).alloc (Nat.le_refl _) _)).mono ?_); rintro e w1 ⟨rfl, hb1⟩))
  go_ret
  exact ⟨ret_bool hh.out.symm, below_then ((Below.refl _ _).alloc (Nat.le_refl _) _) (by simp) hb1⟩
set_option maxHeartbeats 1000000 in
theorem makes_k1_2 (hk1 : (o.K == 1) = true) (h0 : (o.M == 0) = false) (h1 : (o.M == 1) = false) (h2 : (o.M == 2) = true) : Calls Tryz.prog 69 #[opv o] w fun e w' => e = .returned (.bool (makesB o vg vz)) ∧ Below w.heap.size w w' := by
  have a67 := OpV.g67 ho
  have a73 := OpV.g73 ho
  have a74 := OpV.g74 ho
  have hh : Hid (makesB o vg vz = vz) := by unfold Hid makesB addsB; simp [hk1, h0, h1, h2]
  go_enter Tryz.func69, Tryz.ntmps69
  go_wp2_with (first | (refine load_part rfl 38 (.tmp 30) rfl _ 74 rfl _ _ (0, 0) _ _ (heap_alloc_new _ _) (OpV.pV ho) Tryz.underlying38 rfl (val_info _) ?_) | (refine load_part rfl 38 (.tmp 51) rfl _ 74 rfl _ _ (0, 0) _ _ (heap_alloc_new _ _) (OpV.pV ho) Tryz.underlying38 rfl (val_info _) ?_) | (go_at_call 95; with_reducible (refine (HG.out _ ((Below.refl _ _).alloc (Nat.le_refl _) _)).mono ?_); rintro e w1 ⟨rfl, hb1⟩) | (go_at_call 96; with_reducible (refine (HZ.out _ ((Below.refl _ _).alloc (Nat.le_refl _) _)).mono ?_); rintro e w1 ⟨rfl, hb1⟩))
  go_ret
  exact ⟨ret_bool hh.out.symm, below_then ((Below.refl _ _).alloc (Nat.le_refl _) _) (by simp) hb1⟩
set_option maxHeartbeats 1000000 in
theorem makes_k1_0 (hk1 : (o.K == 1) = true) (h0 : (o.M == 0) = false) (h1 : (o.M == 1) = false) (h2 : (o.M == 2) = false) : Calls Tryz.prog 69 #[opv o] w fun e w' => e = .returned (.bool (makesB o vg vz)) ∧ Below w.heap.size w w' := by
  have a67 := OpV.g67 ho
  have a73 := OpV.g73 ho
  have a74 := OpV.g74 ho
  have hh : Hid (makesB o vg vz = false) := by unfold Hid makesB addsB; simp [hk1, h0, h1, h2]
  go_enter Tryz.func69, Tryz.ntmps69
  go_wp2_with (first | (refine load_part rfl 38 (.tmp 30) rfl _ 74 rfl _ _ (0, 0) _ _ (heap_alloc_new _ _) (OpV.pV ho) Tryz.underlying38 rfl (val_info _) ?_) | (refine load_part rfl 38 (.tmp 51) rfl _ 74 rfl _ _ (0, 0) _ _ (heap_alloc_new _ _) (OpV.pV ho) Tryz.underlying38 rfl (val_info _) ?_) | (go_at_call 95; with_reducible (refine (HG.out _ ((Below.refl _ _).alloc (Nat.le_refl _) _)).mono ?_); rintro e w1 ⟨rfl, hb1⟩) | (go_at_call 96; with_reducible (refine (HZ.out _ ((Below.refl _ _).alloc (Nat.le_refl _) _)).mono ?_); rintro e w1 ⟨rfl, hb1⟩))
  go_ret
  exact ⟨ret_bool hh.out.symm, (Below.refl _ _).alloc (Nat.le_refl _) _⟩
theorem makes_k1 (hk1 : (o.K == 1) = true) : Calls Tryz.prog 69 #[opv o] w fun e w' => e = .returned (.bool (makesB o vg vz)) ∧ Below w.heap.size w w' := by
  cases h0 : (o.M == 0)
  · cases h1 : (o.M == 1)
    · cases h2 : (o.M == 2)
      · exact makes_k1_0 o vg vz w ho HG HZ hk1 h0 h1 h2
      · exact makes_k1_2 o vg vz w ho HG HZ hk1 h0 h1 h2
    · exact makes_k1_1 o vg vz w ho HG HZ hk1 h0 h1
  · cases h5 : (o.VK != 5)
    · exact makes_k1_5 o vg vz w ho HG HZ hk1 h0 h5
    · cases h6 : (o.VK != 6)
      · exact makes_k1_6 o vg vz w ho HG HZ hk1 h0 h5 h6
      · exact makes_k1_g o vg vz w ho HG HZ hk1 h0 h5 h6
set_option maxHeartbeats 1000000 in
theorem makes_k3_5 (hk1 : (o.K == 1) = false) (hk3 : (o.K == 3) = true) (h0 : (o.M == 0) = true) (h5 : (o.VK != 5) = false) : Calls Tryz.prog 69 #[opv o] w fun e w' => e = .returned (.bool (makesB o vg vz)) ∧ Below w.heap.size w w' := by
  have a67 := OpV.g67 ho
  have a73 := OpV.g73 ho
  have a74 := OpV.g74 ho
  have hh : Hid (makesB o vg vz = false) := by unfold Hid makesB addsB; simp [hk1, hk3, h0, h5]
  go_enter Tryz.func69, Tryz.ntmps69
  go_wp2_with (first | (refine load_part rfl 38 (.tmp 30) rfl _ 74 rfl _ _ (0, 0) _ _ (heap_alloc_new _ _) (OpV.pV ho) Tryz.underlying38 rfl (val_info _) ?_) | (refine load_part rfl 38 (.tmp 51) rfl _ 74 rfl _ _ (0, 0) _ _ (heap_alloc_new _ _) (OpV.pV ho) Tryz.underlying38 rfl (val_info _) ?_) | (go_at_call 95; with_reducible (refine (HG.out _ ((Below.refl _ _).alloc (Nat.le_refl _) _)).mono ?_); rintro e w1 ⟨rfl, hb1⟩) | (go_at_call 96; with_reducible (refine (HZ.out _ ((Below.refl _ _).alloc (Nat.le_refl _) _)).mono ?_); rintro e w1 ⟨rfl, hb1⟩))
  go_ret
  exact ⟨ret_bool hh.out.symm, (Below.refl _ _).alloc (Nat.le_refl _) _⟩
set_option maxHeartbeats 1000000 in
theorem makes_k3_6 (hk1 : (o.K == 1) = false) (hk3 : (o.K == 3) = true) (h0 : (o.M == 0) = true) (h5 : (o.VK != 5) = true) (h6 : (o.VK != 6) = false) : Calls Tryz.prog 69 #[opv o] w fun e w' => e = .returned (.bool (makesB o vg vz)) ∧ Below w.heap.size w w' := by
  have a67 := OpV.g67 ho
  have a73 := OpV.g73 ho
  have a74 := OpV.g74 ho
  have hh : Hid (makesB o vg vz = false) := by unfold Hid makesB addsB; simp [hk1, hk3, h0, h5, h6]
  go_enter Tryz.func69, Tryz.ntmps69
  go_wp2_with (first | (refine load_part rfl 38 (.tmp 30) rfl _ 74 rfl _ _ (0, 0) _ _ (heap_alloc_new _ _) (OpV.pV ho) Tryz.underlying38 rfl (val_info _) ?_) | (refine load_part rfl 38 (.tmp 51) rfl _ 74 rfl _ _ (0, 0) _ _ (heap_alloc_new _ _) (OpV.pV ho) Tryz.underlying38 rfl (val_info _) ?_) | (go_at_call 95; with_reducible (refine (HG.out _ ((Below.refl _ _).alloc (Nat.le_refl _) _)).mono ?_); rintro e w1 ⟨rfl, hb1⟩) | (go_at_call 96; with_reducible (refine (HZ.out _ ((Below.refl _ _).alloc (Nat.le_refl _) _)).mono ?_); rintro e w1 ⟨rfl, hb1⟩))
  go_ret
  exact ⟨ret_bool hh.out.symm, (Below.refl _ _).alloc (Nat.le_refl _) _⟩
set_option maxHeartbeats 1000000 in
theorem makes_k3_g (hk1 : (o.K == 1) = false) (hk3 : (o.K == 3) = true) (h0 : (o.M == 0) = true) (h5 : (o.VK != 5) = true) (h6 : (o.VK != 6) = true) : Calls Tryz.prog 69 #[opv o] w fun e w' => e = .returned (.bool (makesB o vg vz)) ∧ Below w.heap.size w w' := by
  have a67 := OpV.g67 ho
  have a73 := OpV.g73 ho
  have a74 := OpV.g74 ho
  have hh : Hid (makesB o vg vz = vg) := by unfold Hid makesB addsB; simp [hk1, hk3, h0, h5, h6]
  go_enter Tryz.func69, Tryz.ntmps69
  go_wp2_with (first | (refine load_part rfl 38 (.tmp 30) rfl _ 74 rfl _ _ (0, 0) _ _ (heap_alloc_new _ _) (OpV.pV ho) Tryz.underlying38 rfl (val_info _) ?_) | (refine load_part rfl 38 (.tmp 51) rfl _ 74 rfl _ _ (0, 0) _ _ (heap_alloc_new _ _) (OpV.pV ho) Tryz.underlying38 rfl (val_info _) ?_) | (go_at_call 95; with_reducible (refine (HG.out _ ((Below.refl _ _).alloc (Nat.le_refl _) _)).mono ?_); rintro e w1 ⟨rfl, hb1⟩) | (go_at_call 96; with_reducible (refine (HZ.out _ ((Below.refl _ _).alloc (Nat.le_refl _) _)).mono ?_); rintro e w1 ⟨rfl, hb1⟩))
  go_ret
  exact ⟨ret_bool hh.out.symm, below_then ((Below.refl _ _).alloc (Nat.le_refl _) _) (by simp) hb1⟩
set_option maxHeartbeats 1000000 in
theorem makes_k3_1 (hk1 : (o.K == 1) = false) (hk3 : (o.K == 3) = true) (h0 : (o.M == 0) = false) (h1 : (o.M == 1) = true) : Calls Tryz.prog 69 #[opv o] w fun e w' => e = .returned (.bool (makesB o vg vz)) ∧ Below w.heap.size w w' := by
  have a67 := OpV.g67 ho
  have a73 := OpV.g73 ho
  have a74 := OpV.g74 ho
  have hh : Hid (makesB o vg vz = vz) := by unfold Hid makesB addsB; simp [hk1, hk3, h0, h1]
  go_enter Tryz.func69, Tryz.ntmps69
  go_wp2_with (first | (refine load_part rfl 38 (.tmp 30) rfl _ 74 rfl _ _ (0, 0) _ _ (heap_alloc_new _ _) (OpV.pV ho) Tryz.underlying38 rfl (val_info _) ?_) | (refine load_part rfl 38 (.tmp 51) rfl _ 74 rfl _ _ (0, 0) _ _ (heap_alloc_new _ _) (OpV.pV ho) Tryz.underlying38 rfl (val_info _) ?_) | (go_at_call 95; with_reducible (refine (HG.out _ ((Below.refl _ _).alloc (Nat.le_refl _) _)).mono ?_); rintro e w1 ⟨rfl, hb1⟩) | (go_at_call 96; with_reducible (refine (HZ.out _ ((Below.refl _ _).alloc (Nat.le_refl _) _)).mono ?_); rintro e w1 ⟨rfl, hb1⟩))
  go_ret
  exact ⟨ret_bool hh.out.symm, below_then ((Below.refl _ _).alloc (Nat.le_refl _) _) (by simp) hb1⟩
set_option maxHeartbeats 1000000 in
theorem makes_k3_2 (hk1 : (o.K == 1) = false) (hk3 : (o.K == 3) = true) (h0 : (o.M == 0) = false) (h1 : (o.M == 1) = false) (h2 : (o.M == 2) = true) : Calls Tryz.prog 69 #[opv o] w fun e w' => e = .returned (.bool (makesB o vg vz)) ∧ Below w.heap.size w w' := by
  have a67 := OpV.g67 ho
  have a73 := OpV.g73 ho
  have a74 := OpV.g74 ho
  have hh : Hid (makesB o vg vz = vz) := by unfold Hid makesB addsB; simp [hk1, hk3, h0, h1, h2]
  go_enter Tryz.func69, Tryz.ntmps69
  go_wp2_with (first | (refine load_part rfl 38 (.tmp 30) rfl _ 74 rfl _ _ (0, 0) _ _ (heap_alloc_new _ _) (OpV.pV ho) Tryz.underlying38 rfl (val_info _) ?_) | (refine load_part rfl 38 (.tmp 51) rfl _ 74 rfl _ _ (0, 0) _ _ (heap_alloc_new _ _) (OpV.pV ho) Tryz.underlying38 rfl (val_info _) ?_) | (go_at_call 95; with_reducible (refine (HG.out _ ((Below.refl _ _).alloc (Nat.le_refl _) _)).mono ?_); rintro e w1 ⟨rfl, hb1⟩) | (go_at_call 96; with_reducible (refine (HZ.out _ ((Below.refl _ _).alloc (Nat.le_refl _) _)).mono ?_); rintro e w1 ⟨rfl, hb1⟩))
  go_ret
  exact ⟨ret_bool hh.out.symm, below_then ((Below.refl _ _).alloc (Nat.le_refl _) _) (by simp) hb1⟩
set_option maxHeartbeats 1000000 in
theorem makes_k3_0 (hk1 : (o.K == 1) = false) (hk3 : (o.K == 3) = true) (h0 : (o.M == 0) = false) (h1 : (o.M == 1) = false) (h2 : (o.M == 2) = false) : Calls Tryz.prog 69 #[opv o] w fun e w' => e = .returned (.bool (makesB o vg vz)) ∧ Below w.heap.size w w' := by
  have a67 := OpV.g67 ho
  have a73 := OpV.g73 ho
  have a74 := OpV.g74 ho
  have hh : Hid (makesB o vg vz = false) := by unfold Hid makesB addsB; simp [hk1, hk3, h0, h1, h2]
  go_enter Tryz.func69, Tryz.ntmps69
  go_wp2_with (first | (refine load_part rfl 38 (.tmp 30) rfl _ 74 rfl _ _ (0, 0) _ _ (heap_alloc_new _ _) (OpV.pV ho) Tryz.underlying38 rfl (val_info _) ?_) | (refine load_part rfl 38 (.tmp 51) rfl _ 74 rfl _ _ (0, 0) _ _ (heap_alloc_new _ _) (OpV.pV ho) Tryz.underlying38 rfl (val_info _) ?_) | (go_at_call 95; with_reducible (refine (HG.out _ ((Below.refl _ _).alloc (Nat.le_refl _) _)).mono ?_); rintro e w1 ⟨rfl, hb1⟩) | (go_at_call 96; with_reducible (refine (HZ.out _ ((Below.refl _ _).alloc (Nat.le_refl _) _)).mono ?_); rintro e w1 ⟨rfl, hb1⟩))
  go_ret
  exact ⟨ret_bool hh.out.symm, (Below.refl _ _).alloc (Nat.le_refl _) _⟩
theorem makes_k3 (hk1 : (o.K == 1) = false) (hk3 : (o.K == 3) = true) : Calls Tryz.prog 69 #[opv o] w fun e w' => e = .returned (.bool (makesB o vg vz)) ∧ Below w.heap.size w w' := by
  cases h0 : (o.M == 0)
  · cases h1 : (o.M == 1)
    · cases h2 : (o.M == 2)
      · exact makes_k3_0 o vg vz w ho HG HZ hk1 hk3 h0 h1 h2
      · exact makes_k3_2 o vg vz w ho HG HZ hk1 hk3 h0 h1 h2
    · exact makes_k3_1 o vg vz w ho HG HZ hk1 hk3 h0 h1
  · cases h5 : (o.VK != 5)
    · exact makes_k3_5 o vg vz w ho HG HZ hk1 hk3 h0 h5
    · cases h6 : (o.VK != 6)
      · exact makes_k3_6 o vg vz w ho HG HZ hk1 hk3 h0 h5 h6
      · exact makes_k3_g o vg vz w ho HG HZ hk1 hk3 h0 h5 h6
set_option maxHeartbeats 1000000 in
theorem makes_kn_0 (hk1 : (o.K == 1) = false) (hk3 : (o.K == 3) = false) (h0 : (o.M == 0) = true) : Calls Tryz.prog 69 #[opv o] w fun e w' => e = .returned (.bool (makesB o vg vz)) ∧ Below w.heap.size w w' := by
  have a67 := OpV.g67 ho
  have a73 := OpV.g73 ho
  have a74 := OpV.g74 ho
  have hh : Hid (makesB o vg vz = vz) := by unfold Hid makesB addsB; simp [hk1, hk3, h0]
  go_enter Tryz.func69, Tryz.ntmps69
  go_wp2_with (first | (refine load_part rfl 38 (.tmp 30) rfl _ 74 rfl _ _ (0, 0) _ _ (heap_alloc_new _ _) (OpV.pV ho) Tryz.underlying38 rfl (val_info _) ?_) | (refine load_part rfl 38 (.tmp 51) rfl _ 74 rfl _ _ (0, 0) _ _ (heap_alloc_new _ _) (OpV.pV ho) Tryz.underlying38 rfl (val_info _) ?_) | (go_at_call 95; with_reducible (refine (HG.out _ ((Below.refl _ _).alloc (Nat.le_refl _) _)).mono ?_); rintro e w1 ⟨rfl, hb1⟩) | (go_at_call 96; with_reducible (refine (HZ.out _ ((Below.refl _ _).alloc (Nat.le_refl _) _)).mono ?_); rintro e w1 ⟨rfl, hb1⟩))
  go_ret
  exact ⟨ret_bool hh.out.symm, below_then ((Below.refl _ _).alloc (Nat.le_refl _) _) (by simp) hb1⟩
set_option maxHeartbeats 1000000 in
theorem makes_kn_n (hk1 : (o.K == 1) = false) (hk3 : (o.K == 3) = false) (h0 : (o.M == 0) = false) : Calls Tryz.prog 69 #[opv o] w fun e w' => e = .returned (.bool (makesB o vg vz)) ∧ Below w.heap.size w w' := by
  have a67 := OpV.g67 ho
  have a73 := OpV.g73 ho
  have hh : Hid (makesB o vg vz = false) := by unfold Hid makesB addsB; simp [hk1, hk3, h0]
  go_enter Tryz.func69, Tryz.ntmps69
  go_wp2
  go_ret
  exact ⟨ret_bool hh.out.symm, (Below.refl _ _).alloc (Nat.le_refl _) _⟩
theorem makes_any : Calls Tryz.prog 69 #[opv o] w fun e w' => e = .returned (.bool (makesB o vg vz)) ∧ Below w.heap.size w w' := by
  cases hk1 : (o.K == 1)
  · cases hk3 : (o.K == 3)
    · cases h0 : (o.M == 0)
      · exact makes_kn_n o vg vz w ho HG HZ hk1 hk3 h0
      · exact makes_kn_0 o vg vz w ho HG HZ hk1 hk3 h0
    · exact makes_k3 o vg vz w ho HG HZ hk1 hk3
  · exact makes_k1 o vg vz w ho HG HZ hk1
end
end Go.Proofs.YtffcpmohanhihaaGreatDoor
namespace Go.Proofs.YtffcpmohanhihaaGreatDoor
open Go.RowKit
set_option linter.unusedVariables false
set_option linter.unusedSimpArgs false
theorem seen_info' (o : OpV) (h : o.seen.length = 64) : (Tryz.prog.info? 33).map (·.size) = some (vcells o.seen).size := by
  rw [vcells_size, h]; kernel_rfl
/-- May a vector's k-th number be what an operation has seen? -/
def seenAt (o : OpV) (k : Nat) : Bool := decide (0 ≤ vat o.seen k) && decide (vat o.seen k ≤ 60) && (!((k : Int) == o.R - 1) || (vat o.seen k == o.N - 1))
def seenTo (o : OpV) : Nat → Bool
  | 0 => true
  | k + 1 => seenTo o k && seenAt o k
def seenB (o : OpV) : Bool := seenTo o 64
theorem seenTo_iff (o : OpV) (n : Nat) : seenTo o n = true ↔ ∀ k, k < n → seenAt o k = true := by
  induction n with
  | zero => simp [seenTo]
  | succ n ih =>
    simp only [seenTo, Bool.and_eq_true, ih]
    constructor
    · rintro ⟨h1, h2⟩ k hk
      rcases Nat.lt_or_ge k n with h | h
      · exact h1 k h
      · obtain rfl : k = n := by omega
        exact h2
    · intro h
      exact ⟨fun k hk => h k (by omega), h n (by omega)⟩
theorem seenB_no {o : OpV} {k : Nat} (hk : k < 64) (h : seenAt o k = false) : seenB o = false := by
  rw [Bool.eq_false_iff]
  intro hs
  rw [(seenTo_iff o 64).1 hs k hk] at h
  cases h
theorem run_index_vec {P : Program} (t e : TypeId) (ht : P.underlying t = some (.array 64 e)) (he : P.underlying e = some (.int .i64)) (hs : (P.info? e).map (·.size) = some 1)
    (v : List Int) (hv : v.length = 64) (k : Nat) (hk : k < 64) (w : World) : (Instr.index t (.agg (vcells v)) (.int .i64 (k : Int))).run P w = .ok (.int .i64 (vat v k)) w := by
  obtain ⟨i0, hi0, hi1⟩ := Option.map_eq_some_iff.1 hs
  have hsz : (sizeOf e).run P w = .ok 1 w := by simp [sizeOf, typeInfo, hi0, hi1]
  have hag : (isAgg e).run P w = .ok false w := by
    unfold isAgg
    rw [Sem.run_bind, run_underlying he w]
    rfl
  have hp : (part e (vcells v) k).run P w = .ok (.int .i64 (vat v k)) w := by
    unfold part
    simp [Sem.run_bind, hag, vcells_get v k (by omega)]
  have hlt : (k : Int) < (64 : Nat) := by omega
  unfold Instr.index
  simp [asIntOf, Sem.run_bind, run_underlying ht, hsz, hp, hk]
set_option maxHeartbeats 4000000 in
theorem seen_any (o : OpV) (w : World) (ho : o.seen.length = 64) (hr1 : 1 ≤ o.R) (hr2 : o.R ≤ 64) (hn1 : 1 ≤ o.N) (hn2 : o.N ≤ 60) : Calls Tryz.prog 68 #[opv o] w fun e w' => e = .returned (.bool (seenB o)) ∧ Below w.heap.size w w' := by
  have a0 := OpV.g0 (o := o)
  have a1 := OpV.g1 (o := o)
  go_enter Tryz.func68, Tryz.ntmps68
  go_wp2_with (refine load_part rfl 33 (.tmp 5) rfl _ 3 rfl _ _ (0, 0) _ _ (heap_alloc_new _ _) (OpV.pSeen ho) Tryz.underlying33 rfl (seen_info' _ ho) ?_)
  go_loop [7] (fun iv => ∃ k : Nat, k ≤ 64 ∧ iv = .int .i64 (k : Int) ∧ Hid (seenTo o k = true)) (fun iv => 64 - (intOf iv).toNat)
  case atStart => exact ⟨0, by omega, rfl, rfl⟩
  case round =>
    obtain ⟨k, hk, rfl, H⟩ := hrel
    by_cases hlt : k < 64
    · have hix := run_index_vec (P := Tryz.prog) 33 2 Tryz.underlying33 Tryz.underlying2 (by kernel_rfl) o.seen ho k hlt
      have hat : Hid (seenAt o k = (decide (0 ≤ vat o.seen k) && decide (vat o.seen k ≤ 60) && (!((k : Int) == o.R - 1) || (vat o.seen k == o.N - 1)))) := rfl
      have hno := @seenB_no o k hlt
      have HN := Lib.hid hno
      clear hno
      generalize vat o.seen k = x at *
      by_cases h0 : x < 0
      · have hh : Hid (seenB o = false) := HN.out (by rw [hat.out, decide_eq_false (show ¬ 0 ≤ x by omega)]; rfl)
        clear hat HN
        go_wp2
        go_ret
        exact ⟨ret_bool hh.out.symm, (Below.refl _ _).alloc (Nat.le_refl _) _⟩
      · by_cases h6 : 60 < x
        · have hh : Hid (seenB o = false) := HN.out (by rw [hat.out, decide_eq_false (show ¬ x ≤ 60 by omega)]; simp)
          clear hat HN
          go_wp2
          go_ret
          exact ⟨ret_bool hh.out.symm, (Below.refl _ _).alloc (Nat.le_refl _) _⟩
        · by_cases hkr : (k : Int) = o.R - 1
          · have hkb : ((k : Int) == o.R - 1) = true := by simpa using hkr
            by_cases hxn : x = o.N - 1
            · have hxb : (x != o.N - 1) = false := by simpa using hxn
              have hs : Hid (seenTo o (k + 1) = true) := by unfold Hid; rw [seenTo, H.out, hat.out]; simp [hkr, hxn]; omega
              clear hat HN hkr hxn
              go_wp2
              go_round
              case rel => exact ⟨k + 1, by omega, by go_num, hs⟩
              case measure => simp [intOf]; omega
            · have hxb : (x != o.N - 1) = true := by simpa using hxn
              have hh : Hid (seenB o = false) := HN.out (by rw [hat.out]; simp [hkr, hxn])
              clear hat HN hkr hxn
              go_wp2
              go_ret
              exact ⟨ret_bool hh.out.symm, (Below.refl _ _).alloc (Nat.le_refl _) _⟩
          · have hkb : ((k : Int) == o.R - 1) = false := by simpa using hkr
            have hs : Hid (seenTo o (k + 1) = true) := by unfold Hid; rw [seenTo, H.out, hat.out]; simp [hkr]; omega
            clear hat HN hkr
            go_wp2
            go_round
            case rel => exact ⟨k + 1, by omega, by go_num, hs⟩
            case measure => simp [intOf]; omega
    · obtain rfl : k = 64 := by omega
      go_wp2
      go_ret
      exact ⟨ret_bool H.out.symm, (Below.refl _ _).alloc (Nat.le_refl _) _⟩
end Go.Proofs.YtffcpmohanhihaaGreatDoor
namespace Go.Proofs.YtffcpmohanhihaaGreatDoor
open Go.RowKit
set_option linter.unusedVariables false
set_option linter.unusedSimpArgs false
def namedB (o : OpV) (r n : Int) (nb : Bool) : Bool := if r = 0 ∧ n = 0 then nb else hasB o.seen r n
theorem seen_info (o : OpV) (h : o.seen.length = 64) : (Tryz.prog.info? 33).map (·.size) = some (vcells o.seen).size := by
  rw [vcells_size, h]; kernel_rfl
set_option maxHeartbeats 1000000 in
theorem named_any (o : OpV) (r n : Int) (nb : Bool) (w : World) (ho : o.seen.length = 64) : Calls Tryz.prog 71 #[opv o, .agg #[.int .i64 r, .int .i64 n], .bool nb] w fun e w' => e = .returned (.bool (namedB o r n nb)) ∧ Below w.heap.size w w' := by
  by_cases h1 : r = 0
  · subst h1
    by_cases h2 : n = 0
    · subst h2
      have hh : Hid (namedB o 0 0 nb = nb) := by unfold Hid namedB; simp
      go_enter Tryz.func71, Tryz.ntmps71
      go_wp2
      go_ret
      exact ⟨ret_bool hh.out.symm, ((Below.refl _ _).alloc (Nat.le_refl _) _).alloc (by simp) _⟩
    · have hh : Hid (namedB o 0 n nb = hasB o.seen 0 n) := by unfold Hid namedB; simp [h2]
      have h2b : (n == 0) = false := by simpa using h2
      clear h2
      go_enter Tryz.func71, Tryz.ntmps71
      go_wp2_with (first | (refine load_part rfl 33 (.tmp 11) rfl _ 3 rfl _ _ (0, 0) _ _ (heap_alloc2_old _ _ _) (OpV.pSeen ho) Tryz.underlying33 rfl (seen_info _ ho) ?_) | (go_at_call 42; with_reducible (refine (Has_any _ _ _ _ ho).mono ?_); rintro e w1 ⟨rfl, hb1⟩))
      go_ret
      exact ⟨ret_bool hh.out.symm, below_then (((Below.refl _ _).alloc (Nat.le_refl _) _).alloc (by simp) _) (by simp; omega) hb1⟩
  · have hh : Hid (namedB o r n nb = hasB o.seen r n) := by unfold Hid namedB; simp [h1]
    have h1b : (r == 0) = false := by simpa using h1
    clear h1
    go_enter Tryz.func71, Tryz.ntmps71
    go_wp2_with (first | (refine load_part rfl 33 (.tmp 11) rfl _ 3 rfl _ _ (0, 0) _ _ (heap_alloc2_old _ _ _) (OpV.pSeen ho) Tryz.underlying33 rfl (seen_info _ ho) ?_) | (go_at_call 42; with_reducible (refine (Has_any _ _ _ _ ho).mono ?_); rintro e w1 ⟨rfl, hb1⟩))
    go_ret
    exact ⟨ret_bool hh.out.symm, below_then (((Below.refl _ _).alloc (Nat.le_refl _) _).alloc (by simp) _) (by simp; omega) hb1⟩
end Go.Proofs.YtffcpmohanhihaaGreatDoor
